-- Written for this claim by a program of this session (wip/myprint in the proofs' repo)
import Derived.Test.YtgpffbijmohfjaaPFnIntervalHasx0
import Derived.Test.YtgpffbijmohfjaaPFnIntervalHasx3
namespace Go.Proofs.Ytgpffbijmohfjaa.PFnIntervalHas
open Go.RowKit Go.Proofs.YtgpffbijmohfjaaW.PrintWords Go.Proofs.YtgpffbijmohfjaaW.PrintLast Go.Proofs.YtgpffbijmohfjaaW.PrintMore
attribute [local go_sem] max2_int min2_int max_two min_two max_three min_three max_four min_four max2_strs min2_strs   -- for this text's walks alone
set_option linter.unusedVariables false
set_option linter.unusedSimpArgs false

/-! ### spec_l20Span: function 55 -/
def spec_l20Span.j0 : Nat → ByteArray → ByteArray → List Int → Int → Option (ByteArray × ByteArray × Int)
  | 0, _, _, _, _ => none
  | k + 1, x5, x6, x1000, x1001 => if (Op.bytesLess x5.toList x6.toList) = true then (some (x5, x6, x1001)) else (if (Op.bytesLess x6.toList x5.toList) = true then (some (x6, x5, x1001)) else (some (x5, (⟨#[]⟩ : ByteArray), x1001)))
def spec_l20Span.f (k : Nat) (s0_0 : List Int) (s0_1 : Int) (a1 : Int) : Option (ByteArray × ByteArray × Int) := (spec_l20Rd_odd.f k s0_0 s0_1 a1).bind fun bt154 => (if bt154.1 = true then ((some (([(⟨(⟨#[98]⟩ : ByteArray), (⟨#[98]⟩ : ByteArray)⟩ : S35), (⟨(⟨#[99]⟩ : ByteArray), (⟨#[98]⟩ : ByteArray)⟩ : S35), (⟨(⟨#[]⟩ : ByteArray), (⟨#[97]⟩ : ByteArray)⟩ : S35), (⟨(⟨#[65]⟩ : ByteArray), (⟨#[]⟩ : ByteArray)⟩ : S35), (⟨(⟨#[]⟩ : ByteArray), (⟨#[97, 98, 99, 100, 101]⟩ : ByteArray)⟩ : S35)] : List (S35)) : List (S35))).bind fun y156 => ((spec_l20Rd_pick.f k s0_0 bt154.2 5).bind fun bt159 => (if 0 ≤ bt159.1 then (if bt159.1 < (y156.length : Int) then (some ((rd_T35 y156 bt159.1).f0, (rd_T35 y156 bt159.1).f1, bt159.2)) else (none)) else (none)))) else ((spec_l20Key.f k s0_0 bt154.2 0).bind fun bt162 => ((spec_l20Key.f k s0_0 bt162.2 0).bind fun bt164 => ((spec_l20Rd_pick.f k s0_0 bt164.2 6).bind fun bt166 => (if bt166.1 = 0 then (some ((⟨#[]⟩ : ByteArray), (⟨#[]⟩ : ByteArray), bt166.2)) else (if bt166.1 = 1 then (some (bt162.1, (⟨#[]⟩ : ByteArray), bt166.2)) else (if bt166.1 = 2 then (if bt164.1.toList = ([97] : List UInt8) then (spec_l20Span.j0 k bt162.1 bt164.1 s0_0 bt166.2) else (some ((⟨#[]⟩ : ByteArray), bt164.1, bt166.2))) else (spec_l20Span.j0 k bt162.1 bt164.1 s0_0 bt166.2))))))))
theorem spec_l20Span.mono_l : ∀ k, (∀ y0 y1 y2 y3, LeO (spec_l20Span.j0 k y0 y1 y2 y3) (spec_l20Span.j0 (k + 1) y0 y1 y2 y3))
  | 0 => fun _ _ _ _ r h => by simp [spec_l20Span.j0] at h
  | k + 1 => by
    have ih0 := spec_l20Span.mono_l k
    · intro y0 y1 y2 y3
      unfold spec_l20Span.j0
      repeat' first
      | (with_reducible exact ih0 _ _ _ _)
      | (with_reducible exact spec_l20Key.mono _ _ _ _)
      | (with_reducible exact spec_l20Rd_odd.mono _ _ _ _)
      | (with_reducible exact spec_l20Rd_pick.mono _ _ _ _)
      | (with_reducible exact LeO.refl _)
      | (with_reducible exact LeO.none _)
      | (with_reducible refine LeO.ite ?_ ?_)
      | (with_reducible refine LeO.bind ?_ (fun _ => ?_))
      | exact ih0 _ _ _ _
      | exact spec_l20Key.mono _ _ _ _
      | exact spec_l20Rd_odd.mono _ _ _ _
      | exact spec_l20Rd_pick.mono _ _ _ _
      | exact LeO.none _
      | refine LeO.ite ?_ ?_
      | refine LeO.bind ?_ (fun _ => ?_)
theorem spec_l20Span.mono : ∀ a0 a1 a2 k, LeO (spec_l20Span.f k a0 a1 a2) (spec_l20Span.f (k + 1) a0 a1 a2) := by
  intro a0 a1 a2 k
  have ih0 := spec_l20Span.mono_l k
  unfold spec_l20Span.f
  repeat' first
      | (with_reducible exact ih0 _ _ _ _)
      | (with_reducible exact spec_l20Key.mono _ _ _ _)
      | (with_reducible exact spec_l20Rd_odd.mono _ _ _ _)
      | (with_reducible exact spec_l20Rd_pick.mono _ _ _ _)
      | (with_reducible exact LeO.refl _)
      | (with_reducible exact LeO.none _)
      | (with_reducible refine LeO.ite ?_ ?_)
      | (with_reducible refine LeO.bind ?_ (fun _ => ?_))
      | exact ih0 _ _ _ _
      | exact spec_l20Key.mono _ _ _ _
      | exact spec_l20Rd_odd.mono _ _ _ _
      | exact spec_l20Rd_pick.mono _ _ _ _
      | exact LeO.none _
      | refine LeO.ite ?_ ?_
      | refine LeO.bind ?_ (fun _ => ?_)
set_option maxHeartbeats 8000000 in
set_option maxRecDepth 100000 in
theorem spec_l20Span.calls (k : Nat) (g : Nat) (s0_0 : List Int) (s0_1 : Int) (a1 : Int) (r1 : ByteArray) (r2 : ByteArray) (r3 : Int) (w0 w : World) (hI : IsS62 w0 w g s0_0 s0_1) (hB : Below w0.heap.size w0 w) (h : spec_l20Span.f k s0_0 s0_1 a1 = some (r1, r2, r3)) :
    Calls Try.prog 55 #[.pointer (some ⟨g, 0, none⟩), .int .i64 a1] w fun e w' => e = .returned (.agg #[.string r1, .string r2]) ∧ IsS62 w0 w' g s0_0 r3 ∧ Below w0.heap.size w0 w' ∧ KeepBut w w' g none := by
  have hu35 := Try.underlying35
  have HI0 := Aside0.mk hI
  have HK := Aside0.mk (KeepBut.refl w g none)
  have HL := Aside0.mk hB.size
  clear hI
  have HW0 := Aside0.mk hB.size
  have HB := Aside0.mk hB
  clear hB
  have H : ((spec_l20Rd_odd.f k s0_0 s0_1 a1).bind fun bt154 => (if bt154.1 = true then ((some (([(⟨(⟨#[98]⟩ : ByteArray), (⟨#[98]⟩ : ByteArray)⟩ : S35), (⟨(⟨#[99]⟩ : ByteArray), (⟨#[98]⟩ : ByteArray)⟩ : S35), (⟨(⟨#[]⟩ : ByteArray), (⟨#[97]⟩ : ByteArray)⟩ : S35), (⟨(⟨#[65]⟩ : ByteArray), (⟨#[]⟩ : ByteArray)⟩ : S35), (⟨(⟨#[]⟩ : ByteArray), (⟨#[97, 98, 99, 100, 101]⟩ : ByteArray)⟩ : S35)] : List (S35)) : List (S35))).bind fun y156 => ((spec_l20Rd_pick.f k s0_0 bt154.2 5).bind fun bt159 => (if 0 ≤ bt159.1 then (if bt159.1 < (y156.length : Int) then (some ((rd_T35 y156 bt159.1).f0, (rd_T35 y156 bt159.1).f1, bt159.2)) else (none)) else (none)))) else ((spec_l20Key.f k s0_0 bt154.2 0).bind fun bt162 => ((spec_l20Key.f k s0_0 bt162.2 0).bind fun bt164 => ((spec_l20Rd_pick.f k s0_0 bt164.2 6).bind fun bt166 => (if bt166.1 = 0 then (some ((⟨#[]⟩ : ByteArray), (⟨#[]⟩ : ByteArray), bt166.2)) else (if bt166.1 = 1 then (some (bt162.1, (⟨#[]⟩ : ByteArray), bt166.2)) else (if bt166.1 = 2 then (if bt164.1.toList = ([97] : List UInt8) then (spec_l20Span.j0 k bt162.1 bt164.1 s0_0 bt166.2) else (some ((⟨#[]⟩ : ByteArray), bt164.1, bt166.2))) else (spec_l20Span.j0 k bt162.1 bt164.1 s0_0 bt166.2))))))))) = some (r1, r2, r3) := h
  clear h
  replace H := Option.bind_eq_some_iff.mp H
  obtain ⟨⟨t154, t155⟩, A30, H⟩ := H
  replace H : (if t154 = true then ((some (([(⟨(⟨#[98]⟩ : ByteArray), (⟨#[98]⟩ : ByteArray)⟩ : S35), (⟨(⟨#[99]⟩ : ByteArray), (⟨#[98]⟩ : ByteArray)⟩ : S35), (⟨(⟨#[]⟩ : ByteArray), (⟨#[97]⟩ : ByteArray)⟩ : S35), (⟨(⟨#[65]⟩ : ByteArray), (⟨#[]⟩ : ByteArray)⟩ : S35), (⟨(⟨#[]⟩ : ByteArray), (⟨#[97, 98, 99, 100, 101]⟩ : ByteArray)⟩ : S35)] : List (S35)) : List (S35))).bind fun y156 => ((spec_l20Rd_pick.f k s0_0 t155 5).bind fun bt159 => (if 0 ≤ bt159.1 then (if bt159.1 < (y156.length : Int) then (some ((rd_T35 y156 bt159.1).f0, (rd_T35 y156 bt159.1).f1, bt159.2)) else (none)) else (none)))) else ((spec_l20Key.f k s0_0 t155 0).bind fun bt162 => ((spec_l20Key.f k s0_0 bt162.2 0).bind fun bt164 => ((spec_l20Rd_pick.f k s0_0 bt164.2 6).bind fun bt166 => (if bt166.1 = 0 then (some ((⟨#[]⟩ : ByteArray), (⟨#[]⟩ : ByteArray), bt166.2)) else (if bt166.1 = 1 then (some (bt162.1, (⟨#[]⟩ : ByteArray), bt166.2)) else (if bt166.1 = 2 then (if bt164.1.toList = ([97] : List UInt8) then (spec_l20Span.j0 k bt162.1 bt164.1 s0_0 bt166.2) else (some ((⟨#[]⟩ : ByteArray), bt164.1, bt166.2))) else (spec_l20Span.j0 k bt162.1 bt164.1 s0_0 bt166.2)))))))) = some (r1, r2, r3) := H
  have A3 := Aside0.mk A30
  clear A30
  by_cases c4 : t154 = true
  · subst c4
    have H1 : ((some (([(⟨(⟨#[98]⟩ : ByteArray), (⟨#[98]⟩ : ByteArray)⟩ : S35), (⟨(⟨#[99]⟩ : ByteArray), (⟨#[98]⟩ : ByteArray)⟩ : S35), (⟨(⟨#[]⟩ : ByteArray), (⟨#[97]⟩ : ByteArray)⟩ : S35), (⟨(⟨#[65]⟩ : ByteArray), (⟨#[]⟩ : ByteArray)⟩ : S35), (⟨(⟨#[]⟩ : ByteArray), (⟨#[97, 98, 99, 100, 101]⟩ : ByteArray)⟩ : S35)] : List (S35)) : List (S35))).bind fun y156 => ((spec_l20Rd_pick.f k s0_0 t155 5).bind fun bt159 => (if 0 ≤ bt159.1 then (if bt159.1 < (y156.length : Int) then (some ((rd_T35 y156 bt159.1).f0, (rd_T35 y156 bt159.1).f1, bt159.2)) else (none)) else (none)))) = some (r1, r2, r3) := by rw [if_pos rfl] at H; exact H
    clear H
    have H := H1
    clear H1
    obtain ⟨y156, hy156⟩ : ∃ y_ : List (S35), y_ = (([(⟨(⟨#[98]⟩ : ByteArray), (⟨#[98]⟩ : ByteArray)⟩ : S35), (⟨(⟨#[99]⟩ : ByteArray), (⟨#[98]⟩ : ByteArray)⟩ : S35), (⟨(⟨#[]⟩ : ByteArray), (⟨#[97]⟩ : ByteArray)⟩ : S35), (⟨(⟨#[65]⟩ : ByteArray), (⟨#[]⟩ : ByteArray)⟩ : S35), (⟨(⟨#[]⟩ : ByteArray), (⟨#[97, 98, 99, 100, 101]⟩ : ByteArray)⟩ : S35)] : List (S35))) := ⟨_, rfl⟩
    replace H : ((spec_l20Rd_pick.f k s0_0 t155 5).bind fun bt159 => (if 0 ≤ bt159.1 then (if bt159.1 < (y156.length : Int) then (some ((rd_T35 y156 bt159.1).f0, (rd_T35 y156 bt159.1).f1, bt159.2)) else (none)) else (none))) = some (r1, r2, r3) := by first | (rw [hy156]; with_reducible exact H) | (have H2_ := (Option.bind_some _ _).symm.trans H; rw [hy156]; with_reducible exact H2_) | (have H2_ := (Option.bind_some _ _).symm.trans H; with_reducible exact H2_) | with_reducible exact H | (rw [hy156]; exact H) | exact H
    have Ny156 := Aside0.mk hy156
    clear hy156
    replace H := Option.bind_eq_some_iff.mp H
    obtain ⟨⟨t159, t160⟩, A50, H⟩ := H
    replace H : (if 0 ≤ t159 then (if t159 < (y156.length : Int) then (some ((rd_T35 y156 t159).f0, (rd_T35 y156 t159).f1, t160)) else (none)) else (none)) = some (r1, r2, r3) := H
    have A5 := Aside0.mk A50
    clear A50
    by_cases c6 : 0 ≤ t159
    · rw [if_pos c6] at H
      have c6b0 : decide (0 ≤ t159) = true := decide_eq_true c6
      clear c6
      by_cases c7 : t159 < (y156.length : Int)
      · rw [if_pos c7] at H
        have c7b0 : decide (t159 < (y156.length : Int)) = true := decide_eq_true c7
        clear c7
        simp only [Option.some.injEq, Prod.mk.injEq] at H
        obtain ⟨rfl, rfl, rfl⟩ := H
        go_enter Try.func55, Try.ntmps55
        go_wp2_with (first | ((with_reducible refine gate_dst (N := 4) rfl ?_); refine box_event ?hg (N := 4) ?hd (cs := #[.string (⟨#[]⟩ : ByteArray), .string (⟨#[]⟩ : ByteArray)]) (t := 35) ?hr ?_; (case hd => rfl); (case hg => rfl); (case hr => first | (go_simp; done) | (go_simp; rfl)); intro gb153 hg w8 hbox hb; have n0_ := Aside0.mk (IsS62.below (by repeat (first | (with_reducible first | exact HI0.out | apply IsS62.alloc | apply IsS62.drewN | apply IsS62.drew | apply IsS62.set_1) | exact HI0.out)) hb); have n1_ := Aside0.mk (KeepBut.trans (by repeat (first | (with_reducible first | exact HK.out | apply KeepBut.set_ | apply keep_drewN | apply keep_drew | apply keep_alloc) | exact HK.out)) (KeepBut.of_below hb g none) (.inl rfl)); have n2_ := Aside0.mk (below_step (by repeat (first | (with_reducible first | exact HB.out | apply below_alloc | apply pw_below_drewN | apply below_drew1 | refine below_set ?_ (IsS62.ge HI0.out)) | exact HB.out)) hb); have n3_ := Aside0.mk (hbox); have n4_ := Aside0.mk ((by rw [hg]; exact (keep_size (w := w) (g := g) (row := none) (by repeat (first | (with_reducible first | exact HK.out | apply KeepBut.set_ | apply keep_drewN | apply keep_drew | apply keep_alloc) | exact HK.out))) : w.heap.size ≤ gb153)); have n5_ := Aside0.mk ((Nat.le_trans HW0.out (by rw [hg]; exact (keep_size (w := w) (g := g) (row := none) (by repeat (first | (with_reducible first | exact HK.out | apply KeepBut.set_ | apply keep_drewN | apply keep_drew | apply keep_alloc) | exact HK.out))) : w.heap.size ≤ gb153) : w0.heap.size ≤ gb153)); have n6_ := Aside0.mk ((by rw [hg]; exact Nat.ne_of_lt (IsS62.lt (show IsS62 w0 _ g s0_0 s0_1 from by repeat (first | (with_reducible first | exact HI0.out | apply IsS62.alloc | apply IsS62.drewN | apply IsS62.drew | apply IsS62.set_1) | exact HI0.out))) : g ≠ gb153)); have n7_ := Aside0.mk ((by rw [hg]; exact Nat.ne_of_gt (IsS62.lt (show IsS62 w0 _ g s0_0 s0_1 from by repeat (first | (with_reducible first | exact HI0.out | apply IsS62.alloc | apply IsS62.drewN | apply IsS62.drew | apply IsS62.set_1) | exact HI0.out))) : gb153 ≠ g)); clear HI0; clear HK; clear HB; have HI0 := n0_; have HK := n1_; have HB := n2_; have BK153 := n3_; have GW153 := n4_; have GE153 := n5_; have NB0_153 := n6_; have NB153_0 := n7_; clear n0_ n1_ n2_ n3_ n4_ n5_ n6_ n7_; clear hb hbox hg) | ((with_reducible refine gate_callee (f := 59) rfl ?_); refine goesL_ (some 9) rfl rfl Try.func59 (by kernel_rfl) rfl #[.pointer (some ⟨g, 0, none⟩), .int .i64 a1] rfl (by (try simp only [List.map_toArray, List.map_cons, List.map_nil]); first | done | rfl | (simp only [List.length_drop, List.length_take]; rfl)) ?_; (with_reducible refine (spec_l20Rd_odd.calls k g s0_0 s0_1 a1 true t155 w0 _ ?side1 ?side2 A3.out).mono ?_); (case side1 => repeat (first | (with_reducible first | exact HI0.out | apply IsS62.alloc | apply IsS62.drewN | apply IsS62.drew | apply IsS62.set_1 | refine IsS62.far ?_ NB0_153.out _) | exact HI0.out)); (case side2 => repeat (first | (with_reducible first | exact HB.out | apply below_alloc | apply pw_below_drewN | apply below_drew1 | refine below_set ?_ (IsS62.ge HI0.out) | refine below_set ?_ GE153.out) | exact HB.out)); rintro e w9 ⟨rfl, hi, hb, hk⟩; refine ⟨_, rfl, ?_⟩; have n0_ := Aside0.mk (KeepBut.blk hk (g' := gb153) (o := .cells #[.string (⟨#[]⟩ : ByteArray), .string (⟨#[]⟩ : ByteArray)] 35 (0, 0)) (by (with_reducible repeat (first | refine blk_drewN ?_ _ | refine blk_drew ?_ | refine blk_alloc ?_ _)); exact BK153.out) NB153_0.out (by simp)); have n1_ := Aside0.mk (KeepBut.trans (by repeat (first | (with_reducible first | exact HK.out | apply KeepBut.set_ | apply keep_drewN | apply keep_drew | apply keep_alloc | refine keep_far ?_ GW153.out _) | exact HK.out)) hk (.inl rfl)); have n2_ := Aside0.mk (hb); have n3_ := Aside0.mk (hi); clear BK153; clear HK; clear HB; clear HI0; have BK153 := n0_; have HK := n1_; have HB := n2_; have HI0 := n3_; clear n0_ n1_ n2_ n3_; (try clear hb); (try clear hb2); (try clear hk); (try clear hi)) | ((with_reducible refine gate_dst (N := 15) rfl ?_); refine Kd.R_lit k35 _ 35 ?hg (N := 15) ?hd (xs := ([(⟨(⟨#[98]⟩ : ByteArray), (⟨#[98]⟩ : ByteArray)⟩ : S35), (⟨(⟨#[99]⟩ : ByteArray), (⟨#[98]⟩ : ByteArray)⟩ : S35), (⟨(⟨#[]⟩ : ByteArray), (⟨#[97]⟩ : ByteArray)⟩ : S35), (⟨(⟨#[65]⟩ : ByteArray), (⟨#[]⟩ : ByteArray)⟩ : S35), (⟨(⟨#[]⟩ : ByteArray), (⟨#[97, 98, 99, 100, 101]⟩ : ByteArray)⟩ : S35)] : List (S35))) (inner := [.string (⟨#[98]⟩ : ByteArray), .string (⟨#[98]⟩ : ByteArray), .string (⟨#[99]⟩ : ByteArray), .string (⟨#[98]⟩ : ByteArray), .string (⟨#[]⟩ : ByteArray), .string (⟨#[97]⟩ : ByteArray), .string (⟨#[65]⟩ : ByteArray), .string (⟨#[]⟩ : ByteArray), .string (⟨#[]⟩ : ByteArray), .string (⟨#[97, 98, 99, 100, 101]⟩ : ByteArray)]) (ok := fun _ => True) (okp := fun _ => True) ?hr ?hp (fun _ hk => hk) trivial (Below.refl _ _) (Nat.le_refl _) (by simp) ?_; (case hd => rfl); (case hg => rfl); (case hr => first | (go_simp; done) | (go_simp; rfl)); (case hp => exact (Reps.c2 (show Kd.M k35 _ _ _ (⟨(⟨#[98]⟩ : ByteArray), (⟨#[98]⟩ : ByteArray)⟩ : S35) [.string (⟨#[98]⟩ : ByteArray), .string (⟨#[98]⟩ : ByteArray)] from (k35_mkM _ _ _ (⟨(⟨#[98]⟩ : ByteArray), (⟨#[98]⟩ : ByteArray)⟩ : S35) )) (Reps.c2 (show Kd.M k35 _ _ _ (⟨(⟨#[99]⟩ : ByteArray), (⟨#[98]⟩ : ByteArray)⟩ : S35) [.string (⟨#[99]⟩ : ByteArray), .string (⟨#[98]⟩ : ByteArray)] from (k35_mkM _ _ _ (⟨(⟨#[99]⟩ : ByteArray), (⟨#[98]⟩ : ByteArray)⟩ : S35) )) (Reps.c2 (show Kd.M k35 _ _ _ (⟨(⟨#[]⟩ : ByteArray), (⟨#[97]⟩ : ByteArray)⟩ : S35) [.string (⟨#[]⟩ : ByteArray), .string (⟨#[97]⟩ : ByteArray)] from (k35_mkM _ _ _ (⟨(⟨#[]⟩ : ByteArray), (⟨#[97]⟩ : ByteArray)⟩ : S35) )) (Reps.c2 (show Kd.M k35 _ _ _ (⟨(⟨#[65]⟩ : ByteArray), (⟨#[]⟩ : ByteArray)⟩ : S35) [.string (⟨#[65]⟩ : ByteArray), .string (⟨#[]⟩ : ByteArray)] from (k35_mkM _ _ _ (⟨(⟨#[65]⟩ : ByteArray), (⟨#[]⟩ : ByteArray)⟩ : S35) )) (Reps.c2 (show Kd.M k35 _ _ _ (⟨(⟨#[]⟩ : ByteArray), (⟨#[97, 98, 99, 100, 101]⟩ : ByteArray)⟩ : S35) [.string (⟨#[]⟩ : ByteArray), .string (⟨#[97, 98, 99, 100, 101]⟩ : ByteArray)] from (k35_mkM _ _ _ (⟨(⟨#[]⟩ : ByteArray), (⟨#[97, 98, 99, 100, 101]⟩ : ByteArray)⟩ : S35) )) (Reps.none _ _))))))); intro v157 w10 ho11 hb hg_ hnew_; clear hg_ hnew_; (first | rw [← Ny156.out] at ho11 | (simp only [Int.reduceToNat] at ho11; rw [← Ny156.out] at ho11)); have n0_ := Aside0.mk (Kd.R_lower (Kd.R_newB ho11 (g := gb153) (o := .cells #[.string (⟨#[]⟩ : ByteArray), .string (⟨#[]⟩ : ByteArray)] 35 (0, 0)) (by (with_reducible repeat (first | refine blk_drewN ?_ _ | refine blk_drew ?_ | refine blk_alloc ?_ _)); exact BK153.out)) (keep_size (w := w) (g := g) (row := none) (by repeat (first | (with_reducible first | exact HK.out | apply KeepBut.set_ | apply keep_drewN | apply keep_drew | apply keep_alloc | refine keep_far ?_ GW153.out _) | exact HK.out)))); have n1_ := Aside0.mk (IsS62.below (by repeat (first | (with_reducible first | exact HI0.out | apply IsS62.alloc | apply IsS62.drewN | apply IsS62.drew | apply IsS62.set_1 | refine IsS62.far ?_ NB0_153.out _) | exact HI0.out)) hb); have n2_ := Aside0.mk (blk_below (g := gb153) (o := .cells #[.string (⟨#[]⟩ : ByteArray), .string (⟨#[]⟩ : ByteArray)] 35 (0, 0)) (by (with_reducible repeat (first | refine blk_drewN ?_ _ | refine blk_drew ?_ | refine blk_alloc ?_ _)); exact BK153.out) hb); have n3_ := Aside0.mk (KeepBut.trans (by repeat (first | (with_reducible first | exact HK.out | apply KeepBut.set_ | apply keep_drewN | apply keep_drew | apply keep_alloc | refine keep_far ?_ GW153.out _) | exact HK.out)) (KeepBut.of_below hb g none) (.inl rfl)); have n4_ := Aside0.mk (below_step (by repeat (first | (with_reducible first | exact HB.out | apply below_alloc | apply pw_below_drewN | apply below_drew1 | refine below_set ?_ (IsS62.ge HI0.out) | refine below_set ?_ GE153.out) | exact HB.out)) hb); clear HI0; clear BK153; clear HK; clear HB; have HO158 := n0_; have HI0 := n1_; have BK153 := n2_; have HK := n3_; have HB := n4_; clear n0_ n1_ n2_ n3_ n4_; clear hb ho11) | ((with_reducible refine gate_callee (f := 51) rfl ?_); refine goesL_ (some 17) rfl rfl Try.func51 (by kernel_rfl) rfl #[.pointer (some ⟨g, 0, none⟩), .int .i64 5] rfl (by (try simp only [List.map_toArray, List.map_cons, List.map_nil]); first | done | rfl | (simp only [List.length_drop, List.length_take]; rfl)) ?_; (with_reducible refine (spec_l20Rd_pick.calls k g s0_0 t155 5 t159 t160 w0 _ ?side1 ?side2 A5.out).mono ?_); (case side1 => repeat (first | (with_reducible first | exact HI0.out | apply IsS62.alloc | apply IsS62.drewN | apply IsS62.drew | apply IsS62.set_1 | refine IsS62.far ?_ NB0_153.out _) | exact HI0.out)); (case side2 => repeat (first | (with_reducible first | exact HB.out | apply below_alloc | apply pw_below_drewN | apply below_drew1 | refine below_set ?_ (IsS62.ge HI0.out) | refine below_set ?_ GE153.out) | exact HB.out)); rintro e w12 ⟨rfl, hi, hb, hk⟩; refine ⟨_, rfl, ?_⟩; have n0_ := Aside0.mk (KeepBut.blk hk (g' := gb153) (o := .cells #[.string (⟨#[]⟩ : ByteArray), .string (⟨#[]⟩ : ByteArray)] 35 (0, 0)) (by (with_reducible repeat (first | refine blk_drewN ?_ _ | refine blk_drew ?_ | refine blk_alloc ?_ _)); exact BK153.out) NB153_0.out (by simp)); have n1_ := Aside0.mk (Kd.R_mono (Kd.R_keep (IsS62.apart (show IsS62 w0 _ g s0_0 t155 from by repeat (first | (with_reducible first | exact HI0.out | apply IsS62.alloc | apply IsS62.drewN | apply IsS62.drew | apply IsS62.set_1 | refine IsS62.far ?_ NB0_153.out _) | exact HI0.out)) (by (with_reducible repeat (first | apply Kd.R_alloc | apply Kd.R_drewN | apply Kd.R_drew)); exact HO158.out) (by decide)) hk (fun _ h => h.2)) (fun _ h => h.1)); have n2_ := Aside0.mk (KeepBut.trans (by repeat (first | (with_reducible first | exact HK.out | apply KeepBut.set_ | apply keep_drewN | apply keep_drew | apply keep_alloc | refine keep_far ?_ GW153.out _) | exact HK.out)) hk (.inl rfl)); have n3_ := Aside0.mk (hb); have n4_ := Aside0.mk (hi); clear BK153; clear HO158; clear HK; clear HB; clear HI0; have BK153 := n0_; have HO158 := n1_; have HK := n2_; have HB := n3_; have HI0 := n4_; clear n0_ n1_ n2_ n3_ n4_; (try clear hb); (try clear hb2); (try clear hk); (try clear hi); obtain ⟨Ao13, co13, eo13⟩ := Kd.R_slice HO158.out; subst eo13; have p161 : 0 ≤ (t159 : Int) := of_decide_eq_true (by first | (with_reducible assumption) | assumption); have q161 : t159 < (y156.length : Int) := of_decide_eq_true (by first | (with_reducible assumption) | assumption); obtain ⟨ad161, e161, hx161_0, hx161_1⟩ := at_T35 (Kd.R_reads' HO158.out).2.2 t159 p161 q161; cases e161; replace p161 := eq_true p161; replace q161 := eq_true q161; have hnb14 := NB153_0.out; have hnc14 := NB0_153.out; have hcz15_0 : w12.cell? ⟨gb153, 0, none⟩ = some (.string (⟨#[]⟩ : ByteArray)) := (blk_cell BK153.out 0).trans rfl; have hcz15_1 : w12.cell? ⟨gb153, 1, none⟩ = some (.string (⟨#[]⟩ : ByteArray)) := (blk_cell BK153.out 1).trans rfl; have hfz15_0 := blk_frozen BK153.out 0; have hfz15_1 := blk_frozen BK153.out 1))
        refine bodyPost_ret (results_cell_row rfl _ _ gb153 35 #[.string ((rd_T35 y156 t159).f0), .string ((rd_T35 y156 t159).f1)] (0, 0) _ rfl (by (with_reducible repeat (first | refine blk_drewN ?_ _ | refine blk_drew ?_ | refine blk_alloc ?_ _)); refine blk_put (cs := #[.string ((rd_T35 y156 t159).f0), .string (⟨#[]⟩ : ByteArray)]) ?_ 1 _ rfl; (with_reducible repeat (first | refine blk_drewN ?_ _ | refine blk_drew ?_ | refine blk_alloc ?_ _)); refine blk_put (cs := #[.string (⟨#[]⟩ : ByteArray), .string (⟨#[]⟩ : ByteArray)]) ?_ 0 _ rfl; (with_reducible repeat (first | refine blk_drewN ?_ _ | refine blk_drew ?_ | refine blk_alloc ?_ _)); exact BK153.out) Try.underlying35 rfl (by kernel_rfl)) rfl ?_
        exact ⟨by first | rfl | (simp only [u8_w_, w64_u8_]; done) | (simp only [u8_w_, w64_u8_]; rfl) | (simp [errW_none, errW_some] <;> rfl) | (simp [*, errW_none, errW_some] <;> rfl), by repeat (first | (with_reducible first | exact HI0.out | apply IsS62.alloc | apply IsS62.drewN | apply IsS62.drew | apply IsS62.set_1 | refine IsS62.far ?_ NB0_153.out _) | exact HI0.out), by repeat (first | (with_reducible first | exact HB.out | apply below_alloc | apply pw_below_drewN | apply below_drew1 | refine below_set ?_ (IsS62.ge HI0.out) | refine below_set ?_ GE153.out) | exact HB.out), by repeat (first | (with_reducible first | exact HK.out | apply KeepBut.set_ | apply keep_drewN | apply keep_drew | apply keep_alloc | refine keep_far ?_ GW153.out _) | exact HK.out)⟩
      · rw [if_neg c7] at H
        exact absurd H (by simp)
    · rw [if_neg c6] at H
      exact absurd H (by simp)
  · replace c4 := Bool.eq_false_iff.mpr c4
    subst c4
    have H1 : ((spec_l20Key.f k s0_0 t155 0).bind fun bt162 => ((spec_l20Key.f k s0_0 bt162.2 0).bind fun bt164 => ((spec_l20Rd_pick.f k s0_0 bt164.2 6).bind fun bt166 => (if bt166.1 = 0 then (some ((⟨#[]⟩ : ByteArray), (⟨#[]⟩ : ByteArray), bt166.2)) else (if bt166.1 = 1 then (some (bt162.1, (⟨#[]⟩ : ByteArray), bt166.2)) else (if bt166.1 = 2 then (if bt164.1.toList = ([97] : List UInt8) then (spec_l20Span.j0 k bt162.1 bt164.1 s0_0 bt166.2) else (some ((⟨#[]⟩ : ByteArray), bt164.1, bt166.2))) else (spec_l20Span.j0 k bt162.1 bt164.1 s0_0 bt166.2))))))) = some (r1, r2, r3) := by rw [if_neg (show ¬ (false = true) by decide)] at H; exact H
    clear H
    have H := H1
    clear H1
    replace H := Option.bind_eq_some_iff.mp H
    obtain ⟨⟨t162, t163⟩, A160, H⟩ := H
    replace H : ((spec_l20Key.f k s0_0 t163 0).bind fun bt164 => ((spec_l20Rd_pick.f k s0_0 bt164.2 6).bind fun bt166 => (if bt166.1 = 0 then (some ((⟨#[]⟩ : ByteArray), (⟨#[]⟩ : ByteArray), bt166.2)) else (if bt166.1 = 1 then (some (t162, (⟨#[]⟩ : ByteArray), bt166.2)) else (if bt166.1 = 2 then (if bt164.1.toList = ([97] : List UInt8) then (spec_l20Span.j0 k t162 bt164.1 s0_0 bt166.2) else (some ((⟨#[]⟩ : ByteArray), bt164.1, bt166.2))) else (spec_l20Span.j0 k t162 bt164.1 s0_0 bt166.2)))))) = some (r1, r2, r3) := H
    have A16 := Aside0.mk A160
    clear A160
    replace H := Option.bind_eq_some_iff.mp H
    obtain ⟨⟨t164, t165⟩, A170, H⟩ := H
    replace H : ((spec_l20Rd_pick.f k s0_0 t165 6).bind fun bt166 => (if bt166.1 = 0 then (some ((⟨#[]⟩ : ByteArray), (⟨#[]⟩ : ByteArray), bt166.2)) else (if bt166.1 = 1 then (some (t162, (⟨#[]⟩ : ByteArray), bt166.2)) else (if bt166.1 = 2 then (if t164.toList = ([97] : List UInt8) then (spec_l20Span.j0 k t162 t164 s0_0 bt166.2) else (some ((⟨#[]⟩ : ByteArray), t164, bt166.2))) else (spec_l20Span.j0 k t162 t164 s0_0 bt166.2))))) = some (r1, r2, r3) := H
    have A17 := Aside0.mk A170
    clear A170
    replace H := Option.bind_eq_some_iff.mp H
    obtain ⟨⟨t166, t167⟩, A180, H⟩ := H
    replace H : (if t166 = 0 then (some ((⟨#[]⟩ : ByteArray), (⟨#[]⟩ : ByteArray), t167)) else (if t166 = 1 then (some (t162, (⟨#[]⟩ : ByteArray), t167)) else (if t166 = 2 then (if t164.toList = ([97] : List UInt8) then (spec_l20Span.j0 k t162 t164 s0_0 t167) else (some ((⟨#[]⟩ : ByteArray), t164, t167))) else (spec_l20Span.j0 k t162 t164 s0_0 t167)))) = some (r1, r2, r3) := H
    have A18 := Aside0.mk A180
    clear A180
    have HC19 := Aside0.mk H
    clear H
    go_enter Try.func55, Try.ntmps55
    go_upto_block 0 with (first | ((with_reducible refine gate_dst (N := 4) rfl ?_); refine box_event ?hg (N := 4) ?hd (cs := #[.string (⟨#[]⟩ : ByteArray), .string (⟨#[]⟩ : ByteArray)]) (t := 35) ?hr ?_; (case hd => rfl); (case hg => rfl); (case hr => first | (go_simp; done) | (go_simp; rfl)); intro gb153 hg w20 hbox hb; have n0_ := Aside0.mk (IsS62.below (by repeat (first | (with_reducible first | exact HI0.out | apply IsS62.alloc | apply IsS62.drewN | apply IsS62.drew | apply IsS62.set_1) | exact HI0.out)) hb); have n1_ := Aside0.mk (KeepBut.trans (by repeat (first | (with_reducible first | exact HK.out | apply KeepBut.set_ | apply keep_drewN | apply keep_drew | apply keep_alloc) | exact HK.out)) (KeepBut.of_below hb g none) (.inl rfl)); have n2_ := Aside0.mk (below_step (by repeat (first | (with_reducible first | exact HB.out | apply below_alloc | apply pw_below_drewN | apply below_drew1 | refine below_set ?_ (IsS62.ge HI0.out)) | exact HB.out)) hb); have n3_ := Aside0.mk (hbox); have n4_ := Aside0.mk ((by rw [hg]; exact (keep_size (w := w) (g := g) (row := none) (by repeat (first | (with_reducible first | exact HK.out | apply KeepBut.set_ | apply keep_drewN | apply keep_drew | apply keep_alloc) | exact HK.out))) : w.heap.size ≤ gb153)); have n5_ := Aside0.mk ((Nat.le_trans HW0.out (by rw [hg]; exact (keep_size (w := w) (g := g) (row := none) (by repeat (first | (with_reducible first | exact HK.out | apply KeepBut.set_ | apply keep_drewN | apply keep_drew | apply keep_alloc) | exact HK.out))) : w.heap.size ≤ gb153) : w0.heap.size ≤ gb153)); have n6_ := Aside0.mk ((by rw [hg]; exact Nat.ne_of_lt (IsS62.lt (show IsS62 w0 _ g s0_0 s0_1 from by repeat (first | (with_reducible first | exact HI0.out | apply IsS62.alloc | apply IsS62.drewN | apply IsS62.drew | apply IsS62.set_1) | exact HI0.out))) : g ≠ gb153)); have n7_ := Aside0.mk ((by rw [hg]; exact Nat.ne_of_gt (IsS62.lt (show IsS62 w0 _ g s0_0 s0_1 from by repeat (first | (with_reducible first | exact HI0.out | apply IsS62.alloc | apply IsS62.drewN | apply IsS62.drew | apply IsS62.set_1) | exact HI0.out))) : gb153 ≠ g)); clear HI0; clear HK; clear HB; have HI0 := n0_; have HK := n1_; have HB := n2_; have BK153 := n3_; have GW153 := n4_; have GE153 := n5_; have NB0_153 := n6_; have NB153_0 := n7_; clear n0_ n1_ n2_ n3_ n4_ n5_ n6_ n7_; clear hb hbox hg) | ((with_reducible refine gate_callee (f := 59) rfl ?_); refine goesL_ (some 9) rfl rfl Try.func59 (by kernel_rfl) rfl #[.pointer (some ⟨g, 0, none⟩), .int .i64 a1] rfl (by (try simp only [List.map_toArray, List.map_cons, List.map_nil]); first | done | rfl | (simp only [List.length_drop, List.length_take]; rfl)) ?_; (with_reducible refine (spec_l20Rd_odd.calls k g s0_0 s0_1 a1 false t155 w0 _ ?side1 ?side2 A3.out).mono ?_); (case side1 => repeat (first | (with_reducible first | exact HI0.out | apply IsS62.alloc | apply IsS62.drewN | apply IsS62.drew | apply IsS62.set_1 | refine IsS62.far ?_ NB0_153.out _) | exact HI0.out)); (case side2 => repeat (first | (with_reducible first | exact HB.out | apply below_alloc | apply pw_below_drewN | apply below_drew1 | refine below_set ?_ (IsS62.ge HI0.out) | refine below_set ?_ GE153.out) | exact HB.out)); rintro e w21 ⟨rfl, hi, hb, hk⟩; refine ⟨_, rfl, ?_⟩; have n0_ := Aside0.mk (KeepBut.blk hk (g' := gb153) (o := .cells #[.string (⟨#[]⟩ : ByteArray), .string (⟨#[]⟩ : ByteArray)] 35 (0, 0)) (by (with_reducible repeat (first | refine blk_drewN ?_ _ | refine blk_drew ?_ | refine blk_alloc ?_ _)); exact BK153.out) NB153_0.out (by simp)); have n1_ := Aside0.mk (KeepBut.trans (by repeat (first | (with_reducible first | exact HK.out | apply KeepBut.set_ | apply keep_drewN | apply keep_drew | apply keep_alloc | refine keep_far ?_ GW153.out _) | exact HK.out)) hk (.inl rfl)); have n2_ := Aside0.mk (hb); have n3_ := Aside0.mk (hi); clear BK153; clear HK; clear HB; clear HI0; have BK153 := n0_; have HK := n1_; have HB := n2_; have HI0 := n3_; clear n0_ n1_ n2_ n3_; (try clear hb); (try clear hb2); (try clear hk); (try clear hi)) | ((with_reducible refine gate_callee (f := 45) rfl ?_); refine goesL_ (some 21) rfl rfl Try.func45 (by kernel_rfl) rfl #[.pointer (some ⟨g, 0, none⟩), .int .i64 0] rfl (by (try simp only [List.map_toArray, List.map_cons, List.map_nil]); first | done | rfl | (simp only [List.length_drop, List.length_take]; rfl)) ?_; (with_reducible refine (spec_l20Key.calls k g s0_0 t155 0 t162 t163 w0 _ ?side1 ?side2 A16.out).mono ?_); (case side1 => repeat (first | (with_reducible first | exact HI0.out | apply IsS62.alloc | apply IsS62.drewN | apply IsS62.drew | apply IsS62.set_1 | refine IsS62.far ?_ NB0_153.out _) | exact HI0.out)); (case side2 => repeat (first | (with_reducible first | exact HB.out | apply below_alloc | apply pw_below_drewN | apply below_drew1 | refine below_set ?_ (IsS62.ge HI0.out) | refine below_set ?_ GE153.out) | exact HB.out)); rintro e w22 ⟨rfl, hi, hb, hk⟩; refine ⟨_, rfl, ?_⟩; have n0_ := Aside0.mk (KeepBut.blk hk (g' := gb153) (o := .cells #[.string (⟨#[]⟩ : ByteArray), .string (⟨#[]⟩ : ByteArray)] 35 (0, 0)) (by (with_reducible repeat (first | refine blk_drewN ?_ _ | refine blk_drew ?_ | refine blk_alloc ?_ _)); exact BK153.out) NB153_0.out (by simp)); have n1_ := Aside0.mk (KeepBut.trans (by repeat (first | (with_reducible first | exact HK.out | apply KeepBut.set_ | apply keep_drewN | apply keep_drew | apply keep_alloc | refine keep_far ?_ GW153.out _) | exact HK.out)) hk (.inl rfl)); have n2_ := Aside0.mk (hb); have n3_ := Aside0.mk (hi); clear BK153; clear HK; clear HB; clear HI0; have BK153 := n0_; have HK := n1_; have HB := n2_; have HI0 := n3_; clear n0_ n1_ n2_ n3_; (try clear hb); (try clear hb2); (try clear hk); (try clear hi)) | ((with_reducible refine gate_callee (f := 45) rfl ?_); refine goesL_ (some 23) rfl rfl Try.func45 (by kernel_rfl) rfl #[.pointer (some ⟨g, 0, none⟩), .int .i64 0] rfl (by (try simp only [List.map_toArray, List.map_cons, List.map_nil]); first | done | rfl | (simp only [List.length_drop, List.length_take]; rfl)) ?_; (with_reducible refine (spec_l20Key.calls k g s0_0 t163 0 t164 t165 w0 _ ?side1 ?side2 A17.out).mono ?_); (case side1 => repeat (first | (with_reducible first | exact HI0.out | apply IsS62.alloc | apply IsS62.drewN | apply IsS62.drew | apply IsS62.set_1 | refine IsS62.far ?_ NB0_153.out _) | exact HI0.out)); (case side2 => repeat (first | (with_reducible first | exact HB.out | apply below_alloc | apply pw_below_drewN | apply below_drew1 | refine below_set ?_ (IsS62.ge HI0.out) | refine below_set ?_ GE153.out) | exact HB.out)); rintro e w23 ⟨rfl, hi, hb, hk⟩; refine ⟨_, rfl, ?_⟩; have n0_ := Aside0.mk (KeepBut.blk hk (g' := gb153) (o := .cells #[.string (⟨#[]⟩ : ByteArray), .string (⟨#[]⟩ : ByteArray)] 35 (0, 0)) (by (with_reducible repeat (first | refine blk_drewN ?_ _ | refine blk_drew ?_ | refine blk_alloc ?_ _)); exact BK153.out) NB153_0.out (by simp)); have n1_ := Aside0.mk (KeepBut.trans (by repeat (first | (with_reducible first | exact HK.out | apply KeepBut.set_ | apply keep_drewN | apply keep_drew | apply keep_alloc | refine keep_far ?_ GW153.out _) | exact HK.out)) hk (.inl rfl)); have n2_ := Aside0.mk (hb); have n3_ := Aside0.mk (hi); clear BK153; clear HK; clear HB; clear HI0; have BK153 := n0_; have HK := n1_; have HB := n2_; have HI0 := n3_; clear n0_ n1_ n2_ n3_; (try clear hb); (try clear hb2); (try clear hk); (try clear hi)) | ((with_reducible refine gate_callee (f := 51) rfl ?_); refine goesL_ (some 25) rfl rfl Try.func51 (by kernel_rfl) rfl #[.pointer (some ⟨g, 0, none⟩), .int .i64 6] rfl (by (try simp only [List.map_toArray, List.map_cons, List.map_nil]); first | done | rfl | (simp only [List.length_drop, List.length_take]; rfl)) ?_; (with_reducible refine (spec_l20Rd_pick.calls k g s0_0 t165 6 t166 t167 w0 _ ?side1 ?side2 A18.out).mono ?_); (case side1 => repeat (first | (with_reducible first | exact HI0.out | apply IsS62.alloc | apply IsS62.drewN | apply IsS62.drew | apply IsS62.set_1 | refine IsS62.far ?_ NB0_153.out _) | exact HI0.out)); (case side2 => repeat (first | (with_reducible first | exact HB.out | apply below_alloc | apply pw_below_drewN | apply below_drew1 | refine below_set ?_ (IsS62.ge HI0.out) | refine below_set ?_ GE153.out) | exact HB.out)); rintro e w24 ⟨rfl, hi, hb, hk⟩; refine ⟨_, rfl, ?_⟩; have n0_ := Aside0.mk (KeepBut.blk hk (g' := gb153) (o := .cells #[.string (⟨#[]⟩ : ByteArray), .string (⟨#[]⟩ : ByteArray)] 35 (0, 0)) (by (with_reducible repeat (first | refine blk_drewN ?_ _ | refine blk_drew ?_ | refine blk_alloc ?_ _)); exact BK153.out) NB153_0.out (by simp)); have n1_ := Aside0.mk (KeepBut.trans (by repeat (first | (with_reducible first | exact HK.out | apply KeepBut.set_ | apply keep_drewN | apply keep_drew | apply keep_alloc | refine keep_far ?_ GW153.out _) | exact HK.out)) hk (.inl rfl)); have n2_ := Aside0.mk (hb); have n3_ := Aside0.mk (hi); clear BK153; clear HK; clear HB; clear HI0; have BK153 := n0_; have HK := n1_; have HB := n2_; have HI0 := n3_; clear n0_ n1_ n2_ n3_; (try clear hb); (try clear hb2); (try clear hk); (try clear hi)))
    (try simp only [Act.put, List.setIfInBounds_toArray, List.set_cons_zero, List.set_cons_succ])
    go_cut [] (fun wc => ∃ (kq : Nat) (x154000_18 : ByteArray) (x154001_18 : ByteArray), Aside0 (spec_l20Span.j0 kq t162 t164 s0_0 t167 = some (r1, r2, r3)) ∧ Aside0 (kq ≤ k) ∧ Aside0 (wc.heap[gb153]? = some (.cells #[.string x154000_18, .string x154001_18] 35 (0, 0))) ∧ Aside0 (IsS62 w0 wc g s0_0 t167) ∧ Aside0 (KeepBut w wc g none) ∧ Aside0 (Below w0.heap.size w0 wc))
    case first =>
      have H := HC19.out
      clear HC19
      by_cases c25 : t166 = 0
      · rw [if_pos c25] at H
        have c25b0 : (t166 == 0) = true := beq_iff_eq.mpr c25
        have c25b1 : (t166 != 0) = false := bne_eq_false_iff_eq.mpr c25
        clear c25
        (first | rw [c25b0] | (simp only [i64_w, i32_w]; rw [c25b0]) | skip)
        simp only [Option.some.injEq, Prod.mk.injEq] at H
        obtain ⟨rfl, rfl, rfl⟩ := H
        have hnb26 := NB153_0.out
        have hnc26 := NB0_153.out
        have hcz27_0 : w24.cell? ⟨gb153, 0, none⟩ = some (.string (⟨#[]⟩ : ByteArray)) := (blk_cell BK153.out 0).trans rfl
        have hcz27_1 : w24.cell? ⟨gb153, 1, none⟩ = some (.string (⟨#[]⟩ : ByteArray)) := (blk_cell BK153.out 1).trans rfl
        have hfz27_0 := blk_frozen BK153.out 0
        have hfz27_1 := blk_frozen BK153.out 1
        go_wp2
        refine bodyPost_ret (results_cell_row rfl _ _ gb153 35 #[.string (⟨#[]⟩ : ByteArray), .string (⟨#[]⟩ : ByteArray)] (0, 0) _ rfl (by (with_reducible repeat (first | refine blk_drewN ?_ _ | refine blk_drew ?_ | refine blk_alloc ?_ _)); refine blk_put (cs := #[.string (⟨#[]⟩ : ByteArray), .string (⟨#[]⟩ : ByteArray)]) ?_ 1 _ rfl; (with_reducible repeat (first | refine blk_drewN ?_ _ | refine blk_drew ?_ | refine blk_alloc ?_ _)); refine blk_put (cs := #[.string (⟨#[]⟩ : ByteArray), .string (⟨#[]⟩ : ByteArray)]) ?_ 0 _ rfl; (with_reducible repeat (first | refine blk_drewN ?_ _ | refine blk_drew ?_ | refine blk_alloc ?_ _)); exact BK153.out) Try.underlying35 rfl (by kernel_rfl)) rfl ?_
        exact ⟨by first | rfl | (simp only [u8_w_, w64_u8_]; done) | (simp only [u8_w_, w64_u8_]; rfl) | (simp [errW_none, errW_some] <;> rfl) | (simp [*, errW_none, errW_some] <;> rfl), by repeat (first | (with_reducible first | exact HI0.out | apply IsS62.alloc | apply IsS62.drewN | apply IsS62.drew | apply IsS62.set_1 | refine IsS62.far ?_ NB0_153.out _) | exact HI0.out), by repeat (first | (with_reducible first | exact HB.out | apply below_alloc | apply pw_below_drewN | apply below_drew1 | refine below_set ?_ (IsS62.ge HI0.out) | refine below_set ?_ GE153.out) | exact HB.out), by repeat (first | (with_reducible first | exact HK.out | apply KeepBut.set_ | apply keep_drewN | apply keep_drew | apply keep_alloc | refine keep_far ?_ GW153.out _) | exact HK.out)⟩
      · rw [if_neg c25] at H
        have c25b0 : (t166 == 0) = false := beq_eq_false_iff_ne.mpr c25
        have c25b1 : (t166 != 0) = true := bne_iff_ne.mpr c25
        (first | rw [c25b0] | (simp only [i64_w, i32_w]; rw [c25b0]) | skip)
        by_cases c28 : t166 = 1
        · rw [if_pos c28] at H
          have c28b0 : (t166 == 1) = true := beq_iff_eq.mpr c28
          have c28b1 : (t166 != 1) = false := bne_eq_false_iff_eq.mpr c28
          clear c28
          simp only [Option.some.injEq, Prod.mk.injEq] at H
          obtain ⟨rfl, rfl, rfl⟩ := H
          have hnb29 := NB153_0.out
          have hnc29 := NB0_153.out
          have hcz30_0 : w24.cell? ⟨gb153, 0, none⟩ = some (.string (⟨#[]⟩ : ByteArray)) := (blk_cell BK153.out 0).trans rfl
          have hcz30_1 : w24.cell? ⟨gb153, 1, none⟩ = some (.string (⟨#[]⟩ : ByteArray)) := (blk_cell BK153.out 1).trans rfl
          have hfz30_0 := blk_frozen BK153.out 0
          have hfz30_1 := blk_frozen BK153.out 1
          go_wp2
          refine bodyPost_ret (results_cell_row rfl _ _ gb153 35 #[.string t162, .string (⟨#[]⟩ : ByteArray)] (0, 0) _ rfl (by (with_reducible repeat (first | refine blk_drewN ?_ _ | refine blk_drew ?_ | refine blk_alloc ?_ _)); refine blk_put (cs := #[.string t162, .string (⟨#[]⟩ : ByteArray)]) ?_ 1 _ rfl; (with_reducible repeat (first | refine blk_drewN ?_ _ | refine blk_drew ?_ | refine blk_alloc ?_ _)); refine blk_put (cs := #[.string (⟨#[]⟩ : ByteArray), .string (⟨#[]⟩ : ByteArray)]) ?_ 0 _ rfl; (with_reducible repeat (first | refine blk_drewN ?_ _ | refine blk_drew ?_ | refine blk_alloc ?_ _)); exact BK153.out) Try.underlying35 rfl (by kernel_rfl)) rfl ?_
          exact ⟨by first | rfl | (simp only [u8_w_, w64_u8_]; done) | (simp only [u8_w_, w64_u8_]; rfl) | (simp [errW_none, errW_some] <;> rfl) | (simp [*, errW_none, errW_some] <;> rfl), by repeat (first | (with_reducible first | exact HI0.out | apply IsS62.alloc | apply IsS62.drewN | apply IsS62.drew | apply IsS62.set_1 | refine IsS62.far ?_ NB0_153.out _) | exact HI0.out), by repeat (first | (with_reducible first | exact HB.out | apply below_alloc | apply pw_below_drewN | apply below_drew1 | refine below_set ?_ (IsS62.ge HI0.out) | refine below_set ?_ GE153.out) | exact HB.out), by repeat (first | (with_reducible first | exact HK.out | apply KeepBut.set_ | apply keep_drewN | apply keep_drew | apply keep_alloc | refine keep_far ?_ GW153.out _) | exact HK.out)⟩
        · rw [if_neg c28] at H
          have c28b0 : (t166 == 1) = false := beq_eq_false_iff_ne.mpr c28
          have c28b1 : (t166 != 1) = true := bne_iff_ne.mpr c28
          by_cases c31 : t166 = 2
          · rw [if_pos c31] at H
            have c31b0 : (t166 == 2) = true := beq_iff_eq.mpr c31
            have c31b1 : (t166 != 2) = false := bne_eq_false_iff_eq.mpr c31
            clear c31
            by_cases c32 : t164.toList = ([97] : List UInt8)
            · rw [if_pos c32] at H
              have c32b0 : (t164.toList == ([97] : List UInt8)) = true := beq_iff_eq.mpr c32
              have c32b1 : (t164.toList != ([97] : List UInt8)) = false := bne_eq_false_iff_eq.mpr c32
              clear c32
              have H' := Aside0.mk H
              clear H
              go_wp2
              go_meet
              case rel => exact ⟨_, ((⟨#[]⟩ : ByteArray)), ((⟨#[]⟩ : ByteArray)), H', ⟨by first | omega | exact Nat.le_refl _⟩, ⟨by (with_reducible repeat (first | refine blk_drewN ?_ _ | refine blk_drew ?_ | refine blk_alloc ?_ _)); exact BK153.out⟩, ⟨by repeat (first | (with_reducible first | exact HI0.out | apply IsS62.alloc | apply IsS62.drewN | apply IsS62.drew | apply IsS62.set_1 | refine IsS62.far ?_ NB0_153.out _) | exact HI0.out)⟩, ⟨by repeat (first | (with_reducible first | exact HK.out | apply KeepBut.set_ | apply keep_drewN | apply keep_drew | apply keep_alloc | refine keep_far ?_ GW153.out _) | exact HK.out)⟩, ⟨by repeat (first | (with_reducible first | exact HB.out | apply below_alloc | apply pw_below_drewN | apply below_drew1 | refine below_set ?_ (IsS62.ge HI0.out) | refine below_set ?_ GE153.out) | exact HB.out)⟩⟩
            · rw [if_neg c32] at H
              have c32b0 : (t164.toList == ([97] : List UInt8)) = false := beq_eq_false_iff_ne.mpr c32
              have c32b1 : (t164.toList != ([97] : List UInt8)) = true := bne_iff_ne.mpr c32
              simp only [Option.some.injEq, Prod.mk.injEq] at H
              obtain ⟨rfl, rfl, rfl⟩ := H
              have hnb33 := NB153_0.out
              have hnc33 := NB0_153.out
              have hcz34_0 : w24.cell? ⟨gb153, 0, none⟩ = some (.string (⟨#[]⟩ : ByteArray)) := (blk_cell BK153.out 0).trans rfl
              have hcz34_1 : w24.cell? ⟨gb153, 1, none⟩ = some (.string (⟨#[]⟩ : ByteArray)) := (blk_cell BK153.out 1).trans rfl
              have hfz34_0 := blk_frozen BK153.out 0
              have hfz34_1 := blk_frozen BK153.out 1
              go_wp2
              refine bodyPost_ret (results_cell_row rfl _ _ gb153 35 #[.string (⟨#[]⟩ : ByteArray), .string t164] (0, 0) _ rfl (by (with_reducible repeat (first | refine blk_drewN ?_ _ | refine blk_drew ?_ | refine blk_alloc ?_ _)); refine blk_put (cs := #[.string (⟨#[]⟩ : ByteArray), .string (⟨#[]⟩ : ByteArray)]) ?_ 1 _ rfl; (with_reducible repeat (first | refine blk_drewN ?_ _ | refine blk_drew ?_ | refine blk_alloc ?_ _)); refine blk_put (cs := #[.string (⟨#[]⟩ : ByteArray), .string (⟨#[]⟩ : ByteArray)]) ?_ 0 _ rfl; (with_reducible repeat (first | refine blk_drewN ?_ _ | refine blk_drew ?_ | refine blk_alloc ?_ _)); exact BK153.out) Try.underlying35 rfl (by kernel_rfl)) rfl ?_
              exact ⟨by first | rfl | (simp only [u8_w_, w64_u8_]; done) | (simp only [u8_w_, w64_u8_]; rfl) | (simp [errW_none, errW_some] <;> rfl) | (simp [*, errW_none, errW_some] <;> rfl), by repeat (first | (with_reducible first | exact HI0.out | apply IsS62.alloc | apply IsS62.drewN | apply IsS62.drew | apply IsS62.set_1 | refine IsS62.far ?_ NB0_153.out _) | exact HI0.out), by repeat (first | (with_reducible first | exact HB.out | apply below_alloc | apply pw_below_drewN | apply below_drew1 | refine below_set ?_ (IsS62.ge HI0.out) | refine below_set ?_ GE153.out) | exact HB.out), by repeat (first | (with_reducible first | exact HK.out | apply KeepBut.set_ | apply keep_drewN | apply keep_drew | apply keep_alloc | refine keep_far ?_ GW153.out _) | exact HK.out)⟩
          · rw [if_neg c31] at H
            have c31b0 : (t166 == 2) = false := beq_eq_false_iff_ne.mpr c31
            have c31b1 : (t166 != 2) = true := bne_iff_ne.mpr c31
            have H' := Aside0.mk H
            clear H
            go_wp2
            go_meet
            case rel => exact ⟨_, ((⟨#[]⟩ : ByteArray)), ((⟨#[]⟩ : ByteArray)), H', ⟨by first | omega | exact Nat.le_refl _⟩, ⟨by (with_reducible repeat (first | refine blk_drewN ?_ _ | refine blk_drew ?_ | refine blk_alloc ?_ _)); exact BK153.out⟩, ⟨by repeat (first | (with_reducible first | exact HI0.out | apply IsS62.alloc | apply IsS62.drewN | apply IsS62.drew | apply IsS62.set_1 | refine IsS62.far ?_ NB0_153.out _) | exact HI0.out)⟩, ⟨by repeat (first | (with_reducible first | exact HK.out | apply KeepBut.set_ | apply keep_drewN | apply keep_drew | apply keep_alloc | refine keep_far ?_ GW153.out _) | exact HK.out)⟩, ⟨by repeat (first | (with_reducible first | exact HB.out | apply below_alloc | apply pw_below_drewN | apply below_drew1 | refine below_set ?_ (IsS62.ge HI0.out) | refine below_set ?_ GE153.out) | exact HB.out)⟩⟩
    case rest =>
      clear HC19
      try clear c1
      try clear p1
      try clear q1
      try clear hx1
      try clear c2
      try clear p2
      try clear c3
      try clear c4
      try clear c5
      try clear c6
      try clear c6b0
      try clear c7
      try clear c7b0
      try clear c14
      try clear p16
      try clear q16
      try clear hx16
      try clear c25
      try clear c25b0
      try clear c25b1
      try clear c26
      try clear c28
      try clear c28b0
      try clear c28b1
      try clear c29
      try clear c31
      try clear c31b0
      try clear c31b1
      try clear c32
      try clear c32b0
      try clear c32b1
      try clear c33
      try clear hcz15_0
      try clear hcz15_1
      try clear hcz27_0
      try clear hcz27_1
      try clear hcz30_0
      try clear hcz30_1
      try clear hcz34_0
      try clear hcz34_1
      try clear hfz15_0
      try clear hfz15_1
      try clear hfz27_0
      try clear hfz27_1
      try clear hfz30_0
      try clear hfz30_1
      try clear hfz34_0
      try clear hfz34_1
      try clear hx161_0
      try clear hx161_1
      try clear p161
      try clear q161
      obtain ⟨kq, x154000_18, x154001_18, HA, HJ18, BK153, HI0, HK, HB⟩ := hcut
      cases kq with
      | zero => exact absurd HA.out (by simp [spec_l20Span.j0])
      | succ kj18 =>
        have H := HA.out
        clear HA
        simp only [spec_l20Span.j0] at H
        by_cases c35 : (Op.bytesLess t162.toList t164.toList) = true
        · rw [if_pos c35] at H
          have c35b0 : (Op.bytesLess t162.toList t164.toList) = true := c35
          clear c35
          simp only [Option.some.injEq, Prod.mk.injEq] at H
          obtain ⟨rfl, rfl, rfl⟩ := H
          have hnb36 := NB153_0.out
          have hnc36 := NB0_153.out
          have hcz37_0 : wc.cell? ⟨gb153, 0, none⟩ = some (.string x154000_18) := (blk_cell BK153.out 0).trans rfl
          have hcz37_1 : wc.cell? ⟨gb153, 1, none⟩ = some (.string x154001_18) := (blk_cell BK153.out 1).trans rfl
          have hfz37_0 := blk_frozen BK153.out 0
          have hfz37_1 := blk_frozen BK153.out 1
          go_wp2
          refine bodyPost_ret (results_cell_row rfl _ _ gb153 35 #[.string t162, .string t164] (0, 0) _ rfl (by (with_reducible repeat (first | refine blk_drewN ?_ _ | refine blk_drew ?_ | refine blk_alloc ?_ _)); refine blk_put (cs := #[.string t162, .string x154001_18]) ?_ 1 _ rfl; (with_reducible repeat (first | refine blk_drewN ?_ _ | refine blk_drew ?_ | refine blk_alloc ?_ _)); refine blk_put (cs := #[.string x154000_18, .string x154001_18]) ?_ 0 _ rfl; (with_reducible repeat (first | refine blk_drewN ?_ _ | refine blk_drew ?_ | refine blk_alloc ?_ _)); exact BK153.out) Try.underlying35 rfl (by kernel_rfl)) rfl ?_
          exact ⟨by first | rfl | (simp only [u8_w_, w64_u8_]; done) | (simp only [u8_w_, w64_u8_]; rfl) | (simp [errW_none, errW_some] <;> rfl) | (simp [*, errW_none, errW_some] <;> rfl), by repeat (first | (with_reducible first | exact HI0.out | apply IsS62.alloc | apply IsS62.drewN | apply IsS62.drew | apply IsS62.set_1 | refine IsS62.far ?_ NB0_153.out _) | exact HI0.out), by repeat (first | (with_reducible first | exact HB.out | apply below_alloc | apply pw_below_drewN | apply below_drew1 | refine below_set ?_ (IsS62.ge HI0.out) | refine below_set ?_ GE153.out) | exact HB.out), by repeat (first | (with_reducible first | exact HK.out | apply KeepBut.set_ | apply keep_drewN | apply keep_drew | apply keep_alloc | refine keep_far ?_ GW153.out _) | exact HK.out)⟩
        · rw [if_neg c35] at H
          have c35b0 : (Op.bytesLess t162.toList t164.toList) = false := by simpa using c35
          clear c35
          by_cases c38 : (Op.bytesLess t164.toList t162.toList) = true
          · rw [if_pos c38] at H
            have c38b0 : (Op.bytesLess t164.toList t162.toList) = true := c38
            clear c38
            simp only [Option.some.injEq, Prod.mk.injEq] at H
            obtain ⟨rfl, rfl, rfl⟩ := H
            have hnb39 := NB153_0.out
            have hnc39 := NB0_153.out
            have hcz40_0 : wc.cell? ⟨gb153, 0, none⟩ = some (.string x154000_18) := (blk_cell BK153.out 0).trans rfl
            have hcz40_1 : wc.cell? ⟨gb153, 1, none⟩ = some (.string x154001_18) := (blk_cell BK153.out 1).trans rfl
            have hfz40_0 := blk_frozen BK153.out 0
            have hfz40_1 := blk_frozen BK153.out 1
            go_wp2
            refine bodyPost_ret (results_cell_row rfl _ _ gb153 35 #[.string t164, .string t162] (0, 0) _ rfl (by (with_reducible repeat (first | refine blk_drewN ?_ _ | refine blk_drew ?_ | refine blk_alloc ?_ _)); refine blk_put (cs := #[.string t164, .string x154001_18]) ?_ 1 _ rfl; (with_reducible repeat (first | refine blk_drewN ?_ _ | refine blk_drew ?_ | refine blk_alloc ?_ _)); refine blk_put (cs := #[.string x154000_18, .string x154001_18]) ?_ 0 _ rfl; (with_reducible repeat (first | refine blk_drewN ?_ _ | refine blk_drew ?_ | refine blk_alloc ?_ _)); exact BK153.out) Try.underlying35 rfl (by kernel_rfl)) rfl ?_
            exact ⟨by first | rfl | (simp only [u8_w_, w64_u8_]; done) | (simp only [u8_w_, w64_u8_]; rfl) | (simp [errW_none, errW_some] <;> rfl) | (simp [*, errW_none, errW_some] <;> rfl), by repeat (first | (with_reducible first | exact HI0.out | apply IsS62.alloc | apply IsS62.drewN | apply IsS62.drew | apply IsS62.set_1 | refine IsS62.far ?_ NB0_153.out _) | exact HI0.out), by repeat (first | (with_reducible first | exact HB.out | apply below_alloc | apply pw_below_drewN | apply below_drew1 | refine below_set ?_ (IsS62.ge HI0.out) | refine below_set ?_ GE153.out) | exact HB.out), by repeat (first | (with_reducible first | exact HK.out | apply KeepBut.set_ | apply keep_drewN | apply keep_drew | apply keep_alloc | refine keep_far ?_ GW153.out _) | exact HK.out)⟩
          · rw [if_neg c38] at H
            have c38b0 : (Op.bytesLess t164.toList t162.toList) = false := by simpa using c38
            clear c38
            simp only [Option.some.injEq, Prod.mk.injEq] at H
            obtain ⟨rfl, rfl, rfl⟩ := H
            have hnb41 := NB153_0.out
            have hnc41 := NB0_153.out
            have hcz42_0 : wc.cell? ⟨gb153, 0, none⟩ = some (.string x154000_18) := (blk_cell BK153.out 0).trans rfl
            have hcz42_1 : wc.cell? ⟨gb153, 1, none⟩ = some (.string x154001_18) := (blk_cell BK153.out 1).trans rfl
            have hfz42_0 := blk_frozen BK153.out 0
            have hfz42_1 := blk_frozen BK153.out 1
            go_wp2
            refine bodyPost_ret (results_cell_row rfl _ _ gb153 35 #[.string t162, .string (⟨#[]⟩ : ByteArray)] (0, 0) _ rfl (by (with_reducible repeat (first | refine blk_drewN ?_ _ | refine blk_drew ?_ | refine blk_alloc ?_ _)); refine blk_put (cs := #[.string t162, .string x154001_18]) ?_ 1 _ rfl; (with_reducible repeat (first | refine blk_drewN ?_ _ | refine blk_drew ?_ | refine blk_alloc ?_ _)); refine blk_put (cs := #[.string x154000_18, .string x154001_18]) ?_ 0 _ rfl; (with_reducible repeat (first | refine blk_drewN ?_ _ | refine blk_drew ?_ | refine blk_alloc ?_ _)); exact BK153.out) Try.underlying35 rfl (by kernel_rfl)) rfl ?_
            exact ⟨by first | rfl | (simp only [u8_w_, w64_u8_]; done) | (simp only [u8_w_, w64_u8_]; rfl) | (simp [errW_none, errW_some] <;> rfl) | (simp [*, errW_none, errW_some] <;> rfl), by repeat (first | (with_reducible first | exact HI0.out | apply IsS62.alloc | apply IsS62.drewN | apply IsS62.drew | apply IsS62.set_1 | refine IsS62.far ?_ NB0_153.out _) | exact HI0.out), by repeat (first | (with_reducible first | exact HB.out | apply below_alloc | apply pw_below_drewN | apply below_drew1 | refine below_set ?_ (IsS62.ge HI0.out) | refine below_set ?_ GE153.out) | exact HB.out), by repeat (first | (with_reducible first | exact HK.out | apply KeepBut.set_ | apply keep_drewN | apply keep_drew | apply keep_alloc | refine keep_far ?_ GW153.out _) | exact HK.out)⟩

/-! ### spec_DrawIntervalHas: function 33 -/
def spec_DrawIntervalHas.f (k : Nat) (l0 : List Int) : Option (ByteArray × ByteArray × ByteArray) := (spec_l20Open.f l0).bind fun bt169 => ((spec_l20Span.f k bt169.1 bt169.2 9).bind fun bt172 => ((spec_l20Rd_pick.f k bt169.1 bt172.2.2 4).bind fun bt176 => (if bt176.1 = 0 then ((some (([bt172.1, bt172.2.1] : List ByteArray) : List ByteArray)).bind fun y178 => ((spec_l20Rd_pick.f k bt169.1 bt176.2 2).bind fun bt181 => (if 0 ≤ bt181.1 then (if bt181.1 < (y178.length : Int) then (some (bt172.1, bt172.2.1, rdOf ByteArray.empty y178 bt181.1)) else (none)) else (none)))) else ((spec_l20Key.f k bt169.1 bt176.2 9).bind fun bt184 => (some (bt172.1, bt172.2.1, bt184.1))))))
theorem spec_DrawIntervalHas.mono : ∀ a0 k, LeO (spec_DrawIntervalHas.f k a0) (spec_DrawIntervalHas.f (k + 1) a0) := by
  intro a0 k
  unfold spec_DrawIntervalHas.f
  repeat' first
      | (with_reducible exact spec_l20Key.mono _ _ _ _)
      | (with_reducible exact spec_l20Rd_pick.mono _ _ _ _)
      | (with_reducible exact spec_l20Span.mono _ _ _ _)
      | (with_reducible exact LeO.refl _)
      | (with_reducible exact LeO.none _)
      | (with_reducible refine LeO.ite ?_ ?_)
      | (with_reducible refine LeO.bind ?_ (fun _ => ?_))
      | exact spec_l20Key.mono _ _ _ _
      | exact spec_l20Rd_pick.mono _ _ _ _
      | exact spec_l20Span.mono _ _ _ _
      | exact LeO.none _
      | refine LeO.ite ?_ ?_
      | refine LeO.bind ?_ (fun _ => ?_)
def spec_DrawIntervalHas.T4 : Bool × List (List Nat × List Nat) := (true, [([], []), ([], []), ([1], [1]), ([], []), ([3], [3]), ([2, 4], [2, 4]), ([], []), ([6], [6]), ([5, 7], [5, 7]), ([8], [8]), ([0, 7, 0], [0]), ([9, 10, 0, 1, 2, 3, 4, 5, 6, 7, 8, 9, 10], [9])])
def spec_DrawIntervalHas.B4 : List Nat := [0, 0, 2, 0, 8, 30, 0, 64, 254, 510, 193, 2047]
theorem spec_DrawIntervalHas.tab4 : rtab .any (opsOf Try.f33 4) = spec_DrawIntervalHas.T4 := by kernel_rfl
theorem spec_DrawIntervalHas.bits4 : waitsOk spec_DrawIntervalHas.T4.2 spec_DrawIntervalHas.B4 = true := by kernel_rfl
set_option maxHeartbeats 8000000 in
set_option maxRecDepth 100000 in
theorem spec_DrawIntervalHas.calls (k : Nat) (A0 : Option Addr) (c0 : Nat) (l0 : List Int) (r1 : ByteArray) (r2 : ByteArray) (r3 : ByteArray) (w : World) (hr0 : Kd.C (Kd.int .u8) w A0 l0.length l0) (hc0 : l0.length ≤ c0) (h : spec_DrawIntervalHas.f k l0 = some (r1, r2, r3)) :
    Calls Try.prog 33 #[.slice A0 l0.length c0] w fun e w' => e = .returned (.tuple #[.agg #[.string r1, .string r2], .string r3]) ∧ Below w.heap.size w w' := by
  have hu35 := Try.underlying35
  have HR0 := Aside0.mk hr0
  have HC0 := Aside0.mk hc0
  clear hr0 hc0
  have HB := Aside0.mk (Below.refl w.heap.size w)
  have H : ((spec_l20Open.f l0).bind fun bt169 => ((spec_l20Span.f k bt169.1 bt169.2 9).bind fun bt172 => ((spec_l20Rd_pick.f k bt169.1 bt172.2.2 4).bind fun bt176 => (if bt176.1 = 0 then ((some (([bt172.1, bt172.2.1] : List ByteArray) : List ByteArray)).bind fun y178 => ((spec_l20Rd_pick.f k bt169.1 bt176.2 2).bind fun bt181 => (if 0 ≤ bt181.1 then (if bt181.1 < (y178.length : Int) then (some (bt172.1, bt172.2.1, rdOf ByteArray.empty y178 bt181.1)) else (none)) else (none)))) else ((spec_l20Key.f k bt169.1 bt176.2 9).bind fun bt184 => (some (bt172.1, bt172.2.1, bt184.1))))))) = some (r1, r2, r3) := h
  clear h
  replace H := Option.bind_eq_some_iff.mp H
  obtain ⟨⟨t169, t170⟩, A20, H⟩ := H
  replace H : ((spec_l20Span.f k t169 t170 9).bind fun bt172 => ((spec_l20Rd_pick.f k t169 bt172.2.2 4).bind fun bt176 => (if bt176.1 = 0 then ((some (([bt172.1, bt172.2.1] : List ByteArray) : List ByteArray)).bind fun y178 => ((spec_l20Rd_pick.f k t169 bt176.2 2).bind fun bt181 => (if 0 ≤ bt181.1 then (if bt181.1 < (y178.length : Int) then (some (bt172.1, bt172.2.1, rdOf ByteArray.empty y178 bt181.1)) else (none)) else (none)))) else ((spec_l20Key.f k t169 bt176.2 9).bind fun bt184 => (some (bt172.1, bt172.2.1, bt184.1)))))) = some (r1, r2, r3) := H
  have A2 := Aside0.mk A20
  clear A20
  replace H := Option.bind_eq_some_iff.mp H
  obtain ⟨⟨t172, t173, t174⟩, A30, H⟩ := H
  replace H : ((spec_l20Rd_pick.f k t169 t174 4).bind fun bt176 => (if bt176.1 = 0 then ((some (([t172, t173] : List ByteArray) : List ByteArray)).bind fun y178 => ((spec_l20Rd_pick.f k t169 bt176.2 2).bind fun bt181 => (if 0 ≤ bt181.1 then (if bt181.1 < (y178.length : Int) then (some (t172, t173, rdOf ByteArray.empty y178 bt181.1)) else (none)) else (none)))) else ((spec_l20Key.f k t169 bt176.2 9).bind fun bt184 => (some (t172, t173, bt184.1))))) = some (r1, r2, r3) := H
  have A3 := Aside0.mk A30
  clear A30
  replace H := Option.bind_eq_some_iff.mp H
  obtain ⟨⟨t176, t177⟩, A40, H⟩ := H
  replace H : (if t176 = 0 then ((some (([t172, t173] : List ByteArray) : List ByteArray)).bind fun y178 => ((spec_l20Rd_pick.f k t169 t177 2).bind fun bt181 => (if 0 ≤ bt181.1 then (if bt181.1 < (y178.length : Int) then (some (t172, t173, rdOf ByteArray.empty y178 bt181.1)) else (none)) else (none)))) else ((spec_l20Key.f k t169 t177 9).bind fun bt184 => (some (t172, t173, bt184.1)))) = some (r1, r2, r3) := H
  have A4 := Aside0.mk A40
  clear A40
  by_cases c5 : t176 = 0
  · rw [if_pos c5] at H
    have c5b0 : (t176 == 0) = true := beq_iff_eq.mpr c5
    have c5b1 : (t176 != 0) = false := bne_eq_false_iff_eq.mpr c5
    clear c5
    obtain ⟨y178, hy178⟩ : ∃ y_ : List ByteArray, y_ = (([t172, t173] : List ByteArray)) := ⟨_, rfl⟩
    replace H : ((spec_l20Rd_pick.f k t169 t177 2).bind fun bt181 => (if 0 ≤ bt181.1 then (if bt181.1 < (y178.length : Int) then (some (t172, t173, rdOf ByteArray.empty y178 bt181.1)) else (none)) else (none))) = some (r1, r2, r3) := by first | (rw [hy178]; with_reducible exact H) | (have H2_ := (Option.bind_some _ _).symm.trans H; rw [hy178]; with_reducible exact H2_) | (have H2_ := (Option.bind_some _ _).symm.trans H; with_reducible exact H2_) | with_reducible exact H | (rw [hy178]; exact H) | exact H
    have Ny178 := Aside0.mk hy178
    clear hy178
    replace H := Option.bind_eq_some_iff.mp H
    obtain ⟨⟨t181, t182⟩, A60, H⟩ := H
    replace H : (if 0 ≤ t181 then (if t181 < (y178.length : Int) then (some (t172, t173, rdOf ByteArray.empty y178 t181)) else (none)) else (none)) = some (r1, r2, r3) := H
    have A6 := Aside0.mk A60
    clear A60
    by_cases c7 : 0 ≤ t181
    · rw [if_pos c7] at H
      have c7b0 : decide (0 ≤ t181) = true := decide_eq_true c7
      clear c7
      by_cases c8 : t181 < (y178.length : Int)
      · rw [if_pos c8] at H
        have c8b0 : decide (t181 < (y178.length : Int)) = true := decide_eq_true c8
        clear c8
        simp only [Option.some.injEq, Prod.mk.injEq] at H
        obtain ⟨rfl, rfl, rfl⟩ := H
        go_enter Try.func33, Try.ntmps33
        try go_wp2_with (first | ((with_reducible refine gate_dst (N := 2) rfl ?_); refine box_event ?hg (N := 2) ?hd (cs := #[.string (⟨#[]⟩ : ByteArray), .string (⟨#[]⟩ : ByteArray)]) (t := 35) ?hr ?_; (case hd => rfl); (case hg => rfl); (case hr => first | (go_simp; done) | (go_simp; rfl)); intro gb168 hg w9 hbox hb; have n0_ := Aside0.mk (below_step (by repeat (first | (with_reducible first | exact HB.out | apply below_alloc | apply pw_below_drewN | apply below_drew1) | exact HB.out)) hb); have n1_ := Aside0.mk (hbox); have n2_ := Aside0.mk ((by rw [hg]; exact (below_size (by repeat (first | (with_reducible first | exact HB.out | apply below_alloc | apply pw_below_drewN | apply below_drew1) | exact HB.out))) : w.heap.size ≤ gb168)); have n3_ := Aside0.mk ((by rw [hg]; exact (below_size (by repeat (first | (with_reducible first | exact HB.out | apply below_alloc | apply pw_below_drewN | apply below_drew1) | exact HB.out))) : w.heap.size ≤ gb168)); clear HB; have HB := n0_; have BK168 := n1_; have GW168 := n2_; have GE168 := n3_; clear n0_ n1_ n2_ n3_; clear hb hbox hg) | ((with_reducible refine gate_callee (f := 46) rfl ?_); refine goesL_ (some 7) rfl rfl Try.func46 (by kernel_rfl) rfl #[.slice A0 l0.length c0] rfl (by (try simp only [List.map_toArray, List.map_cons, List.map_nil]); first | done | rfl | (simp only [List.length_drop, List.length_take]; rfl)) ?_; (with_reducible refine (spec_l20Open.calls _ _ l0 t169 t170 w _ ?side1 ?side2 ?side3 A2.out).mono ?_); (case side1 => repeat (first | (with_reducible first | exact HB.out | apply below_alloc | apply pw_below_drewN | apply below_drew1 | refine below_set ?_ GE168.out) | exact HB.out)); (case side2 => exact HR0.out); (case side3 => exact HC0.out); rintro e w10 ⟨g171, rfl, hi, hb, hb2⟩; refine ⟨_, rfl, ?_⟩; have n0_ := Aside0.mk (blk_below (g := gb168) (o := .cells #[.string (⟨#[]⟩ : ByteArray), .string (⟨#[]⟩ : ByteArray)] 35 (0, 0)) (by (with_reducible repeat (first | refine blk_drewN ?_ _ | refine blk_drew ?_ | refine blk_alloc ?_ _)); exact BK168.out) hb2); have n1_ := Aside0.mk (hb); have n2_ := Aside0.mk (hi); have n3_ := Aside0.mk (IsS62.ne_blk hi (blk_below (g := gb168) (o := .cells #[.string (⟨#[]⟩ : ByteArray), .string (⟨#[]⟩ : ByteArray)] 35 (0, 0)) (by (with_reducible repeat (first | refine blk_drewN ?_ _ | refine blk_drew ?_ | refine blk_alloc ?_ _)); exact BK168.out) hb2) (by decide)); have n4_ := Aside0.mk (Ne.symm (IsS62.ne_blk hi (blk_below (g := gb168) (o := .cells #[.string (⟨#[]⟩ : ByteArray), .string (⟨#[]⟩ : ByteArray)] 35 (0, 0)) (by (with_reducible repeat (first | refine blk_drewN ?_ _ | refine blk_drew ?_ | refine blk_alloc ?_ _)); exact BK168.out) hb2) (by decide))); clear BK168; clear HB; have BK168 := n0_; have HB := n1_; have HI171 := n2_; have NB171_168 := n3_; have NB168_171 := n4_; clear n0_ n1_ n2_ n3_ n4_; (try clear hb); (try clear hb2); (try clear hk); (try clear hi)) | ((with_reducible refine gate_callee (f := 55) rfl ?_); refine goesL_ (some 9) rfl rfl Try.func55 (by kernel_rfl) rfl #[.pointer (some ⟨g171, 0, none⟩), .int .i64 9] rfl (by (try simp only [List.map_toArray, List.map_cons, List.map_nil]); first | done | rfl | (simp only [List.length_drop, List.length_take]; rfl)) ?_; (with_reducible refine (spec_l20Span.calls k g171 t169 t170 9 t172 t173 t174 w _ ?side1 ?side2 A3.out).mono ?_); (case side1 => repeat (first | (with_reducible first | exact HI171.out | apply IsS62.alloc | apply IsS62.drewN | apply IsS62.drew | apply IsS62.set_1 | refine IsS62.far ?_ NB171_168.out _) | exact HI171.out)); (case side2 => repeat (first | (with_reducible first | exact HB.out | apply below_alloc | apply pw_below_drewN | apply below_drew1 | refine below_set ?_ (IsS62.ge HI171.out) | refine below_set ?_ GE168.out) | exact HB.out)); rintro e w11 ⟨rfl, hi, hb, hk⟩; refine ⟨_, rfl, ?_⟩; have n0_ := Aside0.mk (KeepBut.blk hk (g' := gb168) (o := .cells #[.string (⟨#[]⟩ : ByteArray), .string (⟨#[]⟩ : ByteArray)] 35 (0, 0)) (by (with_reducible repeat (first | refine blk_drewN ?_ _ | refine blk_drew ?_ | refine blk_alloc ?_ _)); exact BK168.out) NB168_171.out (by simp)); have n1_ := Aside0.mk (hb); have n2_ := Aside0.mk (hi); clear BK168; clear HB; clear HI171; have BK168 := n0_; have HB := n1_; have HI171 := n2_; clear n0_ n1_ n2_; (try clear hb); (try clear hb2); (try clear hk); (try clear hi)) | ((with_reducible refine gate_dst (N := 5) rfl ?_); refine box_event ?hg (N := 5) ?hd (cs := #[.string (⟨#[]⟩ : ByteArray), .string (⟨#[]⟩ : ByteArray)]) (t := 35) ?hr ?_; (case hd => rfl); (case hg => rfl); (case hr => first | (go_simp; done) | (go_simp; rfl)); intro gb175 hg w12 hbox hb; have n0_ := Aside0.mk (blk_below (g := gb168) (o := .cells #[.string (⟨#[]⟩ : ByteArray), .string (⟨#[]⟩ : ByteArray)] 35 (0, 0)) (by (with_reducible repeat (first | refine blk_drewN ?_ _ | refine blk_drew ?_ | refine blk_alloc ?_ _)); exact BK168.out) hb); have n1_ := Aside0.mk (IsS62.below (by repeat (first | (with_reducible first | exact HI171.out | apply IsS62.alloc | apply IsS62.drewN | apply IsS62.drew | apply IsS62.set_1 | refine IsS62.far ?_ NB171_168.out _) | exact HI171.out)) hb); have n2_ := Aside0.mk (below_step (by repeat (first | (with_reducible first | exact HB.out | apply below_alloc | apply pw_below_drewN | apply below_drew1 | refine below_set ?_ (IsS62.ge HI171.out) | refine below_set ?_ GE168.out) | exact HB.out)) hb); have n3_ := Aside0.mk (hbox); have n4_ := Aside0.mk ((by rw [hg]; exact (below_size (by repeat (first | (with_reducible first | exact HB.out | apply below_alloc | apply pw_below_drewN | apply below_drew1 | refine below_set ?_ (IsS62.ge HI171.out) | refine below_set ?_ GE168.out) | exact HB.out))) : w.heap.size ≤ gb175)); have n5_ := Aside0.mk ((by rw [hg]; exact (below_size (by repeat (first | (with_reducible first | exact HB.out | apply below_alloc | apply pw_below_drewN | apply below_drew1 | refine below_set ?_ (IsS62.ge HI171.out) | refine below_set ?_ GE168.out) | exact HB.out))) : w.heap.size ≤ gb175)); have n6_ := Aside0.mk ((by rw [hg]; exact Nat.ne_of_lt (blk_lt (g := gb168) (o := .cells #[.string (⟨#[]⟩ : ByteArray), .string (⟨#[]⟩ : ByteArray)] 35 (0, 0)) (by (with_reducible repeat (first | refine blk_drewN ?_ _ | refine blk_drew ?_ | refine blk_alloc ?_ _)); exact BK168.out)) : gb168 ≠ gb175)); have n7_ := Aside0.mk ((by rw [hg]; exact Nat.ne_of_gt (blk_lt (g := gb168) (o := .cells #[.string (⟨#[]⟩ : ByteArray), .string (⟨#[]⟩ : ByteArray)] 35 (0, 0)) (by (with_reducible repeat (first | refine blk_drewN ?_ _ | refine blk_drew ?_ | refine blk_alloc ?_ _)); exact BK168.out)) : gb175 ≠ gb168)); have n8_ := Aside0.mk ((by rw [hg]; exact Nat.ne_of_lt (IsS62.lt (show IsS62 w _ g171 t169 t174 from by repeat (first | (with_reducible first | exact HI171.out | apply IsS62.alloc | apply IsS62.drewN | apply IsS62.drew | apply IsS62.set_1 | refine IsS62.far ?_ NB171_168.out _) | exact HI171.out))) : g171 ≠ gb175)); have n9_ := Aside0.mk ((by rw [hg]; exact Nat.ne_of_gt (IsS62.lt (show IsS62 w _ g171 t169 t174 from by repeat (first | (with_reducible first | exact HI171.out | apply IsS62.alloc | apply IsS62.drewN | apply IsS62.drew | apply IsS62.set_1 | refine IsS62.far ?_ NB171_168.out _) | exact HI171.out))) : gb175 ≠ g171)); clear BK168; clear HI171; clear HB; have BK168 := n0_; have HI171 := n1_; have HB := n2_; have BK175 := n3_; have GW175 := n4_; have GE175 := n5_; have NB168_175 := n6_; have NB175_168 := n7_; have NB171_175 := n8_; have NB175_171 := n9_; clear n0_ n1_ n2_ n3_ n4_ n5_ n6_ n7_ n8_ n9_; clear hb hbox hg; have hnb13 := NB175_168.out; have hnc13 := NB168_175.out; have hnb14 := NB175_171.out; have hnc14 := NB171_175.out; have hcz15_0 : w12.cell? ⟨gb175, 0, none⟩ = some (.string (⟨#[]⟩ : ByteArray)) := (blk_cell BK175.out 0).trans rfl; have hcz15_1 : w12.cell? ⟨gb175, 1, none⟩ = some (.string (⟨#[]⟩ : ByteArray)) := (blk_cell BK175.out 1).trans rfl; have hfz15_0 := blk_frozen BK175.out 0; have hfz15_1 := blk_frozen BK175.out 1) | ((with_reducible refine gate_callee (f := 51) rfl ?_); refine goesL_ (some 11) rfl rfl Try.func51 (by kernel_rfl) rfl #[.pointer (some ⟨g171, 0, none⟩), .int .i64 4] rfl (by (try simp only [List.map_toArray, List.map_cons, List.map_nil]); first | done | rfl | (simp only [List.length_drop, List.length_take]; rfl)) ?_; (with_reducible refine (spec_l20Rd_pick.calls k g171 t169 t174 4 t176 t177 w _ ?side1 ?side2 A4.out).mono ?_); (case side1 => repeat (first | (with_reducible first | exact HI171.out | apply IsS62.alloc | apply IsS62.drewN | apply IsS62.drew | apply IsS62.set_1 | refine IsS62.far ?_ NB171_168.out _ | refine IsS62.far ?_ NB171_175.out _) | exact HI171.out)); (case side2 => repeat (first | (with_reducible first | exact HB.out | apply below_alloc | apply pw_below_drewN | apply below_drew1 | refine below_set ?_ (IsS62.ge HI171.out) | refine below_set ?_ GE168.out | refine below_set ?_ GE175.out) | exact HB.out)); rintro e w16 ⟨rfl, hi, hb, hk⟩; refine ⟨_, rfl, ?_⟩; have n0_ := Aside0.mk (KeepBut.blk hk (g' := gb168) (o := .cells #[.string (⟨#[]⟩ : ByteArray), .string (⟨#[]⟩ : ByteArray)] 35 (0, 0)) (by (with_reducible repeat (first | refine blk_drewN ?_ _ | refine blk_drew ?_ | refine blk_alloc ?_ _)); refine blk_far ?_ NB168_175.out _; (with_reducible repeat (first | refine blk_drewN ?_ _ | refine blk_drew ?_ | refine blk_alloc ?_ _)); refine blk_far ?_ NB168_175.out _; (with_reducible repeat (first | refine blk_drewN ?_ _ | refine blk_drew ?_ | refine blk_alloc ?_ _)); exact BK168.out) NB168_171.out (by simp)); have n1_ := Aside0.mk (KeepBut.blk hk (g' := gb175) (o := .cells #[.string t172, .string t173] 35 (0, 0)) (by (with_reducible repeat (first | refine blk_drewN ?_ _ | refine blk_drew ?_ | refine blk_alloc ?_ _)); refine blk_put (cs := #[.string t172, .string (⟨#[]⟩ : ByteArray)]) ?_ 1 _ rfl; (with_reducible repeat (first | refine blk_drewN ?_ _ | refine blk_drew ?_ | refine blk_alloc ?_ _)); refine blk_put (cs := #[.string (⟨#[]⟩ : ByteArray), .string (⟨#[]⟩ : ByteArray)]) ?_ 0 _ rfl; (with_reducible repeat (first | refine blk_drewN ?_ _ | refine blk_drew ?_ | refine blk_alloc ?_ _)); exact BK175.out) NB175_171.out (by simp)); have n2_ := Aside0.mk (hb); have n3_ := Aside0.mk (hi); clear BK168; clear BK175; clear HB; clear HI171; have BK168 := n0_; have BK175 := n1_; have HB := n2_; have HI171 := n3_; clear n0_ n1_ n2_ n3_; (try clear hb); (try clear hb2); (try clear hk); (try clear hi)))
        have pi183 : (0 ≤ (t181 : Int)) = True := eq_true (of_decide_eq_true (by first | (with_reducible assumption) | assumption))
        have qi183 : (t181 < (y178.length : Int)) = True := eq_true (of_decide_eq_true (by first | (with_reducible assumption) | assumption))
        have n0_ := Aside0.mk (blk_drew BK168.out)
        have n1_ := Aside0.mk (blk_drew BK175.out)
        have n2_ := Aside0.mk (IsS62.drew HI171.out)
        have n3_ := Aside0.mk (below_drew1 HB.out)
        clear BK168
        clear BK175
        clear HI171
        clear HB
        have BK168 := n0_
        have BK175 := n1_
        have HI171 := n2_
        have HB := n3_
        clear n0_ n1_ n2_ n3_
        refine start_ (n := 12) (S := fun w' => True) (ds := []) #[false, false, false, false, false, false, false, false, false, false, false, false] (by kernel_rfl) rfl rfl trivial (fun hHeld => ?_); refine with_tabW spec_DrawIntervalHas.tab4 spec_DrawIntervalHas.bits4 (fun HT_ HW_ => ?_)
        generalize w16.drew = w17 at BK168 BK175 HI171 HB hHeld ⊢
        refine pure_ (i := 1) (N := some 14) (v := ?_) (a' := ?_) #[false, true, false, false, false, false, false, false, false, false, false, false] rfl rfl (any_of HT_.out (by kernel_rfl)) (fun _ _ _ h => h) (Or.inl ⟨by rfl, ?_⟩) ?_ ?_
        rotate_left
        · intro w'
          go_simp
          with_reducible rfl
        rotate_left
        · simp only [Act.put, List.setIfInBounds_toArray, List.set_cons_zero, List.set_cons_succ, i64_w, i32_w]
          rfl
        refine pure_ (i := 3) (N := some 16) (v := ?_) (a' := ?_) #[false, true, false, true, false, false, false, false, false, false, false, false] rfl rfl (any_of HT_.out (by kernel_rfl)) (fun _ _ _ h => h) (Or.inl ⟨by rfl, ?_⟩) ?_ ?_
        rotate_left
        · intro w'
          go_simp
          with_reducible rfl
        rotate_left
        · simp only [Act.put, List.setIfInBounds_toArray, List.set_cons_zero, List.set_cons_succ, i64_w, i32_w]
          rfl
        refine pure_ (i := 6) (N := some 19) (v := ?_) (a' := ?_) #[false, true, false, true, false, false, true, false, false, false, false, false] rfl rfl (any_of HT_.out (by kernel_rfl)) (fun _ _ _ h => h) (Or.inl ⟨by rfl, ?_⟩) ?_ ?_
        rotate_left
        · intro w'
          go_simp
          with_reducible rfl
        rotate_left
        · simp only [Act.put, List.setIfInBounds_toArray, List.set_cons_zero, List.set_cons_succ, i64_w, i32_w]
          rfl
        refine inv_at [0, 2, 4, 5, 7, 8, 9, 10, 11] (fun a0_ b a w' => ∃ (v179 : Value) (adz_v179 : Addr) (m8_ : Value), a = putSel a0_ b [(0, 13, .agg #[.string t172, .string t173]), (2, 15, .string t172), (4, 17, .string t173), (5, 18, v179), (7, 20, .int .i64 t181), (8, 21, m8_), (9, 22, .string (rdOf ByteArray.empty y178 t181)), (11, 3, .string (rdOf ByteArray.empty y178 t181))] ∧ (b 10 = false → w'.heap[gb168]? = some (.cells #[.string (⟨#[]⟩ : ByteArray), .string (⟨#[]⟩ : ByteArray)] 35 (0, 0))) ∧ (w'.heap[gb175]? = some (.cells #[.string t172, .string t173] 35 (0, 0))) ∧ (b 7 = false → IsS62 w w' g171 t169 t177) ∧ (Below w.heap.size w w') ∧ (b 5 = true → Kd.R Kd.string 9 w' w.heap.size (fun _ => True) v179 y178) ∧ (b 5 = true → ∃ c_, (v179 : Value) = .slice (some adz_v179) y178.length c_) ∧ (b 7 = true → IsS62 w w' g171 t169 t182) ∧ (b 10 = true → w'.heap[gb168]? = some (.cells #[.string t172, .string t173] 35 (0, 0))) ∧ (b 8 = true → (m8_ : Value) = .pointer (some (adz_v179.add (t181).toNat)))) HT_.out HW_.out (by kernel_rfl) (by kernel_rfl) ?_ ?_ ?_
        · exact ⟨.bool false, ⟨0, 0, none⟩, .bool false, by simp only [putSel, Bool.false_eq_true, if_false], fun _ => BK168.out, BK175.out, fun _ => HI171.out, HB.out, fun h_ => absurd h_ (by decide), fun h_ => absurd h_ (by decide), fun h_ => absurd h_ (by decide), fun h_ => absurd h_ (by decide), fun h_ => absurd h_ (by decide)⟩
        · skip
          clear BK168 BK175 HB HI171
          refine steps_cons ?_ ?_
          · rintro b a w' ⟨v179, adz_v179, m8_, ha, Q_BK168, Q_BK175, Q_HI171, Q_HB, Q_HO180, Q_HA_HO180, Q_HI171_e7, Q_BK168_e10, Q_X8_⟩ hb_ hon hoff
            refine ⟨_, rfl, fun K hK => ?_⟩
            have e5 : a.tmps[5]? = some (.pointer (some ⟨gb175, 0, none⟩)) := by rw [ha]; exact (putSel_off rfl).trans rfl
            replace ha := Aside0.mk ha
            have BK168 := Aside0.mk (Q_BK168 (hoff 10 (by kernel_rfl)))
            have BK175 := Aside0.mk Q_BK175
            have HB := Aside0.mk Q_HB
            have hc0_ : w'.cell? ⟨gb175, 0, none⟩ = some (.string t172) := (blk_cell BK175.out 0).trans rfl
            have hc1_ : w'.cell? ⟨gb175, 1, none⟩ = some (.string t173) := (blk_cell BK175.out 1).trans rfl
            refine value_ (w1 := w') (v := .agg #[.string t172, .string t173]) (by rfl) rfl ?_ ?_
            · go_simp
              (try simp only [i64_w])
              try rfl
            refine hK.out _ _ ⟨v179, adz_v179, m8_, (by rw [ha.out]; exact putSel_upk 0 hb_ rfl rfl rfl), Q_BK168, Q_BK175, Q_HI171, Q_HB, Q_HO180, Q_HA_HO180, Q_HI171_e7, fun h0_ => absurd ((hoff 10 (by kernel_rfl)).symm.trans h0_) (by decide), Q_X8_⟩
          refine steps_cons ?_ ?_
          · rintro b a w' ⟨v179, adz_v179, m8_, ha, Q_BK168, Q_BK175, Q_HI171, Q_HB, Q_HO180, Q_HA_HO180, Q_HI171_e7, Q_BK168_e10, Q_X8_⟩ hb_ hon hoff
            refine ⟨_, rfl, fun K hK => ?_⟩
            have e14 : a.tmps[14]? = some (.pointer (some ⟨gb175, 0, none⟩)) := by rw [ha]; exact (putSel_off rfl).trans rfl
            replace ha := Aside0.mk ha
            have BK175 := Aside0.mk Q_BK175
            have HB := Aside0.mk Q_HB
            have hc0_ : w'.cell? ⟨gb175, 0, none⟩ = some (.string t172) := (blk_cell BK175.out 0).trans rfl
            have hc1_ : w'.cell? ⟨gb175, 1, none⟩ = some (.string t173) := (blk_cell BK175.out 1).trans rfl
            refine value_ (w1 := w') (v := .string t172) (by rfl) rfl ?_ ?_
            · go_simp
              (try simp only [i64_w])
              try rfl
            refine hK.out _ _ ⟨v179, adz_v179, m8_, (by rw [ha.out]; exact putSel_upk 1 hb_ rfl rfl rfl), Q_BK168, Q_BK175, Q_HI171, Q_HB, fun h0_ => absurd ((hoff 5 (by kernel_rfl)).symm.trans h0_) (by decide), fun h0_ => absurd ((hoff 5 (by kernel_rfl)).symm.trans h0_) (by decide), Q_HI171_e7, Q_BK168_e10, fun h0_ => absurd ((hoff 8 (by kernel_rfl)).symm.trans h0_) (by decide)⟩
          refine steps_cons ?_ ?_
          · rintro b a w' ⟨v179, adz_v179, m8_, ha, Q_BK168, Q_BK175, Q_HI171, Q_HB, Q_HO180, Q_HA_HO180, Q_HI171_e7, Q_BK168_e10, Q_X8_⟩ hb_ hon hoff
            refine ⟨_, rfl, fun K hK => ?_⟩
            have e16 : a.tmps[16]? = some (.pointer (some ⟨gb175, 1, none⟩)) := by rw [ha]; exact (putSel_off rfl).trans rfl
            replace ha := Aside0.mk ha
            have BK175 := Aside0.mk Q_BK175
            have HB := Aside0.mk Q_HB
            have hc0_ : w'.cell? ⟨gb175, 0, none⟩ = some (.string t172) := (blk_cell BK175.out 0).trans rfl
            have hc1_ : w'.cell? ⟨gb175, 1, none⟩ = some (.string t173) := (blk_cell BK175.out 1).trans rfl
            refine value_ (w1 := w') (v := .string t173) (by rfl) rfl ?_ ?_
            · go_simp
              (try simp only [i64_w])
              try rfl
            refine hK.out _ _ ⟨v179, adz_v179, m8_, (by rw [ha.out]; exact putSel_upk 2 hb_ rfl rfl rfl), Q_BK168, Q_BK175, Q_HI171, Q_HB, fun h0_ => absurd ((hoff 5 (by kernel_rfl)).symm.trans h0_) (by decide), fun h0_ => absurd ((hoff 5 (by kernel_rfl)).symm.trans h0_) (by decide), Q_HI171_e7, Q_BK168_e10, fun h0_ => absurd ((hoff 8 (by kernel_rfl)).symm.trans h0_) (by decide)⟩
          refine steps_cons ?_ ?_
          · rintro b a w' ⟨v179, adz_v179, m8_, ha, Q_BK168, Q_BK175, Q_HI171, Q_HB, Q_HO180, Q_HA_HO180, Q_HI171_e7, Q_BK168_e10, Q_X8_⟩ hb_ hon hoff
            refine ⟨_, rfl, fun K hK => ?_⟩
            have e15 : a.tmps[15]? = some (.string t172) := by rw [ha]; exact putSel_on (e := (2, 15, .string t172)) 1 rfl rfl (hon 2 (by kernel_rfl)) rfl
            have e17 : a.tmps[17]? = some (.string t173) := by rw [ha]; exact putSel_on (e := (4, 17, .string t173)) 2 rfl rfl (hon 4 (by kernel_rfl)) rfl
            replace ha := Aside0.mk ha
            have BK175 := Aside0.mk Q_BK175
            have HB := Aside0.mk Q_HB
            refine Kd.R_lit_step Kd.string _ 9 ?hg (N := 18) ?hd (xs := ([t172, t173] : List ByteArray)) (inner := [.string t172, .string t173]) (ok := fun _ => True) (okp := fun _ => True) ?hr ?hp (fun _ hk => hk) trivial (Below.refl _ _) (Nat.le_refl _) (by simp) ?_; (case hd => rfl); (case hg => rfl); (case hr => first | (go_simp; done) | (go_simp; rfl)); (case hp => exact (Reps.one (show Kd.M Kd.string _ _ _ t172 [.string t172] from rfl) (Reps.one (show Kd.M Kd.string _ _ _ t173 [.string t173] from rfl) (Reps.none _ _))))
            intro v179 w18 ho19 hb hg_ hnew_
            clear hg_ hnew_
            (first | rw [← Ny178.out] at ho19 | (simp only [Int.reduceToNat] at ho19; rw [← Ny178.out] at ho19))
            have n0_ := Aside0.mk (Kd.R_lower ho19 (below_size (by repeat (first | (with_reducible first | exact HB.out | apply below_alloc | apply pw_below_drewN | apply below_drew1 | refine below_set ?_ GE168.out | refine below_set ?_ GE175.out) | exact HB.out))))
            have n3_ := Aside0.mk (blk_below (g := gb175) (o := .cells #[.string t172, .string t173] 35 (0, 0)) (by (with_reducible repeat (first | refine blk_drewN ?_ _ | refine blk_drew ?_ | refine blk_alloc ?_ _)); exact BK175.out) hb)
            have n4_ := Aside0.mk (below_step (by repeat (first | (with_reducible first | exact HB.out | apply below_alloc | apply pw_below_drewN | apply below_drew1 | refine below_set ?_ GE168.out | refine below_set ?_ GE175.out) | exact HB.out)) hb)
            have z_BK168 := fun (h0_ : b 10 = false) => (show w18.heap[gb168]? = some (.cells #[.string (⟨#[]⟩ : ByteArray), .string (⟨#[]⟩ : ByteArray)] 35 (0, 0)) from by first | exact (blk_below (g := gb168) (o := .cells #[.string (⟨#[]⟩ : ByteArray), .string (⟨#[]⟩ : ByteArray)] 35 (0, 0)) (by (with_reducible repeat (first | refine blk_drewN ?_ _ | refine blk_drew ?_ | refine blk_alloc ?_ _)); exact (Q_BK168 h0_)) hb))
            have z_HI171 := fun (h0_ : b 7 = false) => (show IsS62 w w18 g171 t169 t177 from by first | exact (IsS62.below (by repeat (first | (with_reducible first | exact (Q_HI171 h0_) | apply IsS62.alloc | apply IsS62.drewN | apply IsS62.drew | apply IsS62.set_1 | refine IsS62.far ?_ NB171_168.out _ | refine IsS62.far ?_ NB171_175.out _) | exact (Q_HI171 h0_))) hb))
            have z_HI171_e7 := fun (h0_ : b 7 = true) => (show IsS62 w w18 g171 t169 t182 from by first | exact (IsS62.below (by repeat (first | (with_reducible first | exact (Q_HI171_e7 h0_) | apply IsS62.alloc | apply IsS62.drewN | apply IsS62.drew | apply IsS62.set_1 | refine IsS62.far ?_ NB171_168.out _ | refine IsS62.far ?_ NB171_175.out _) | exact (Q_HI171_e7 h0_))) hb))
            have z_BK168_e10 := fun (h0_ : b 10 = true) => (show w18.heap[gb168]? = some (.cells #[.string t172, .string t173] 35 (0, 0)) from by first | exact (blk_below (g := gb168) (o := .cells #[.string t172, .string t173] 35 (0, 0)) (by (with_reducible repeat (first | refine blk_drewN ?_ _ | refine blk_drew ?_ | refine blk_alloc ?_ _)); exact (Q_BK168_e10 h0_)) hb))
            clear BK175
            clear HB
            have HO180 := n0_
            have BK175 := n3_
            have HB := n4_
            clear n0_ n3_ n4_
            clear hb ho19
            obtain ⟨Ao20, co20, eo20⟩ := Kd.R_slice HO180.out
            subst eo20
            obtain ⟨ado20, fo20, _⟩ := Kd.at_string (Kd.R_reads' HO180.out).2.2 0 (by decide) (by rw [Ny178.out]; simp)
            cases fo20
            refine hK.out _ _ ⟨.slice (some ado20) y178.length co20, ado20, m8_, (by rw [ha.out]; exact putSel_upk 3 hb_ rfl rfl rfl), z_BK168, (by (with_reducible repeat (first | refine blk_drewN ?_ _ | refine blk_drew ?_ | refine blk_alloc ?_ _)); exact BK175.out), z_HI171, (by repeat (first | (with_reducible first | exact HB.out | apply below_alloc | apply pw_below_drewN | apply below_drew1 | refine below_set ?_ GE168.out | refine below_set ?_ GE175.out) | exact HB.out)), fun _ => (by (with_reducible repeat (first | apply Kd.R_alloc | apply Kd.R_drewN | apply Kd.R_drew)); exact HO180.out), fun _ => ⟨_, rfl⟩, z_HI171_e7, z_BK168_e10, fun h0_ => absurd ((hoff 8 (by kernel_rfl)).symm.trans h0_) (by decide)⟩
          refine steps_cons ?_ ?_
          · rintro b a w' ⟨v179, adz_v179, m8_, ha, Q_BK168, Q_BK175, Q_HI171, Q_HB, Q_HO180, Q_HA_HO180, Q_HI171_e7, Q_BK168_e10, Q_X8_⟩ hb_ hon hoff
            refine ⟨_, rfl, fun K hK => ?_⟩
            have e19 : a.tmps[19]? = some (.pointer (some ⟨g171, 0, none⟩)) := by rw [ha]; exact (putSel_off rfl).trans rfl
            replace ha := Aside0.mk ha
            have BK168 := Aside0.mk (Q_BK168 (hoff 10 (by kernel_rfl)))
            have BK175 := Aside0.mk Q_BK175
            have HI171 := Aside0.mk (Q_HI171 hb_)
            have HB := Aside0.mk Q_HB
            refine goes_ Try.func51 (by kernel_rfl) rfl #[.pointer (some ⟨g171, 0, none⟩), .int .i64 2] (by rfl) rfl rfl (by first | (simp only [List.map_toArray, List.map_cons, List.map_nil, Act.eval, Array.getD_eq_getD_getElem?, Option.getD_some, e19]; done) | (simp only [List.map_toArray, List.map_cons, List.map_nil, Act.eval, Array.getD_eq_getD_getElem?, Option.getD_some, e19]; rfl)) ?_
            with_reducible refine (spec_l20Rd_pick.calls k g171 t169 t177 2 t181 t182 w _ ?side1 ?side2 A6.out).mono ?_
            (case side1 => repeat (first | (with_reducible first | exact HI171.out | apply IsS62.alloc | apply IsS62.drewN | apply IsS62.drew | apply IsS62.set_1 | refine IsS62.far ?_ NB171_168.out _ | refine IsS62.far ?_ NB171_175.out _) | exact HI171.out))
            (case side2 => repeat (first | (with_reducible first | exact HB.out | apply below_alloc | apply pw_below_drewN | apply below_drew1 | refine below_set ?_ (IsS62.ge HI171.out) | refine below_set ?_ GE168.out | refine below_set ?_ GE175.out) | exact HB.out))
            rintro e w18 ⟨rfl, hi, hb, hk⟩
            refine ⟨_, rfl, ?_⟩
            have n0_ := Aside0.mk (KeepBut.blk hk (g' := gb168) (o := .cells #[.string (⟨#[]⟩ : ByteArray), .string (⟨#[]⟩ : ByteArray)] 35 (0, 0)) (by (with_reducible repeat (first | refine blk_drewN ?_ _ | refine blk_drew ?_ | refine blk_alloc ?_ _)); exact BK168.out) NB168_171.out (by simp))
            have n1_ := Aside0.mk (KeepBut.blk hk (g' := gb175) (o := .cells #[.string t172, .string t173] 35 (0, 0)) (by (with_reducible repeat (first | refine blk_drewN ?_ _ | refine blk_drew ?_ | refine blk_alloc ?_ _)); exact BK175.out) NB175_171.out (by simp))
            have n2_ := Aside0.mk (hb)
            have n3_ := Aside0.mk (hi)
            have z_HO180 := fun (h0_ : b 5 = true) => (show Kd.R Kd.string 9 w18 w.heap.size (fun _ => True) v179 y178 from by first | exact (Kd.R_mono (Kd.R_keep (IsS62.apart (show IsS62 w _ g171 t169 t177 from by repeat (first | (with_reducible first | exact HI171.out | apply IsS62.alloc | apply IsS62.drewN | apply IsS62.drew | apply IsS62.set_1 | refine IsS62.far ?_ NB171_168.out _ | refine IsS62.far ?_ NB171_175.out _) | exact HI171.out)) (by (with_reducible repeat (first | apply Kd.R_alloc | apply Kd.R_drewN | apply Kd.R_drew)); exact (Q_HO180 h0_)) (by decide)) hk (fun _ h => h.2)) (fun _ h => h.1)) | exact Kd.R_mono (Kd.R_mono (Kd.R_keep (IsS62.apart (show IsS62 w _ g171 t169 t177 from by repeat (first | (with_reducible first | exact HI171.out | apply IsS62.alloc | apply IsS62.drewN | apply IsS62.drew | apply IsS62.set_1 | refine IsS62.far ?_ NB171_168.out _ | refine IsS62.far ?_ NB171_175.out _) | exact HI171.out)) (by (with_reducible repeat (first | apply Kd.R_alloc | apply Kd.R_drewN | apply Kd.R_drew)); exact (Q_HO180 h0_)) (by decide)) hk (fun _ h => h.2)) (fun _ h => h.1)) (fun _ h_ => by first | trivial | exact h_ | exact h_.1))
            clear BK168
            clear BK175
            clear HB
            clear HI171
            have BK168 := n0_
            have BK175 := n1_
            have HB := n2_
            have HI171 := n3_
            clear n0_ n1_ n2_ n3_
            (try clear hb)
            (try clear hb2)
            (try clear hk)
            (try clear hi)
            refine hK.out _ _ ⟨v179, adz_v179, m8_, (by rw [ha.out]; exact putSel_upk 4 hb_ rfl rfl rfl), fun _ => (by (with_reducible repeat (first | refine blk_drewN ?_ _ | refine blk_drew ?_ | refine blk_alloc ?_ _)); exact BK168.out), (by (with_reducible repeat (first | refine blk_drewN ?_ _ | refine blk_drew ?_ | refine blk_alloc ?_ _)); exact BK175.out), fun h0_ => absurd ((up_self b 7).symm.trans h0_) (by decide), (by repeat (first | (with_reducible first | exact HB.out | apply below_alloc | apply pw_below_drewN | apply below_drew1 | refine below_set ?_ (IsS62.ge HI171.out) | refine below_set ?_ GE168.out | refine below_set ?_ GE175.out) | exact HB.out)), z_HO180, Q_HA_HO180, fun _ => (by repeat (first | (with_reducible first | exact HI171.out | apply IsS62.alloc | apply IsS62.drewN | apply IsS62.drew | apply IsS62.set_1 | refine IsS62.far ?_ NB171_168.out _ | refine IsS62.far ?_ NB171_175.out _) | exact HI171.out)), fun h0_ => absurd ((hoff 10 (by kernel_rfl)).symm.trans h0_) (by decide), fun h0_ => absurd ((hoff 8 (by kernel_rfl)).symm.trans h0_) (by decide)⟩
          refine steps_cons ?_ ?_
          · rintro b a w' ⟨v179, adz_v179, m8_, ha, Q_BK168, Q_BK175, Q_HI171, Q_HB, Q_HO180, Q_HA_HO180, Q_HI171_e7, Q_BK168_e10, Q_X8_⟩ hb_ hon hoff
            refine ⟨_, rfl, fun K hK => ?_⟩
            have e18 : a.tmps[18]? = some (v179) := by rw [ha]; exact putSel_on (e := (5, 18, v179)) 3 rfl rfl (hon 5 (by kernel_rfl)) rfl
            have e20 : a.tmps[20]? = some (.int .i64 t181) := by rw [ha]; exact putSel_on (e := (7, 20, .int .i64 t181)) 4 rfl rfl (hon 7 (by kernel_rfl)) rfl
            replace ha := Aside0.mk ha
            have BK175 := Aside0.mk Q_BK175
            have HB := Aside0.mk Q_HB
            have HO180 := Aside0.mk (Q_HO180 (hon 5 (by kernel_rfl)))
            have HA_HO180 := Aside0.mk (Q_HA_HO180 (hon 5 (by kernel_rfl)))
            have HI171 := Aside0.mk (Q_HI171_e7 (hon 7 (by kernel_rfl)))
            obtain ⟨c_, hv_⟩ := HA_HO180.out
            rw [hv_] at e18
            refine value_ (w1 := w') (v := .pointer (some (adz_v179.add (t181).toNat))) (by rfl) rfl ?_ ?_
            · go_simp
              (try simp only [i64_w])
              try rfl
            refine hK.out _ _ ⟨v179, adz_v179, (.pointer (some (adz_v179.add (t181).toNat))), (by rw [ha.out]; exact putSel_upk 5 hb_ rfl rfl rfl), Q_BK168, Q_BK175, fun h0_ => absurd ((hon 7 (by kernel_rfl)).symm.trans h0_) (by decide), Q_HB, Q_HO180, Q_HA_HO180, Q_HI171_e7, Q_BK168_e10, fun _ => rfl⟩
          refine steps_cons ?_ ?_
          · rintro b a w' ⟨v179, adz_v179, m8_, ha, Q_BK168, Q_BK175, Q_HI171, Q_HB, Q_HO180, Q_HA_HO180, Q_HI171_e7, Q_BK168_e10, Q_X8_⟩ hb_ hon hoff
            refine ⟨_, rfl, fun K hK => ?_⟩
            have e21 : a.tmps[21]? = some (m8_) := by rw [ha]; exact putSel_on (e := (8, 21, m8_)) 5 rfl rfl (hon 8 (by kernel_rfl)) rfl
            rw [Q_X8_ (hon 8 (by kernel_rfl))] at e21
            replace ha := Aside0.mk ha
            have BK175 := Aside0.mk Q_BK175
            have HB := Aside0.mk Q_HB
            have HO180 := Aside0.mk (Q_HO180 (hon 5 (by kernel_rfl)))
            have HA_HO180 := Aside0.mk (Q_HA_HO180 (hon 5 (by kernel_rfl)))
            have HI171 := Aside0.mk (Q_HI171_e7 (hon 7 (by kernel_rfl)))
            obtain ⟨c_, hv_⟩ := HA_HO180.out
            have hF_ := HO180.out
            rw [hv_] at hF_
            obtain ⟨ad_, ea_, hx_⟩ := Kd.at_string (Kd.R_reads' hF_).2.2 t181 (of_eq_true pi183) (of_eq_true qi183)
            cases ea_
            refine value_ (w1 := w') (v := .string (rdOf ByteArray.empty y178 t181)) (by rfl) rfl ?_ ?_
            · go_simp
              (try simp only [i64_w])
              try rfl
            refine hK.out _ _ ⟨v179, adz_v179, m8_, (by rw [ha.out]; exact putSel_upk 6 hb_ rfl rfl rfl), Q_BK168, Q_BK175, fun h0_ => absurd ((hon 7 (by kernel_rfl)).symm.trans h0_) (by decide), Q_HB, Q_HO180, Q_HA_HO180, Q_HI171_e7, Q_BK168_e10, Q_X8_⟩
          refine steps_cons ?_ ?_
          · rintro b a w' ⟨v179, adz_v179, m8_, ha, Q_BK168, Q_BK175, Q_HI171, Q_HB, Q_HO180, Q_HA_HO180, Q_HI171_e7, Q_BK168_e10, Q_X8_⟩ hb_ hon hoff
            refine ⟨_, rfl, fun K hK => ?_⟩
            have e2 : a.tmps[2]? = some (.pointer (some ⟨gb168, 0, none⟩)) := by rw [ha]; exact (putSel_off rfl).trans rfl
            have e13 : a.tmps[13]? = some (.agg #[.string t172, .string t173]) := by rw [ha]; exact putSel_on (e := (0, 13, .agg #[.string t172, .string t173])) 0 rfl rfl (hon 0 (by kernel_rfl)) rfl
            replace ha := Aside0.mk ha
            have BK168 := Aside0.mk (Q_BK168 hb_)
            have BK175 := Aside0.mk Q_BK175
            have HB := Aside0.mk Q_HB
            have HI171 := Aside0.mk (Q_HI171_e7 (hon 7 (by kernel_rfl)))
            have hs20 : w'.cell? ⟨gb168, 0, none⟩ = some (.string (⟨#[]⟩ : ByteArray)) := (blk_cell BK168.out 0).trans rfl
            have hfs20 := blk_frozen BK168.out 0
            have hns20_1 := NB175_168.out
            have hms20_1 := NB168_175.out
            have hs21 : w'.cell? ⟨gb168, 1, none⟩ = some (.string (⟨#[]⟩ : ByteArray)) := (blk_cell BK168.out 1).trans rfl
            have hfs21 := blk_frozen BK168.out 1
            have hns21_1 := NB175_168.out
            have hms21_1 := NB168_175.out
            refine skip_ (w1 := ?_) (by rfl) rfl ?_ ?_
            rotate_left
            · go_simp
              rfl
            refine hK.out _ _ ⟨v179, adz_v179, m8_, (by rw [ha.out]; exact putSel_none (v := undef) rfl), fun h0_ => absurd ((up_self b 10).symm.trans h0_) (by decide), (by (with_reducible repeat (first | refine blk_drewN ?_ _ | refine blk_drew ?_ | refine blk_alloc ?_ _)); refine blk_far ?_ NB175_168.out _; (with_reducible repeat (first | refine blk_drewN ?_ _ | refine blk_drew ?_ | refine blk_alloc ?_ _)); refine blk_far ?_ NB175_168.out _; (with_reducible repeat (first | refine blk_drewN ?_ _ | refine blk_drew ?_ | refine blk_alloc ?_ _)); exact BK175.out), fun h0_ => absurd ((hon 7 (by kernel_rfl)).symm.trans h0_) (by decide), (by repeat (first | (with_reducible first | exact HB.out | apply below_alloc | apply pw_below_drewN | apply below_drew1 | refine below_set ?_ (IsS62.ge HI171.out) | refine below_set ?_ GE168.out | refine below_set ?_ GE175.out) | exact HB.out)), fun h0_ => (by (with_reducible repeat (first | apply Kd.R_alloc | apply Kd.R_drewN | apply Kd.R_drew)); exact Kd.R_mono (Kd.R_far (p := ⟨gb168, 1, none⟩) (Kd.R_far (p := ⟨gb168, 0, none⟩) (Kd.R_types (Q_HO180 h0_) BK168.out (by decide)) (fun _ hk => hk.2) (.string t172)) (fun _ hk => hk.2) (.string t173)) (fun _ hk => trivial)), Q_HA_HO180, fun _ => (by repeat (first | (with_reducible first | exact HI171.out | apply IsS62.alloc | apply IsS62.drewN | apply IsS62.drew | apply IsS62.set_1 | refine IsS62.far ?_ NB171_168.out _ | refine IsS62.far ?_ NB171_175.out _) | exact HI171.out)), fun _ => (by (with_reducible repeat (first | refine blk_drewN ?_ _ | refine blk_drew ?_ | refine blk_alloc ?_ _)); refine blk_put (cs := #[.string t172, .string (⟨#[]⟩ : ByteArray)]) ?_ 1 _ rfl; (with_reducible repeat (first | refine blk_drewN ?_ _ | refine blk_drew ?_ | refine blk_alloc ?_ _)); refine blk_put (cs := #[.string (⟨#[]⟩ : ByteArray), .string (⟨#[]⟩ : ByteArray)]) ?_ 0 _ rfl; (with_reducible repeat (first | refine blk_drewN ?_ _ | refine blk_drew ?_ | refine blk_alloc ?_ _)); exact BK168.out), Q_X8_⟩
          refine steps_cons ?_ ?_
          · rintro b a w' ⟨v179, adz_v179, m8_, ha, Q_BK168, Q_BK175, Q_HI171, Q_HB, Q_HO180, Q_HA_HO180, Q_HI171_e7, Q_BK168_e10, Q_X8_⟩ hb_ hon hoff
            refine ⟨_, rfl, fun K hK => ?_⟩
            have e22 : a.tmps[22]? = some (.string (rdOf ByteArray.empty y178 t181)) := by rw [ha]; exact putSel_on (e := (9, 22, .string (rdOf ByteArray.empty y178 t181))) 6 rfl rfl (hon 9 (by kernel_rfl)) rfl
            replace ha := Aside0.mk ha
            have BK175 := Aside0.mk Q_BK175
            have HB := Aside0.mk Q_HB
            have HO180 := Aside0.mk (Q_HO180 (hon 5 (by kernel_rfl)))
            have HA_HO180 := Aside0.mk (Q_HA_HO180 (hon 5 (by kernel_rfl)))
            have HI171 := Aside0.mk (Q_HI171_e7 (hon 7 (by kernel_rfl)))
            have BK168 := Aside0.mk (Q_BK168_e10 (hon 10 (by kernel_rfl)))
            refine value_ (w1 := w') (v := .string (rdOf ByteArray.empty y178 t181)) (by rfl) rfl ?_ ?_
            · go_simp
              (try simp only [i64_w])
              try rfl
            refine hK.out _ _ ⟨v179, adz_v179, m8_, (by rw [ha.out]; exact putSel_upk 7 hb_ rfl rfl rfl), fun h0_ => absurd ((hon 10 (by kernel_rfl)).symm.trans h0_) (by decide), Q_BK175, fun h0_ => absurd ((hon 7 (by kernel_rfl)).symm.trans h0_) (by decide), Q_HB, Q_HO180, Q_HA_HO180, Q_HI171_e7, Q_BK168_e10, Q_X8_⟩
          exact steps_nil
        rintro b a w24 hall ⟨v179, adz_v179, m8_, ha, Q_BK168, Q_BK175, Q_HI171, Q_HB, Q_HO180, Q_HA_HO180, Q_HI171_e7, Q_BK168_e10, Q_X8_⟩
        clear BK168 BK175 HB HI171
        have hb0_ := hall 0 (by kernel_rfl)
        have hb2_ := hall 2 (by kernel_rfl)
        have hb4_ := hall 4 (by kernel_rfl)
        have hb5_ := hall 5 (by kernel_rfl)
        have hb7_ := hall 7 (by kernel_rfl)
        have hb8_ := hall 8 (by kernel_rfl)
        have hb9_ := hall 9 (by kernel_rfl)
        have hb10_ := hall 10 (by kernel_rfl)
        have hb11_ := hall 11 (by kernel_rfl)
        subst ha
        obtain rfl := Q_X8_ hb8_
        simp only [putSel, hb0_, hb2_, hb4_, hb5_, hb7_, hb8_, hb9_, hb10_, hb11_, if_true, Act.put, List.setIfInBounds_toArray, List.set_cons_zero, List.set_cons_succ]
        clear Q_BK168
        have BK175 := Aside0.mk Q_BK175
        clear Q_BK175
        clear Q_HI171
        have HB := Aside0.mk Q_HB
        clear Q_HB
        have HO180 := Aside0.mk (Q_HO180 hb5_)
        clear Q_HO180
        have HA_HO180 := Aside0.mk (Q_HA_HO180 hb5_)
        clear Q_HA_HO180
        have HI171 := Aside0.mk (Q_HI171_e7 hb7_)
        clear Q_HI171_e7
        have BK168 := Aside0.mk (Q_BK168_e10 hb10_)
        clear Q_BK168_e10
        clear hall hb0_ hb2_ hb4_ hb5_ hb7_ hb8_ hb9_ hb10_ hb11_
        obtain ⟨co25, eo25⟩ := HA_HO180.out
        clear HA_HO180
        subst eo25
        try go_wp2
        refine bodyPost_ret (results_ct rfl _ _ gb168 35 #[.string t172, .string t173] (0, 0) _ rfl (by (with_reducible repeat (first | refine blk_drewN ?_ _ | refine blk_drew ?_ | refine blk_alloc ?_ _)); exact BK168.out) Try.underlying35 rfl (by kernel_rfl)) rfl ?_
        exact ⟨by first | rfl | (simp only [u8_w_, w64_u8_]; done) | (simp only [u8_w_, w64_u8_]; rfl) | (simp [errW_none, errW_some] <;> rfl) | (simp [*, errW_none, errW_some] <;> rfl), by repeat (first | (with_reducible first | exact HB.out | apply below_alloc | apply pw_below_drewN | apply below_drew1 | refine below_set ?_ (IsS62.ge HI171.out) | refine below_set ?_ GE168.out | refine below_set ?_ GE175.out) | exact HB.out)⟩
      · rw [if_neg c8] at H
        exact absurd H (by simp)
    · rw [if_neg c7] at H
      exact absurd H (by simp)
  · rw [if_neg c5] at H
    have c5b0 : (t176 == 0) = false := beq_eq_false_iff_ne.mpr c5
    have c5b1 : (t176 != 0) = true := bne_iff_ne.mpr c5
    replace H := Option.bind_eq_some_iff.mp H
    obtain ⟨⟨t184, t185⟩, A260, H⟩ := H
    replace H : (some (t172, t173, t184)) = some (r1, r2, r3) := H
    have A26 := Aside0.mk A260
    clear A260
    simp only [Option.some.injEq, Prod.mk.injEq] at H
    obtain ⟨rfl, rfl, rfl⟩ := H
    go_enter Try.func33, Try.ntmps33
    try go_wp2_with (first | ((with_reducible refine gate_dst (N := 2) rfl ?_); refine box_event ?hg (N := 2) ?hd (cs := #[.string (⟨#[]⟩ : ByteArray), .string (⟨#[]⟩ : ByteArray)]) (t := 35) ?hr ?_; (case hd => rfl); (case hg => rfl); (case hr => first | (go_simp; done) | (go_simp; rfl)); intro gb168 hg w27 hbox hb; have n0_ := Aside0.mk (below_step (by repeat (first | (with_reducible first | exact HB.out | apply below_alloc | apply pw_below_drewN | apply below_drew1) | exact HB.out)) hb); have n1_ := Aside0.mk (hbox); have n2_ := Aside0.mk ((by rw [hg]; exact (below_size (by repeat (first | (with_reducible first | exact HB.out | apply below_alloc | apply pw_below_drewN | apply below_drew1) | exact HB.out))) : w.heap.size ≤ gb168)); have n3_ := Aside0.mk ((by rw [hg]; exact (below_size (by repeat (first | (with_reducible first | exact HB.out | apply below_alloc | apply pw_below_drewN | apply below_drew1) | exact HB.out))) : w.heap.size ≤ gb168)); clear HB; have HB := n0_; have BK168 := n1_; have GW168 := n2_; have GE168 := n3_; clear n0_ n1_ n2_ n3_; clear hb hbox hg) | ((with_reducible refine gate_callee (f := 46) rfl ?_); refine goesL_ (some 7) rfl rfl Try.func46 (by kernel_rfl) rfl #[.slice A0 l0.length c0] rfl (by (try simp only [List.map_toArray, List.map_cons, List.map_nil]); first | done | rfl | (simp only [List.length_drop, List.length_take]; rfl)) ?_; (with_reducible refine (spec_l20Open.calls _ _ l0 t169 t170 w _ ?side1 ?side2 ?side3 A2.out).mono ?_); (case side1 => repeat (first | (with_reducible first | exact HB.out | apply below_alloc | apply pw_below_drewN | apply below_drew1 | refine below_set ?_ GE168.out) | exact HB.out)); (case side2 => exact HR0.out); (case side3 => exact HC0.out); rintro e w28 ⟨g171, rfl, hi, hb, hb2⟩; refine ⟨_, rfl, ?_⟩; have n0_ := Aside0.mk (blk_below (g := gb168) (o := .cells #[.string (⟨#[]⟩ : ByteArray), .string (⟨#[]⟩ : ByteArray)] 35 (0, 0)) (by (with_reducible repeat (first | refine blk_drewN ?_ _ | refine blk_drew ?_ | refine blk_alloc ?_ _)); exact BK168.out) hb2); have n1_ := Aside0.mk (hb); have n2_ := Aside0.mk (hi); have n3_ := Aside0.mk (IsS62.ne_blk hi (blk_below (g := gb168) (o := .cells #[.string (⟨#[]⟩ : ByteArray), .string (⟨#[]⟩ : ByteArray)] 35 (0, 0)) (by (with_reducible repeat (first | refine blk_drewN ?_ _ | refine blk_drew ?_ | refine blk_alloc ?_ _)); exact BK168.out) hb2) (by decide)); have n4_ := Aside0.mk (Ne.symm (IsS62.ne_blk hi (blk_below (g := gb168) (o := .cells #[.string (⟨#[]⟩ : ByteArray), .string (⟨#[]⟩ : ByteArray)] 35 (0, 0)) (by (with_reducible repeat (first | refine blk_drewN ?_ _ | refine blk_drew ?_ | refine blk_alloc ?_ _)); exact BK168.out) hb2) (by decide))); clear BK168; clear HB; have BK168 := n0_; have HB := n1_; have HI171 := n2_; have NB171_168 := n3_; have NB168_171 := n4_; clear n0_ n1_ n2_ n3_ n4_; (try clear hb); (try clear hb2); (try clear hk); (try clear hi)) | ((with_reducible refine gate_callee (f := 55) rfl ?_); refine goesL_ (some 9) rfl rfl Try.func55 (by kernel_rfl) rfl #[.pointer (some ⟨g171, 0, none⟩), .int .i64 9] rfl (by (try simp only [List.map_toArray, List.map_cons, List.map_nil]); first | done | rfl | (simp only [List.length_drop, List.length_take]; rfl)) ?_; (with_reducible refine (spec_l20Span.calls k g171 t169 t170 9 t172 t173 t174 w _ ?side1 ?side2 A3.out).mono ?_); (case side1 => repeat (first | (with_reducible first | exact HI171.out | apply IsS62.alloc | apply IsS62.drewN | apply IsS62.drew | apply IsS62.set_1 | refine IsS62.far ?_ NB171_168.out _) | exact HI171.out)); (case side2 => repeat (first | (with_reducible first | exact HB.out | apply below_alloc | apply pw_below_drewN | apply below_drew1 | refine below_set ?_ (IsS62.ge HI171.out) | refine below_set ?_ GE168.out) | exact HB.out)); rintro e w29 ⟨rfl, hi, hb, hk⟩; refine ⟨_, rfl, ?_⟩; have n0_ := Aside0.mk (KeepBut.blk hk (g' := gb168) (o := .cells #[.string (⟨#[]⟩ : ByteArray), .string (⟨#[]⟩ : ByteArray)] 35 (0, 0)) (by (with_reducible repeat (first | refine blk_drewN ?_ _ | refine blk_drew ?_ | refine blk_alloc ?_ _)); exact BK168.out) NB168_171.out (by simp)); have n1_ := Aside0.mk (hb); have n2_ := Aside0.mk (hi); clear BK168; clear HB; clear HI171; have BK168 := n0_; have HB := n1_; have HI171 := n2_; clear n0_ n1_ n2_; (try clear hb); (try clear hb2); (try clear hk); (try clear hi)) | ((with_reducible refine gate_dst (N := 5) rfl ?_); refine box_event ?hg (N := 5) ?hd (cs := #[.string (⟨#[]⟩ : ByteArray), .string (⟨#[]⟩ : ByteArray)]) (t := 35) ?hr ?_; (case hd => rfl); (case hg => rfl); (case hr => first | (go_simp; done) | (go_simp; rfl)); intro gb175 hg w30 hbox hb; have n0_ := Aside0.mk (blk_below (g := gb168) (o := .cells #[.string (⟨#[]⟩ : ByteArray), .string (⟨#[]⟩ : ByteArray)] 35 (0, 0)) (by (with_reducible repeat (first | refine blk_drewN ?_ _ | refine blk_drew ?_ | refine blk_alloc ?_ _)); exact BK168.out) hb); have n1_ := Aside0.mk (IsS62.below (by repeat (first | (with_reducible first | exact HI171.out | apply IsS62.alloc | apply IsS62.drewN | apply IsS62.drew | apply IsS62.set_1 | refine IsS62.far ?_ NB171_168.out _) | exact HI171.out)) hb); have n2_ := Aside0.mk (below_step (by repeat (first | (with_reducible first | exact HB.out | apply below_alloc | apply pw_below_drewN | apply below_drew1 | refine below_set ?_ (IsS62.ge HI171.out) | refine below_set ?_ GE168.out) | exact HB.out)) hb); have n3_ := Aside0.mk (hbox); have n4_ := Aside0.mk ((by rw [hg]; exact (below_size (by repeat (first | (with_reducible first | exact HB.out | apply below_alloc | apply pw_below_drewN | apply below_drew1 | refine below_set ?_ (IsS62.ge HI171.out) | refine below_set ?_ GE168.out) | exact HB.out))) : w.heap.size ≤ gb175)); have n5_ := Aside0.mk ((by rw [hg]; exact (below_size (by repeat (first | (with_reducible first | exact HB.out | apply below_alloc | apply pw_below_drewN | apply below_drew1 | refine below_set ?_ (IsS62.ge HI171.out) | refine below_set ?_ GE168.out) | exact HB.out))) : w.heap.size ≤ gb175)); have n6_ := Aside0.mk ((by rw [hg]; exact Nat.ne_of_lt (blk_lt (g := gb168) (o := .cells #[.string (⟨#[]⟩ : ByteArray), .string (⟨#[]⟩ : ByteArray)] 35 (0, 0)) (by (with_reducible repeat (first | refine blk_drewN ?_ _ | refine blk_drew ?_ | refine blk_alloc ?_ _)); exact BK168.out)) : gb168 ≠ gb175)); have n7_ := Aside0.mk ((by rw [hg]; exact Nat.ne_of_gt (blk_lt (g := gb168) (o := .cells #[.string (⟨#[]⟩ : ByteArray), .string (⟨#[]⟩ : ByteArray)] 35 (0, 0)) (by (with_reducible repeat (first | refine blk_drewN ?_ _ | refine blk_drew ?_ | refine blk_alloc ?_ _)); exact BK168.out)) : gb175 ≠ gb168)); have n8_ := Aside0.mk ((by rw [hg]; exact Nat.ne_of_lt (IsS62.lt (show IsS62 w _ g171 t169 t174 from by repeat (first | (with_reducible first | exact HI171.out | apply IsS62.alloc | apply IsS62.drewN | apply IsS62.drew | apply IsS62.set_1 | refine IsS62.far ?_ NB171_168.out _) | exact HI171.out))) : g171 ≠ gb175)); have n9_ := Aside0.mk ((by rw [hg]; exact Nat.ne_of_gt (IsS62.lt (show IsS62 w _ g171 t169 t174 from by repeat (first | (with_reducible first | exact HI171.out | apply IsS62.alloc | apply IsS62.drewN | apply IsS62.drew | apply IsS62.set_1 | refine IsS62.far ?_ NB171_168.out _) | exact HI171.out))) : gb175 ≠ g171)); clear BK168; clear HI171; clear HB; have BK168 := n0_; have HI171 := n1_; have HB := n2_; have BK175 := n3_; have GW175 := n4_; have GE175 := n5_; have NB168_175 := n6_; have NB175_168 := n7_; have NB171_175 := n8_; have NB175_171 := n9_; clear n0_ n1_ n2_ n3_ n4_ n5_ n6_ n7_ n8_ n9_; clear hb hbox hg; have hnb31 := NB175_168.out; have hnc31 := NB168_175.out; have hnb32 := NB175_171.out; have hnc32 := NB171_175.out; have hcz33_0 : w30.cell? ⟨gb175, 0, none⟩ = some (.string (⟨#[]⟩ : ByteArray)) := (blk_cell BK175.out 0).trans rfl; have hcz33_1 : w30.cell? ⟨gb175, 1, none⟩ = some (.string (⟨#[]⟩ : ByteArray)) := (blk_cell BK175.out 1).trans rfl; have hfz33_0 := blk_frozen BK175.out 0; have hfz33_1 := blk_frozen BK175.out 1) | ((with_reducible refine gate_callee (f := 51) rfl ?_); refine goesL_ (some 11) rfl rfl Try.func51 (by kernel_rfl) rfl #[.pointer (some ⟨g171, 0, none⟩), .int .i64 4] rfl (by (try simp only [List.map_toArray, List.map_cons, List.map_nil]); first | done | rfl | (simp only [List.length_drop, List.length_take]; rfl)) ?_; (with_reducible refine (spec_l20Rd_pick.calls k g171 t169 t174 4 t176 t177 w _ ?side1 ?side2 A4.out).mono ?_); (case side1 => repeat (first | (with_reducible first | exact HI171.out | apply IsS62.alloc | apply IsS62.drewN | apply IsS62.drew | apply IsS62.set_1 | refine IsS62.far ?_ NB171_168.out _ | refine IsS62.far ?_ NB171_175.out _) | exact HI171.out)); (case side2 => repeat (first | (with_reducible first | exact HB.out | apply below_alloc | apply pw_below_drewN | apply below_drew1 | refine below_set ?_ (IsS62.ge HI171.out) | refine below_set ?_ GE168.out | refine below_set ?_ GE175.out) | exact HB.out)); rintro e w34 ⟨rfl, hi, hb, hk⟩; refine ⟨_, rfl, ?_⟩; have n0_ := Aside0.mk (KeepBut.blk hk (g' := gb168) (o := .cells #[.string (⟨#[]⟩ : ByteArray), .string (⟨#[]⟩ : ByteArray)] 35 (0, 0)) (by (with_reducible repeat (first | refine blk_drewN ?_ _ | refine blk_drew ?_ | refine blk_alloc ?_ _)); refine blk_far ?_ NB168_175.out _; (with_reducible repeat (first | refine blk_drewN ?_ _ | refine blk_drew ?_ | refine blk_alloc ?_ _)); refine blk_far ?_ NB168_175.out _; (with_reducible repeat (first | refine blk_drewN ?_ _ | refine blk_drew ?_ | refine blk_alloc ?_ _)); exact BK168.out) NB168_171.out (by simp)); have n1_ := Aside0.mk (KeepBut.blk hk (g' := gb175) (o := .cells #[.string t172, .string t173] 35 (0, 0)) (by (with_reducible repeat (first | refine blk_drewN ?_ _ | refine blk_drew ?_ | refine blk_alloc ?_ _)); refine blk_put (cs := #[.string t172, .string (⟨#[]⟩ : ByteArray)]) ?_ 1 _ rfl; (with_reducible repeat (first | refine blk_drewN ?_ _ | refine blk_drew ?_ | refine blk_alloc ?_ _)); refine blk_put (cs := #[.string (⟨#[]⟩ : ByteArray), .string (⟨#[]⟩ : ByteArray)]) ?_ 0 _ rfl; (with_reducible repeat (first | refine blk_drewN ?_ _ | refine blk_drew ?_ | refine blk_alloc ?_ _)); exact BK175.out) NB175_171.out (by simp)); have n2_ := Aside0.mk (hb); have n3_ := Aside0.mk (hi); clear BK168; clear BK175; clear HB; clear HI171; have BK168 := n0_; have BK175 := n1_; have HB := n2_; have HI171 := n3_; clear n0_ n1_ n2_ n3_; (try clear hb); (try clear hb2); (try clear hk); (try clear hi)))
    have n0_ := Aside0.mk (blk_drew BK168.out)
    have n1_ := Aside0.mk (blk_drew BK175.out)
    have n2_ := Aside0.mk (IsS62.drew HI171.out)
    have n3_ := Aside0.mk (below_drew1 HB.out)
    clear BK168
    clear BK175
    clear HI171
    clear HB
    have BK168 := n0_
    have BK175 := n1_
    have HI171 := n2_
    have HB := n3_
    clear n0_ n1_ n2_ n3_
    refine start_ (n := 5) (S := fun w' => w'.cell? ⟨gb175, 0, none⟩ = some (.string t172) ∧ w'.cell? ⟨gb175, 1, none⟩ = some (.string t173)) (ds := []) #[false, false, false, false, false] (by kernel_rfl) rfl rfl ⟨(blk_cell BK175.out 0).trans rfl, (blk_cell BK175.out 1).trans rfl⟩ (fun hHeld => ?_)
    generalize w34.drew = w35 at BK168 BK175 HI171 HB hHeld ⊢
    refine pure_ (i := 1) (N := some 24) (v := ?_) (a' := ?_) #[false, true, false, false, false] rfl rfl (by kernel_rfl) (fun _ _ _ h => h) (Or.inl ⟨by rfl, ?_⟩) ?_ ?_
    rotate_left
    · intro w'
      go_simp
      with_reducible rfl
    rotate_left
    · simp only [Act.put, List.setIfInBounds_toArray, List.set_cons_zero, List.set_cons_succ, i64_w, i32_w]
      rfl
    refine take_ (i := 0) (N := some 23) (v := ?_) (a' := ?_) #[true, true, false, false, false] rfl rfl (by kernel_rfl) (fun _ _ _ h => h) (Or.inl ⟨by rfl, ?_⟩) hHeld ?_ ?_
    rotate_left
    · rintro w' ⟨s0, s1⟩
      go_simp
      with_reducible rfl
    rotate_left
    · simp only [Act.put, List.setIfInBounds_toArray, List.set_cons_zero, List.set_cons_succ, i64_w, i32_w]
      rfl
    refine one_ (i := 2) (N := some 25) #[true, true, true, false, false] rfl rfl (by kernel_rfl) (by decide) (fun K hK => ?_)
    refine goes_ Try.func45 (by kernel_rfl) rfl #[.pointer (some ⟨g171, 0, none⟩), .int .i64 9] (by rfl) rfl rfl (by (try simp only [List.map_toArray, List.map_cons, List.map_nil]); first | done | rfl | (simp only [List.length_drop, List.length_take]; rfl)) ?_
    with_reducible refine (spec_l20Key.calls k g171 t169 t177 9 t184 t185 w _ ?side1 ?side2 A26.out).mono ?_
    (case side1 => repeat (first | (with_reducible first | exact HI171.out | apply IsS62.alloc | apply IsS62.drewN | apply IsS62.drew | apply IsS62.set_1 | refine IsS62.far ?_ NB171_168.out _ | refine IsS62.far ?_ NB171_175.out _) | exact HI171.out))
    (case side2 => repeat (first | (with_reducible first | exact HB.out | apply below_alloc | apply pw_below_drewN | apply below_drew1 | refine below_set ?_ (IsS62.ge HI171.out) | refine below_set ?_ GE168.out | refine below_set ?_ GE175.out) | exact HB.out))
    rintro e w36 ⟨rfl, hi, hb, hk⟩
    refine ⟨_, rfl, ?_⟩
    have n0_ := Aside0.mk (KeepBut.blk hk (g' := gb168) (o := .cells #[.string (⟨#[]⟩ : ByteArray), .string (⟨#[]⟩ : ByteArray)] 35 (0, 0)) (by (with_reducible repeat (first | refine blk_drewN ?_ _ | refine blk_drew ?_ | refine blk_alloc ?_ _)); exact BK168.out) NB168_171.out (by simp))
    have n1_ := Aside0.mk (KeepBut.blk hk (g' := gb175) (o := .cells #[.string t172, .string t173] 35 (0, 0)) (by (with_reducible repeat (first | refine blk_drewN ?_ _ | refine blk_drew ?_ | refine blk_alloc ?_ _)); exact BK175.out) NB175_171.out (by simp))
    have n2_ := Aside0.mk (hb)
    have n3_ := Aside0.mk (hi)
    clear BK168
    clear BK175
    clear HB
    clear HI171
    have BK168 := n0_
    have BK175 := n1_
    have HB := n2_
    have HI171 := n3_
    clear n0_ n1_ n2_ n3_
    (try clear hb)
    (try clear hb2)
    (try clear hk)
    (try clear hi)
    refine hK.out _ _ ⟨(blk_cell BK175.out 0).trans rfl, (blk_cell BK175.out 1).trans rfl⟩ (fun hHeld => ?_)
    clear hK K
    refine norm_ (a' := ?_) ?_ ?_
    rotate_left
    · show Act.put _ (some 25) _ = _
      simp only [Act.put, List.setIfInBounds_toArray, List.set_cons_zero, List.set_cons_succ, i64_w, i32_w]
      rfl
    refine one_ (i := 3) (N := none) #[true, true, true, true, false] rfl rfl (by kernel_rfl) (by decide) (fun K hK => ?_)
    have hs37 : w36.cell? ⟨gb168, 0, none⟩ = some (.string (⟨#[]⟩ : ByteArray)) := (blk_cell BK168.out 0).trans rfl
    have hfs37 := blk_frozen BK168.out 0
    have hns37_1 := NB175_168.out
    have hms37_1 := NB168_175.out
    have hs38 : w36.cell? ⟨gb168, 1, none⟩ = some (.string (⟨#[]⟩ : ByteArray)) := (blk_cell BK168.out 1).trans rfl
    have hfs38 := blk_frozen BK168.out 1
    have hns38_1 := NB175_168.out
    have hms38_1 := NB168_175.out
    refine skip_ (w1 := ?_) (by rfl) rfl ?_ ?_
    rotate_left
    · go_simp
      rfl
    refine hK.out _ _ ⟨((cell_far (p := ⟨gb168, _, none⟩) NB175_168.out _).trans (((cell_far (p := ⟨gb168, _, none⟩) NB175_168.out _).trans (hHeld.1)))), ((cell_far (p := ⟨gb168, _, none⟩) NB175_168.out _).trans (((cell_far (p := ⟨gb168, _, none⟩) NB175_168.out _).trans (hHeld.2))))⟩ (fun hHeld => ?_)
    clear hK K
    refine pure_ (i := 4) (N := some 3) (v := ?_) (a' := ?_) #[true, true, true, true, true] rfl rfl (by kernel_rfl) (fun _ _ _ h => h) (Or.inl ⟨by rfl, ?_⟩) ?_ ?_
    rotate_left
    · intro w'
      go_simp
      with_reducible rfl
    rotate_left
    · simp only [Act.put, List.setIfInBounds_toArray, List.set_cons_zero, List.set_cons_succ, i64_w, i32_w]
      rfl
    refine done_ (by kernel_rfl) ?_
    try go_wp2
    refine bodyPost_ret (results_ct rfl _ _ gb168 35 #[.string t172, .string t173] (0, 0) _ rfl (by (with_reducible repeat (first | refine blk_drewN ?_ _ | refine blk_drew ?_ | refine blk_alloc ?_ _)); refine blk_put (cs := #[.string t172, .string (⟨#[]⟩ : ByteArray)]) ?_ 1 _ rfl; (with_reducible repeat (first | refine blk_drewN ?_ _ | refine blk_drew ?_ | refine blk_alloc ?_ _)); refine blk_put (cs := #[.string (⟨#[]⟩ : ByteArray), .string (⟨#[]⟩ : ByteArray)]) ?_ 0 _ rfl; (with_reducible repeat (first | refine blk_drewN ?_ _ | refine blk_drew ?_ | refine blk_alloc ?_ _)); exact BK168.out) Try.underlying35 rfl (by kernel_rfl)) rfl ?_
    exact ⟨by first | rfl | (simp only [u8_w_, w64_u8_]; done) | (simp only [u8_w_, w64_u8_]; rfl) | (simp [errW_none, errW_some] <;> rfl) | (simp [*, errW_none, errW_some] <;> rfl), by repeat (first | (with_reducible first | exact HB.out | apply below_alloc | apply pw_below_drewN | apply below_drew1 | refine below_set ?_ (IsS62.ge HI171.out) | refine below_set ?_ GE168.out | refine below_set ?_ GE175.out) | exact HB.out)⟩

/-! ### spec_l1In: function 48 -/
def spec_l1In.f (a0 : Int) (a1 : Int) (a2 : Int) : Option (Bool) := if a0 ≥ a1 then (some (decide (a0 ≤ a2))) else (some false)
set_option maxHeartbeats 8000000 in
set_option maxRecDepth 100000 in
theorem spec_l1In.calls (a0 : Int) (a1 : Int) (a2 : Int) (r : Bool) (w : World) (h : spec_l1In.f a0 a1 a2 = some r) :
    Calls Try.prog 48 #[.int .i64 a0, .int .i64 a1, .int .i64 a2] w fun e w' => e = .returned (.bool r) ∧ Drawn0 w w' := by
  have H : (if a0 ≥ a1 then (some (decide (a0 ≤ a2))) else (some false)) = some r := h
  clear h
  by_cases c4 : a0 ≥ a1
  · rw [if_pos c4] at H
    have c4b0 : decide (a1 ≤ a0) = true := decide_eq_true c4
    clear c4
    obtain rfl := Option.some.inj H
    go_enter Try.func48, Try.ntmps48
    go_wp2
    go_ret
    exact ⟨by first | rfl | (simp; done) | (simp [*]; done), by repeat (first | exact Drawn0.refl _ | apply Drawn0.step)⟩
  · rw [if_neg c4] at H
    have c4b0 : decide (a1 ≤ a0) = false := decide_eq_false c4
    clear c4
    obtain rfl := Option.some.inj H
    go_enter Try.func48, Try.ntmps48
    go_wp2
    go_ret
    exact ⟨by first | rfl | (simp; done) | (simp [*]; done), by repeat (first | exact Drawn0.refl _ | apply Drawn0.step)⟩

end Go.Proofs.Ytgpffbijmohfjaa.PFnIntervalHas
