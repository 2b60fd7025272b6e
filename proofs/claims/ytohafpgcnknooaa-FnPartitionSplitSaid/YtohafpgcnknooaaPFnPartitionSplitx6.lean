-- Written for this claim by a program of this session (wip/myprint in the proofs' repo)
import Derived.Test.YtohafpgcnknooaaPFnPartitionSplitx0
import Derived.Test.YtohafpgcnknooaaPFnPartitionSplitx2
import Derived.Test.YtohafpgcnknooaaPFnPartitionSplitx4
import Derived.Test.YtohafpgcnknooaaPFnPartitionSplitx5
import Derived.Test.YtohafpgcnknooaaWZip
namespace Go.Proofs.Ytohafpgcnknooaa.PFnPartitionSplit
open Go.RowKit Go.Proofs.YtohafpgcnknooaaW.PrintWords Go.Proofs.YtohafpgcnknooaaW.PrintLast Go.Proofs.YtohafpgcnknooaaW.PrintMore
attribute [local go_sem] max2_int min2_int max_two min_two max_three min_three max_four min_four max2_strs min2_strs   -- for this text's walks alone
set_option linter.unusedVariables false
set_option linter.unusedSimpArgs false

/-! ### impl_IntervalCut: function 50 -/
def impl_IntervalCut.j0 : Nat → ByteArray → Bool → ByteArray → ByteArray → Option (ByteArray × ByteArray × ByteArray × ByteArray × Bool)
 | 0, _, _, _, _ => none
 | k + 1, x1, x16, x160000, x160001 => if x16 = true then (some ((⟨#[]⟩ : ByteArray), (⟨#[]⟩ : ByteArray), (⟨#[]⟩ : ByteArray), (⟨#[]⟩ : ByteArray), false)) else ((impl_IntervalValid.f k x160000 x1).bind fun t166 => (if t166 = true then ((impl_IntervalValid.f k x1 x160001).bind fun t167 => (if t167 = true then (some (x160000, x1, x1, x160001, true)) else (some ((⟨#[]⟩ : ByteArray), (⟨#[]⟩ : ByteArray), (⟨#[]⟩ : ByteArray), (⟨#[]⟩ : ByteArray), false)))) else (some ((⟨#[]⟩ : ByteArray), (⟨#[]⟩ : ByteArray), (⟨#[]⟩ : ByteArray), (⟨#[]⟩ : ByteArray), false))))
def impl_IntervalCut.f (k : Nat) (a0_0 : ByteArray) (a0_1 : ByteArray) (a1 : ByteArray) : Option (ByteArray × ByteArray × ByteArray × ByteArray × Bool) := (impl_IntervalValid.f k a0_0 a0_1).bind fun t162 => (if t162 = true then ((impl_KeyValid.f k a1).bind fun t163 => (impl_IntervalCut.j0 k a1 (!t163) a0_0 a0_1)) else (impl_IntervalCut.j0 k a1 true a0_0 a0_1))
theorem impl_IntervalCut.mono_l : ∀ k, (∀ y0 y1 y2 y3, LeO (impl_IntervalCut.j0 k y0 y1 y2 y3) (impl_IntervalCut.j0 (k + 1) y0 y1 y2 y3))
 | 0 => fun _ _ _ _ r h => by simp [impl_IntervalCut.j0] at h
 | k + 1 => by
  have ih0 := impl_IntervalCut.mono_l k
  ·intro y0 y1 y2 y3
   unfold impl_IntervalCut.j0
   repeat' first
   | (with_reducible exact ih0 _ _ _ _)
   | (with_reducible exact impl_IntervalValid.mono _ _ _)
   | (with_reducible exact impl_KeyValid.mono _ _)
   | (with_reducible exact LeO.refl _)
   | (with_reducible exact LeO.none _)
   | (with_reducible refine LeO.ite ?_ ?_)
   | (with_reducible refine LeO.bind ?_ (fun _ => ?_))
   | exact ih0 _ _ _ _
   | exact impl_IntervalValid.mono _ _ _
   | exact impl_KeyValid.mono _ _
   | exact LeO.none _
   | refine LeO.ite ?_ ?_
   | refine LeO.bind ?_ (fun _ => ?_)
theorem impl_IntervalCut.mono : ∀ a0 a1 a2 k, LeO (impl_IntervalCut.f k a0 a1 a2) (impl_IntervalCut.f (k + 1) a0 a1 a2) := by
 intro a0 a1 a2 k
 have ih0 := impl_IntervalCut.mono_l k
 unfold impl_IntervalCut.f
 repeat' first
   | (with_reducible exact ih0 _ _ _ _)
   | (with_reducible exact impl_IntervalValid.mono _ _ _)
   | (with_reducible exact impl_KeyValid.mono _ _)
   | (with_reducible exact LeO.refl _)
   | (with_reducible exact LeO.none _)
   | (with_reducible refine LeO.ite ?_ ?_)
   | (with_reducible refine LeO.bind ?_ (fun _ => ?_))
   | exact ih0 _ _ _ _
   | exact impl_IntervalValid.mono _ _ _
   | exact impl_KeyValid.mono _ _
   | exact LeO.none _
   | refine LeO.ite ?_ ?_
   | refine LeO.bind ?_ (fun _ => ?_)
set_option maxHeartbeats 8000000 in
set_option maxRecDepth 100000 in
theorem impl_IntervalCut.calls (k : Nat) (a0_0 : ByteArray) (a0_1 : ByteArray) (a1 : ByteArray) (r1 : ByteArray) (r2 : ByteArray) (r3 : ByteArray) (r4 : ByteArray) (r5 : Bool) (w : World) (h : impl_IntervalCut.f k a0_0 a0_1 a1 = some (r1, r2, r3, r4, r5)) :
  Calls Try.prog 50 #[.agg #[.string a0_0, .string a0_1], .string a1] w fun e w' => e = .returned (.tuple #[.agg #[.string r1, .string r2], .agg #[.string r3, .string r4], .bool r5]) ∧ Below w.heap.size w w' := by
 have hu27 := Try.underlying27
 have HB := Aside0.mk (Below.refl w.heap.size w)
 have H : ((impl_IntervalValid.f k a0_0 a0_1).bind fun t162 => (if t162 = true then ((impl_KeyValid.f k a1).bind fun t163 => (impl_IntervalCut.j0 k a1 (!t163) a0_0 a0_1)) else (impl_IntervalCut.j0 k a1 true a0_0 a0_1))) = some (r1, r2, r3, r4, r5) := h
 clear h
 have HC3 := Aside0.mk H
 clear H
 go_enter Try.func50, Try.ntmps50
 go_upto_region 1 with (first | ((with_reducible refine gate_dst (N := 2) rfl ?_); refine box_event ?hg (N := 2) ?hd (cs := #[.string a0_0, .string a0_1]) (t := 27) ?hr ?_; (case hd => rfl); (case hg => rfl); (case hr => first | (go_simp; done) | (go_simp; rfl)); intro gb159 hg w4 hbox hb; have n0_ := Aside0.mk (below_step (by exact hopb HB.out) hb); have n1_ := Aside0.mk (hbox); have n2_ := Aside0.mk ((by rw [hg]; exact (below_size (by exact hopb HB.out)) : w.heap.size ≤ gb159)); have n3_ := n2_; clear HB; have HB := n0_; have BK159 := n1_; have GW159 := n2_; have GE159 := n3_; clear n0_ n1_ n2_ n3_; clear hb hbox hg) | ((with_reducible refine gate_dst (N := 4) rfl ?_); refine box_event ?hg (N := 4) ?hd (cs := #[.string (⟨#[]⟩ : ByteArray), .string (⟨#[]⟩ : ByteArray)]) (t := 27) ?hr ?_; (case hd => rfl); (case hg => rfl); (case hr => first | (go_simp; done) | (go_simp; rfl)); intro gb160 hg w5 hbox hb; have n0_ := Aside0.mk (blk_below (hop BK159.out) hb); have n1_ := Aside0.mk (below_step (by repeat (first | (with_reducible first | exact HB.out | apply bA | apply bN | apply bD | refine bS ?_ GE159.out) | exact HB.out)) hb); have n2_ := Aside0.mk (hbox); have n3_ := Aside0.mk ((by rw [hg]; exact (below_size (by repeat (first | (with_reducible first | exact HB.out | apply bA | apply bN | apply bD | refine bS ?_ GE159.out) | exact HB.out))) : w.heap.size ≤ gb160)); have n4_ := n3_; have n5_ := Aside0.mk ((by rw [hg]; exact Nat.ne_of_lt (blk_lt (hop BK159.out)) : gb159 ≠ gb160)); have n6_ := Aside0.mk ((by rw [hg]; exact Nat.ne_of_gt (blk_lt (hop BK159.out)) : gb160 ≠ gb159)); clear BK159; clear HB; have BK159 := n0_; have HB := n1_; have BK160 := n2_; have GW160 := n3_; have GE160 := n4_; have NB159_160 := n5_; have NB160_159 := n6_; clear n0_ n1_ n2_ n3_ n4_ n5_ n6_; clear hb hbox hg) | ((with_reducible refine gate_dst (N := 5) rfl ?_); refine box_event ?hg (N := 5) ?hd (cs := #[.string (⟨#[]⟩ : ByteArray), .string (⟨#[]⟩ : ByteArray)]) (t := 27) ?hr ?_; (case hd => rfl); (case hg => rfl); (case hr => first | (go_simp; done) | (go_simp; rfl)); intro gb161 hg w6 hbox hb; have n0_ := Aside0.mk (blk_below (hop BK159.out) hb); have n1_ := Aside0.mk (blk_below (hop BK160.out) hb); have n2_ := Aside0.mk (below_step (by repeat (first | (with_reducible first | exact HB.out | apply bA | apply bN | apply bD | refine bS ?_ GE159.out | refine bS ?_ GE160.out) | exact HB.out)) hb); have n3_ := Aside0.mk (hbox); have n4_ := Aside0.mk ((by rw [hg]; exact (below_size (by repeat (first | (with_reducible first | exact HB.out | apply bA | apply bN | apply bD | refine bS ?_ GE159.out | refine bS ?_ GE160.out) | exact HB.out))) : w.heap.size ≤ gb161)); have n5_ := n4_; have n6_ := Aside0.mk ((by rw [hg]; exact Nat.ne_of_lt (blk_lt (hop BK159.out)) : gb159 ≠ gb161)); have n7_ := Aside0.mk ((by rw [hg]; exact Nat.ne_of_gt (blk_lt (hop BK159.out)) : gb161 ≠ gb159)); have n8_ := Aside0.mk ((by rw [hg]; exact Nat.ne_of_lt (blk_lt (hop BK160.out)) : gb160 ≠ gb161)); have n9_ := Aside0.mk ((by rw [hg]; exact Nat.ne_of_gt (blk_lt (hop BK160.out)) : gb161 ≠ gb160)); clear BK159; clear BK160; clear HB; have BK159 := n0_; have BK160 := n1_; have HB := n2_; have BK161 := n3_; have GW161 := n4_; have GE161 := n5_; have NB159_161 := n6_; have NB161_159 := n7_; have NB160_161 := n8_; have NB161_160 := n9_; clear n0_ n1_ n2_ n3_ n4_ n5_ n6_ n7_ n8_ n9_; clear hb hbox hg))
 (try simp only [Act.put, lT, lZ, lS])
 go_cut [16] (fun v16 wc => ∃ (kq : Nat) (x16_2 : Bool), v16 = .bool x16_2 ∧ Aside0 (impl_IntervalCut.j0 kq a1 x16_2 a0_0 a0_1 = some (r1, r2, r3, r4, r5)) ∧ Aside0 (kq ≤ k) ∧ Aside0 (wc.heap[gb159]? = some (.cells #[.string a0_0, .string a0_1] 27 (0, 0))) ∧ Aside0 (wc.heap[gb160]? = some (.cells #[.string (⟨#[]⟩ : ByteArray), .string (⟨#[]⟩ : ByteArray)] 27 (0, 0))) ∧ Aside0 (wc.heap[gb161]? = some (.cells #[.string (⟨#[]⟩ : ByteArray), .string (⟨#[]⟩ : ByteArray)] 27 (0, 0))) ∧ Aside0 (Below w.heap.size w wc))
 case first =>
  have H := HC3.out
  clear HC3
  replace H := Option.bind_eq_some_iff.mp H
  obtain ⟨t162, A70, H⟩ := H
  replace H : (if t162 = true then ((impl_KeyValid.f k a1).bind fun t163 => (impl_IntervalCut.j0 k a1 (!t163) a0_0 a0_1)) else (impl_IntervalCut.j0 k a1 true a0_0 a0_1)) = some (r1, r2, r3, r4, r5) := H
  have A7 := Aside0.mk A70
  clear A70
  by_cases c8 : t162 = true
  ·subst c8
   have H1 : ((impl_KeyValid.f k a1).bind fun t163 => (impl_IntervalCut.j0 k a1 (!t163) a0_0 a0_1)) = some (r1, r2, r3, r4, r5) := by rw [if_pos rfl] at H; exact H
   clear H
   have H := H1
   clear H1
   replace H := Option.bind_eq_some_iff.mp H
   obtain ⟨t163, A90, H⟩ := H
   replace H : (impl_IntervalCut.j0 k a1 (!t163) a0_0 a0_1) = some (r1, r2, r3, r4, r5) := H
   have A9 := Aside0.mk A90
   clear A90
   have H' := Aside0.mk H
   clear H
   have hnb10 := NB159_160.out
   have hnc10 := NB160_159.out
   have hnb11 := NB159_161.out
   have hnc11 := NB161_159.out
   have hcz12_0 : w6.cell? ⟨gb159, 0, none⟩ = some (.string a0_0) := (blk_cell BK159.out 0).trans rfl
   have hcz12_1 : w6.cell? ⟨gb159, 1, none⟩ = some (.string a0_1) := (blk_cell BK159.out 1).trans rfl
   have hfz12_0 := blk_frozen BK159.out 0
   have hfz12_1 := blk_frozen BK159.out 1
   go_wp2_with (first | ((with_reducible refine gate_callee (f := 35) rfl ?_); refine goesL_ (some 10) rfl rfl Try.func35 (by kernel_rfl) rfl #[.agg #[.string a0_0, .string a0_1]] rfl (by (try simp only [List.map_toArray, List.map_cons, List.map_nil]); first | done | rfl | (simp only [List.length_drop, List.length_take]; rfl)) ?_; (with_reducible refine (impl_IntervalValid.calls k a0_0 a0_1 true _ A7.out).mono ?_); rintro e w13 ⟨rfl, hb⟩; refine ⟨_, rfl, ?_⟩; have n0_ := Aside0.mk (blk_below (hop BK159.out) hb); have n1_ := Aside0.mk (blk_below (hop BK160.out) hb); have n2_ := Aside0.mk (blk_below (hop BK161.out) hb); have n3_ := Aside0.mk (below_step (by repeat (first | (with_reducible first | exact HB.out | apply bA | apply bN | apply bD | refine bS ?_ GE159.out | refine bS ?_ GE160.out | refine bS ?_ GE161.out) | exact HB.out)) hb); clear BK159; clear BK160; clear BK161; clear HB; have BK159 := n0_; have BK160 := n1_; have BK161 := n2_; have HB := n3_; clear n0_ n1_ n2_ n3_; (try clear hb); (try clear hb2); (try clear hk); (try clear hi)) | (go_at_call 22; (with_reducible refine (impl_KeyValid.calls k a1 t163 _ A9.out).mono ?_); rintro e w' ⟨rfl, ⟨nd, rfl⟩⟩))
   go_meet
   case rel => exact ⟨_, (!t163), (by first | rfl | (simp; done) | (simp [bne]; done) | (simp [*]; done)), H', ⟨by first | omega | exact Nat.le_refl _⟩, ⟨by exact hop BK159.out⟩, ⟨by exact hop BK160.out⟩, ⟨by exact hop BK161.out⟩, ⟨by repeat (first | (with_reducible first | exact HB.out | apply bA | apply bN | apply bD | refine bS ?_ GE159.out | refine bS ?_ GE160.out | refine bS ?_ GE161.out) | exact HB.out)⟩⟩
  ·replace c8 := Bool.eq_false_iff.mpr c8
   subst c8
   have H1 : (impl_IntervalCut.j0 k a1 true a0_0 a0_1) = some (r1, r2, r3, r4, r5) := by rw [if_neg (show ¬ (false = true) by decide)] at H; exact H
   clear H
   have H := H1
   clear H1
   have H' := Aside0.mk H
   clear H
   have hnb14 := NB159_160.out
   have hnc14 := NB160_159.out
   have hnb15 := NB159_161.out
   have hnc15 := NB161_159.out
   have hcz16_0 : w6.cell? ⟨gb159, 0, none⟩ = some (.string a0_0) := (blk_cell BK159.out 0).trans rfl
   have hcz16_1 : w6.cell? ⟨gb159, 1, none⟩ = some (.string a0_1) := (blk_cell BK159.out 1).trans rfl
   have hfz16_0 := blk_frozen BK159.out 0
   have hfz16_1 := blk_frozen BK159.out 1
   go_wp2_with (first | ((with_reducible refine gate_callee (f := 35) rfl ?_); refine goesL_ (some 10) rfl rfl Try.func35 (by kernel_rfl) rfl #[.agg #[.string a0_0, .string a0_1]] rfl (by (try simp only [List.map_toArray, List.map_cons, List.map_nil]); first | done | rfl | (simp only [List.length_drop, List.length_take]; rfl)) ?_; (with_reducible refine (impl_IntervalValid.calls k a0_0 a0_1 false _ A7.out).mono ?_); rintro e w17 ⟨rfl, hb⟩; refine ⟨_, rfl, ?_⟩; have n0_ := Aside0.mk (blk_below (hop BK159.out) hb); have n1_ := Aside0.mk (blk_below (hop BK160.out) hb); have n2_ := Aside0.mk (blk_below (hop BK161.out) hb); have n3_ := Aside0.mk (below_step (by repeat (first | (with_reducible first | exact HB.out | apply bA | apply bN | apply bD | refine bS ?_ GE159.out | refine bS ?_ GE160.out | refine bS ?_ GE161.out) | exact HB.out)) hb); clear BK159; clear BK160; clear BK161; clear HB; have BK159 := n0_; have BK160 := n1_; have BK161 := n2_; have HB := n3_; clear n0_ n1_ n2_ n3_; (try clear hb); (try clear hb2); (try clear hk); (try clear hi)))
   go_meet
   case rel => exact ⟨_, (true), (by first | rfl | (simp; done) | (simp [bne]; done) | (simp [*]; done)), H', ⟨by first | omega | exact Nat.le_refl _⟩, ⟨by exact hop BK159.out⟩, ⟨by exact hop BK160.out⟩, ⟨by exact hop BK161.out⟩, ⟨by repeat (first | (with_reducible first | exact HB.out | apply bA | apply bN | apply bD | refine bS ?_ GE159.out | refine bS ?_ GE160.out | refine bS ?_ GE161.out) | exact HB.out)⟩⟩
 case rest =>
  clear HC3
  try clear c1
  try clear p2
  try clear c3
  try clear c5
  try clear c8
  try clear c10
  try clear c11
  try clear c14
  try clear c15
  try clear hcz12_0
  try clear hcz12_1
  try clear hcz16_0
  try clear hcz16_1
  try clear hfz12_0
  try clear hfz12_1
  try clear hfz16_0
  try clear hfz16_1
  obtain ⟨kq, x16_2, rfl, HA, HJ2, BK159, BK160, BK161, HB⟩ := hcut
  cases kq with
  | zero => exact absurd HA.out (by simp [impl_IntervalCut.j0])
  | succ kj2 =>
   have H := HA.out
   clear HA
   simp only [impl_IntervalCut.j0] at H
   by_cases c18 : x16_2 = true
   ·subst c18
    have H1 : (some ((⟨#[]⟩ : ByteArray), (⟨#[]⟩ : ByteArray), (⟨#[]⟩ : ByteArray), (⟨#[]⟩ : ByteArray), false)) = some (r1, r2, r3, r4, r5) := by rw [if_pos rfl] at H; exact H
    clear H
    have H := H1
    clear H1
    simp only [Option.some.injEq, Prod.mk.injEq] at H
    obtain ⟨rfl, rfl, rfl, rfl, rfl⟩ := H
    have hnb19 := NB160_159.out
    have hnc19 := NB159_160.out
    have hnb20 := NB160_161.out
    have hnc20 := NB161_160.out
    have hcz21_0 : wc.cell? ⟨gb160, 0, none⟩ = some (.string (⟨#[]⟩ : ByteArray)) := (blk_cell BK160.out 0).trans rfl
    have hcz21_1 : wc.cell? ⟨gb160, 1, none⟩ = some (.string (⟨#[]⟩ : ByteArray)) := (blk_cell BK160.out 1).trans rfl
    have hfz21_0 := blk_frozen BK160.out 0
    have hfz21_1 := blk_frozen BK160.out 1
    have hnb22 := NB161_159.out
    have hnc22 := NB159_161.out
    have hcz23_0 : wc.cell? ⟨gb161, 0, none⟩ = some (.string (⟨#[]⟩ : ByteArray)) := (blk_cell BK161.out 0).trans rfl
    have hcz23_1 : wc.cell? ⟨gb161, 1, none⟩ = some (.string (⟨#[]⟩ : ByteArray)) := (blk_cell BK161.out 1).trans rfl
    have hfz23_0 := blk_frozen BK161.out 0
    have hfz23_1 := blk_frozen BK161.out 1
    go_wp2
    refine bodyPost_ret (results_list (rs := [.cell 4 27, .cell 5 27, .tmp 6]) rfl (by simp) (.cell gb160 27 #[.string (⟨#[]⟩ : ByteArray), .string (⟨#[]⟩ : ByteArray)] (0, 0) _ rfl (by (with_reducible repeat (first | refine kN ?_ _ | refine kD ?_ | refine kA ?_ _)); refine blk_far ?_ NB160_161.out _; (with_reducible repeat (first | refine kN ?_ _ | refine kD ?_ | refine kA ?_ _)); refine blk_far ?_ NB160_161.out _; (with_reducible repeat (first | refine kN ?_ _ | refine kD ?_ | refine kA ?_ _)); refine blk_put (cs := #[.string (⟨#[]⟩ : ByteArray), .string (⟨#[]⟩ : ByteArray)]) ?_ 1 _ rfl; (with_reducible repeat (first | refine kN ?_ _ | refine kD ?_ | refine kA ?_ _)); refine blk_put (cs := #[.string (⟨#[]⟩ : ByteArray), .string (⟨#[]⟩ : ByteArray)]) ?_ 0 _ rfl; exact hop BK160.out) Try.underlying27 rfl (by kernel_rfl) (.cell gb161 27 #[.string (⟨#[]⟩ : ByteArray), .string (⟨#[]⟩ : ByteArray)] (0, 0) _ rfl (by (with_reducible repeat (first | refine kN ?_ _ | refine kD ?_ | refine kA ?_ _)); refine blk_put (cs := #[.string (⟨#[]⟩ : ByteArray), .string (⟨#[]⟩ : ByteArray)]) ?_ 1 _ rfl; (with_reducible repeat (first | refine kN ?_ _ | refine kD ?_ | refine kA ?_ _)); refine blk_put (cs := #[.string (⟨#[]⟩ : ByteArray), .string (⟨#[]⟩ : ByteArray)]) ?_ 0 _ rfl; (with_reducible repeat (first | refine kN ?_ _ | refine kD ?_ | refine kA ?_ _)); refine blk_far ?_ NB161_160.out _; (with_reducible repeat (first | refine kN ?_ _ | refine kD ?_ | refine kA ?_ _)); refine blk_far ?_ NB161_160.out _; exact hop BK161.out) Try.underlying27 rfl (by kernel_rfl) (.tmp .nil)))) rfl ?_
    exact ⟨by first | rfl | (simp only [u8_w_, w64_u8_] <;> rfl) | (simp [errW_none, errW_some] <;> rfl) | (simp [*, errW_none, errW_some] <;> rfl), by repeat (first | (with_reducible first | exact HB.out | apply bA | apply bN | apply bD | refine bS ?_ GE159.out | refine bS ?_ GE160.out | refine bS ?_ GE161.out) | exact HB.out)⟩
   ·replace c18 := Bool.eq_false_iff.mpr c18
    subst c18
    have H1 : ((impl_IntervalValid.f kj2 a0_0 a1).bind fun t166 => (if t166 = true then ((impl_IntervalValid.f kj2 a1 a0_1).bind fun t167 => (if t167 = true then (some (a0_0, a1, a1, a0_1, true)) else (some ((⟨#[]⟩ : ByteArray), (⟨#[]⟩ : ByteArray), (⟨#[]⟩ : ByteArray), (⟨#[]⟩ : ByteArray), false)))) else (some ((⟨#[]⟩ : ByteArray), (⟨#[]⟩ : ByteArray), (⟨#[]⟩ : ByteArray), (⟨#[]⟩ : ByteArray), false)))) = some (r1, r2, r3, r4, r5) := by rw [if_neg (show ¬ (false = true) by decide)] at H; exact H
    clear H
    have H := H1
    clear H1
    replace H := Option.bind_eq_some_iff.mp H
    obtain ⟨t166, A240, H⟩ := H
    replace H : (if t166 = true then ((impl_IntervalValid.f kj2 a1 a0_1).bind fun t167 => (if t167 = true then (some (a0_0, a1, a1, a0_1, true)) else (some ((⟨#[]⟩ : ByteArray), (⟨#[]⟩ : ByteArray), (⟨#[]⟩ : ByteArray), (⟨#[]⟩ : ByteArray), false)))) else (some ((⟨#[]⟩ : ByteArray), (⟨#[]⟩ : ByteArray), (⟨#[]⟩ : ByteArray), (⟨#[]⟩ : ByteArray), false))) = some (r1, r2, r3, r4, r5) := H
    have A24 := Aside0.mk A240
    clear A240
    by_cases c25 : t166 = true
    ·subst c25
     have H1 : ((impl_IntervalValid.f kj2 a1 a0_1).bind fun t167 => (if t167 = true then (some (a0_0, a1, a1, a0_1, true)) else (some ((⟨#[]⟩ : ByteArray), (⟨#[]⟩ : ByteArray), (⟨#[]⟩ : ByteArray), (⟨#[]⟩ : ByteArray), false)))) = some (r1, r2, r3, r4, r5) := by rw [if_pos rfl] at H; exact H
     clear H
     have H := H1
     clear H1
     replace H := Option.bind_eq_some_iff.mp H
     obtain ⟨t167, A260, H⟩ := H
     replace H : (if t167 = true then (some (a0_0, a1, a1, a0_1, true)) else (some ((⟨#[]⟩ : ByteArray), (⟨#[]⟩ : ByteArray), (⟨#[]⟩ : ByteArray), (⟨#[]⟩ : ByteArray), false))) = some (r1, r2, r3, r4, r5) := H
     have A26 := Aside0.mk A260
     clear A260
     by_cases c27 : t167 = true
     ·subst c27
      have H1 : (some (a0_0, a1, a1, a0_1, true)) = some (r1, r2, r3, r4, r5) := by rw [if_pos rfl] at H; exact H
      clear H
      have H := H1
      clear H1
      simp only [Option.some.injEq, Prod.mk.injEq] at H
      obtain ⟨rfl, rfl, rfl, rfl, rfl⟩ := H
      have hnb28 := NB159_160.out
      have hnc28 := NB160_159.out
      have hnb29 := NB159_161.out
      have hnc29 := NB161_159.out
      have hcz30_0 : wc.cell? ⟨gb159, 0, none⟩ = some (.string a0_0) := (blk_cell BK159.out 0).trans rfl
      have hcz30_1 : wc.cell? ⟨gb159, 1, none⟩ = some (.string a0_1) := (blk_cell BK159.out 1).trans rfl
      have hfz30_0 := blk_frozen BK159.out 0
      have hfz30_1 := blk_frozen BK159.out 1
      try go_wp2_with (first | ((with_reducible refine gate_dst (N := 7) rfl ?_); refine box_event ?hg (N := 7) ?hd (cs := #[.string (⟨#[]⟩ : ByteArray), .string (⟨#[]⟩ : ByteArray)]) (t := 27) ?hr ?_; (case hd => rfl); (case hg => rfl); (case hr => first | (go_simp; done) | (go_simp; rfl)); intro gb164 hg w31 hbox hb; have n0_ := Aside0.mk (blk_below (hop BK159.out) hb); have n1_ := Aside0.mk (blk_below (hop BK160.out) hb); have n2_ := Aside0.mk (blk_below (hop BK161.out) hb); have n3_ := Aside0.mk (below_step (by repeat (first | (with_reducible first | exact HB.out | apply bA | apply bN | apply bD | refine bS ?_ GE159.out | refine bS ?_ GE160.out | refine bS ?_ GE161.out) | exact HB.out)) hb); have n4_ := Aside0.mk (hbox); have n5_ := Aside0.mk ((by rw [hg]; exact (below_size (by repeat (first | (with_reducible first | exact HB.out | apply bA | apply bN | apply bD | refine bS ?_ GE159.out | refine bS ?_ GE160.out | refine bS ?_ GE161.out) | exact HB.out))) : w.heap.size ≤ gb164)); have n6_ := n5_; have n7_ := Aside0.mk ((by rw [hg]; exact Nat.ne_of_lt (blk_lt (hop BK159.out)) : gb159 ≠ gb164)); have n8_ := Aside0.mk ((by rw [hg]; exact Nat.ne_of_gt (blk_lt (hop BK159.out)) : gb164 ≠ gb159)); have n9_ := Aside0.mk ((by rw [hg]; exact Nat.ne_of_lt (blk_lt (hop BK160.out)) : gb160 ≠ gb164)); have n10_ := Aside0.mk ((by rw [hg]; exact Nat.ne_of_gt (blk_lt (hop BK160.out)) : gb164 ≠ gb160)); have n11_ := Aside0.mk ((by rw [hg]; exact Nat.ne_of_lt (blk_lt (hop BK161.out)) : gb161 ≠ gb164)); have n12_ := Aside0.mk ((by rw [hg]; exact Nat.ne_of_gt (blk_lt (hop BK161.out)) : gb164 ≠ gb161)); clear BK159; clear BK160; clear BK161; clear HB; have BK159 := n0_; have BK160 := n1_; have BK161 := n2_; have HB := n3_; have BK164 := n4_; have GW164 := n5_; have GE164 := n6_; have NB159_164 := n7_; have NB164_159 := n8_; have NB160_164 := n9_; have NB164_160 := n10_; have NB161_164 := n11_; have NB164_161 := n12_; clear n0_ n1_ n2_ n3_ n4_ n5_ n6_ n7_ n8_ n9_ n10_ n11_ n12_; clear hb hbox hg; have hnb32 := NB164_159.out; have hnc32 := NB159_164.out; have hnb33 := NB164_160.out; have hnc33 := NB160_164.out; have hnb34 := NB164_161.out; have hnc34 := NB161_164.out; have hcz35_0 : w31.cell? ⟨gb164, 0, none⟩ = some (.string (⟨#[]⟩ : ByteArray)) := (blk_cell BK164.out 0).trans rfl; have hcz35_1 : w31.cell? ⟨gb164, 1, none⟩ = some (.string (⟨#[]⟩ : ByteArray)) := (blk_cell BK164.out 1).trans rfl; have hfz35_0 := blk_frozen BK164.out 0; have hfz35_1 := blk_frozen BK164.out 1; have hcz36_0 : w31.cell? ⟨gb159, 0, none⟩ = some (.string a0_0) := (blk_cell BK159.out 0).trans rfl; have hcz36_1 : w31.cell? ⟨gb159, 1, none⟩ = some (.string a0_1) := (blk_cell BK159.out 1).trans rfl; have hfz36_0 := blk_frozen BK159.out 0; have hfz36_1 := blk_frozen BK159.out 1) | ((with_reducible refine gate_dst (N := 8) rfl ?_); refine box_event ?hg (N := 8) ?hd (cs := #[.string (⟨#[]⟩ : ByteArray), .string (⟨#[]⟩ : ByteArray)]) (t := 27) ?hr ?_; (case hd => rfl); (case hg => rfl); (case hr => first | (go_simp; done) | (go_simp; rfl)); intro gb165 hg w37 hbox hb; have n0_ := Aside0.mk (blk_below (g := gb159) (o := .cells #[.string a0_0, .string a0_1] 27 (0, 0)) (by (with_reducible repeat (first | refine kN ?_ _ | refine kD ?_ | refine kA ?_ _)); refine blk_far ?_ NB159_164.out _; (with_reducible repeat (first | refine kN ?_ _ | refine kD ?_ | refine kA ?_ _)); refine blk_far ?_ NB159_164.out _; exact hop BK159.out) hb); have n1_ := Aside0.mk (blk_below (g := gb160) (o := .cells #[.string (⟨#[]⟩ : ByteArray), .string (⟨#[]⟩ : ByteArray)] 27 (0, 0)) (by (with_reducible repeat (first | refine kN ?_ _ | refine kD ?_ | refine kA ?_ _)); refine blk_far ?_ NB160_164.out _; (with_reducible repeat (first | refine kN ?_ _ | refine kD ?_ | refine kA ?_ _)); refine blk_far ?_ NB160_164.out _; exact hop BK160.out) hb); have n2_ := Aside0.mk (blk_below (g := gb161) (o := .cells #[.string (⟨#[]⟩ : ByteArray), .string (⟨#[]⟩ : ByteArray)] 27 (0, 0)) (by (with_reducible repeat (first | refine kN ?_ _ | refine kD ?_ | refine kA ?_ _)); refine blk_far ?_ NB161_164.out _; (with_reducible repeat (first | refine kN ?_ _ | refine kD ?_ | refine kA ?_ _)); refine blk_far ?_ NB161_164.out _; exact hop BK161.out) hb); have n3_ := Aside0.mk (blk_below (g := gb164) (o := .cells #[.string a0_0, .string a1] 27 (0, 0)) (by (with_reducible repeat (first | refine kN ?_ _ | refine kD ?_ | refine kA ?_ _)); refine blk_put (cs := #[.string a0_0, .string (⟨#[]⟩ : ByteArray)]) ?_ 1 _ rfl; (with_reducible repeat (first | refine kN ?_ _ | refine kD ?_ | refine kA ?_ _)); refine blk_put (cs := #[.string (⟨#[]⟩ : ByteArray), .string (⟨#[]⟩ : ByteArray)]) ?_ 0 _ rfl; exact hop BK164.out) hb); have n4_ := Aside0.mk (below_step (by repeat (first | (with_reducible first | exact HB.out | apply bA | apply bN | apply bD | refine bS ?_ GE159.out | refine bS ?_ GE160.out | refine bS ?_ GE161.out | refine bS ?_ GE164.out) | exact HB.out)) hb); have n5_ := Aside0.mk (hbox); have n6_ := Aside0.mk ((by rw [hg]; exact (below_size (by repeat (first | (with_reducible first | exact HB.out | apply bA | apply bN | apply bD | refine bS ?_ GE159.out | refine bS ?_ GE160.out | refine bS ?_ GE161.out | refine bS ?_ GE164.out) | exact HB.out))) : w.heap.size ≤ gb165)); have n7_ := n6_; have n8_ := Aside0.mk ((by rw [hg]; exact Nat.ne_of_lt (blk_lt (g := gb159) (o := .cells #[.string a0_0, .string a0_1] 27 (0, 0)) (by (with_reducible repeat (first | refine kN ?_ _ | refine kD ?_ | refine kA ?_ _)); refine blk_far ?_ NB159_164.out _; (with_reducible repeat (first | refine kN ?_ _ | refine kD ?_ | refine kA ?_ _)); refine blk_far ?_ NB159_164.out _; exact hop BK159.out)) : gb159 ≠ gb165)); have n9_ := Aside0.mk ((by rw [hg]; exact Nat.ne_of_gt (blk_lt (g := gb159) (o := .cells #[.string a0_0, .string a0_1] 27 (0, 0)) (by (with_reducible repeat (first | refine kN ?_ _ | refine kD ?_ | refine kA ?_ _)); refine blk_far ?_ NB159_164.out _; (with_reducible repeat (first | refine kN ?_ _ | refine kD ?_ | refine kA ?_ _)); refine blk_far ?_ NB159_164.out _; exact hop BK159.out)) : gb165 ≠ gb159)); have n10_ := Aside0.mk ((by rw [hg]; exact Nat.ne_of_lt (blk_lt (g := gb160) (o := .cells #[.string (⟨#[]⟩ : ByteArray), .string (⟨#[]⟩ : ByteArray)] 27 (0, 0)) (by (with_reducible repeat (first | refine kN ?_ _ | refine kD ?_ | refine kA ?_ _)); refine blk_far ?_ NB160_164.out _; (with_reducible repeat (first | refine kN ?_ _ | refine kD ?_ | refine kA ?_ _)); refine blk_far ?_ NB160_164.out _; exact hop BK160.out)) : gb160 ≠ gb165)); have n11_ := Aside0.mk ((by rw [hg]; exact Nat.ne_of_gt (blk_lt (g := gb160) (o := .cells #[.string (⟨#[]⟩ : ByteArray), .string (⟨#[]⟩ : ByteArray)] 27 (0, 0)) (by (with_reducible repeat (first | refine kN ?_ _ | refine kD ?_ | refine kA ?_ _)); refine blk_far ?_ NB160_164.out _; (with_reducible repeat (first | refine kN ?_ _ | refine kD ?_ | refine kA ?_ _)); refine blk_far ?_ NB160_164.out _; exact hop BK160.out)) : gb165 ≠ gb160)); have n12_ := Aside0.mk ((by rw [hg]; exact Nat.ne_of_lt (blk_lt (g := gb161) (o := .cells #[.string (⟨#[]⟩ : ByteArray), .string (⟨#[]⟩ : ByteArray)] 27 (0, 0)) (by (with_reducible repeat (first | refine kN ?_ _ | refine kD ?_ | refine kA ?_ _)); refine blk_far ?_ NB161_164.out _; (with_reducible repeat (first | refine kN ?_ _ | refine kD ?_ | refine kA ?_ _)); refine blk_far ?_ NB161_164.out _; exact hop BK161.out)) : gb161 ≠ gb165)); have n13_ := Aside0.mk ((by rw [hg]; exact Nat.ne_of_gt (blk_lt (g := gb161) (o := .cells #[.string (⟨#[]⟩ : ByteArray), .string (⟨#[]⟩ : ByteArray)] 27 (0, 0)) (by (with_reducible repeat (first | refine kN ?_ _ | refine kD ?_ | refine kA ?_ _)); refine blk_far ?_ NB161_164.out _; (with_reducible repeat (first | refine kN ?_ _ | refine kD ?_ | refine kA ?_ _)); refine blk_far ?_ NB161_164.out _; exact hop BK161.out)) : gb165 ≠ gb161)); have n14_ := Aside0.mk ((by rw [hg]; exact Nat.ne_of_lt (blk_lt (g := gb164) (o := .cells #[.string a0_0, .string a1] 27 (0, 0)) (by (with_reducible repeat (first | refine kN ?_ _ | refine kD ?_ | refine kA ?_ _)); refine blk_put (cs := #[.string a0_0, .string (⟨#[]⟩ : ByteArray)]) ?_ 1 _ rfl; (with_reducible repeat (first | refine kN ?_ _ | refine kD ?_ | refine kA ?_ _)); refine blk_put (cs := #[.string (⟨#[]⟩ : ByteArray), .string (⟨#[]⟩ : ByteArray)]) ?_ 0 _ rfl; exact hop BK164.out)) : gb164 ≠ gb165)); have n15_ := Aside0.mk ((by rw [hg]; exact Nat.ne_of_gt (blk_lt (g := gb164) (o := .cells #[.string a0_0, .string a1] 27 (0, 0)) (by (with_reducible repeat (first | refine kN ?_ _ | refine kD ?_ | refine kA ?_ _)); refine blk_put (cs := #[.string a0_0, .string (⟨#[]⟩ : ByteArray)]) ?_ 1 _ rfl; (with_reducible repeat (first | refine kN ?_ _ | refine kD ?_ | refine kA ?_ _)); refine blk_put (cs := #[.string (⟨#[]⟩ : ByteArray), .string (⟨#[]⟩ : ByteArray)]) ?_ 0 _ rfl; exact hop BK164.out)) : gb165 ≠ gb164)); clear BK159; clear BK160; clear BK161; clear BK164; clear HB; have BK159 := n0_; have BK160 := n1_; have BK161 := n2_; have BK164 := n3_; have HB := n4_; have BK165 := n5_; have GW165 := n6_; have GE165 := n7_; have NB159_165 := n8_; have NB165_159 := n9_; have NB160_165 := n10_; have NB165_160 := n11_; have NB161_165 := n12_; have NB165_161 := n13_; have NB164_165 := n14_; have NB165_164 := n15_; clear n0_ n1_ n2_ n3_ n4_ n5_ n6_ n7_ n8_ n9_ n10_ n11_ n12_ n13_ n14_ n15_; clear hb hbox hg; have hnb38 := NB165_159.out; have hnc38 := NB159_165.out; have hnb39 := NB165_160.out; have hnc39 := NB160_165.out; have hnb40 := NB165_161.out; have hnc40 := NB161_165.out; have hnb41 := NB165_164.out; have hnc41 := NB164_165.out; have hcz42_0 : w37.cell? ⟨gb165, 0, none⟩ = some (.string (⟨#[]⟩ : ByteArray)) := (blk_cell BK165.out 0).trans rfl; have hcz42_1 : w37.cell? ⟨gb165, 1, none⟩ = some (.string (⟨#[]⟩ : ByteArray)) := (blk_cell BK165.out 1).trans rfl; have hfz42_0 := blk_frozen BK165.out 0; have hfz42_1 := blk_frozen BK165.out 1; have hcz43_0 : w37.cell? ⟨gb164, 0, none⟩ = some (.string a0_0) := (blk_cell BK164.out 0).trans rfl; have hcz43_1 : w37.cell? ⟨gb164, 1, none⟩ = some (.string a1) := (blk_cell BK164.out 1).trans rfl; have hfz43_0 := blk_frozen BK164.out 0; have hfz43_1 := blk_frozen BK164.out 1) | ((with_reducible refine gate_callee (f := 35) rfl ?_); refine goesL_ (some 28) rfl rfl Try.func35 (by kernel_rfl) rfl #[.agg #[.string a0_0, .string a1]] rfl (by (try simp only [List.map_toArray, List.map_cons, List.map_nil]); first | done | rfl | (simp only [List.length_drop, List.length_take]; rfl)) ?_; (with_reducible refine (impl_IntervalValid.calls kj2 a0_0 a1 true _ A24.out).mono ?_); rintro e w44 ⟨rfl, hb⟩; refine ⟨_, rfl, ?_⟩; have n0_ := Aside0.mk (blk_below (g := gb159) (o := .cells #[.string a0_0, .string a0_1] 27 (0, 0)) (by (with_reducible repeat (first | refine kN ?_ _ | refine kD ?_ | refine kA ?_ _)); refine blk_far ?_ NB159_165.out _; (with_reducible repeat (first | refine kN ?_ _ | refine kD ?_ | refine kA ?_ _)); refine blk_far ?_ NB159_165.out _; exact hop BK159.out) hb); have n1_ := Aside0.mk (blk_below (g := gb160) (o := .cells #[.string (⟨#[]⟩ : ByteArray), .string (⟨#[]⟩ : ByteArray)] 27 (0, 0)) (by (with_reducible repeat (first | refine kN ?_ _ | refine kD ?_ | refine kA ?_ _)); refine blk_far ?_ NB160_165.out _; (with_reducible repeat (first | refine kN ?_ _ | refine kD ?_ | refine kA ?_ _)); refine blk_far ?_ NB160_165.out _; exact hop BK160.out) hb); have n2_ := Aside0.mk (blk_below (g := gb161) (o := .cells #[.string (⟨#[]⟩ : ByteArray), .string (⟨#[]⟩ : ByteArray)] 27 (0, 0)) (by (with_reducible repeat (first | refine kN ?_ _ | refine kD ?_ | refine kA ?_ _)); refine blk_far ?_ NB161_165.out _; (with_reducible repeat (first | refine kN ?_ _ | refine kD ?_ | refine kA ?_ _)); refine blk_far ?_ NB161_165.out _; exact hop BK161.out) hb); have n3_ := Aside0.mk (blk_below (g := gb164) (o := .cells #[.string a0_0, .string a1] 27 (0, 0)) (by (with_reducible repeat (first | refine kN ?_ _ | refine kD ?_ | refine kA ?_ _)); refine blk_far ?_ NB164_165.out _; (with_reducible repeat (first | refine kN ?_ _ | refine kD ?_ | refine kA ?_ _)); refine blk_far ?_ NB164_165.out _; exact hop BK164.out) hb); have n4_ := Aside0.mk (blk_below (g := gb165) (o := .cells #[.string a1, .string a0_1] 27 (0, 0)) (by (with_reducible repeat (first | refine kN ?_ _ | refine kD ?_ | refine kA ?_ _)); refine blk_put (cs := #[.string a1, .string (⟨#[]⟩ : ByteArray)]) ?_ 1 _ rfl; (with_reducible repeat (first | refine kN ?_ _ | refine kD ?_ | refine kA ?_ _)); refine blk_put (cs := #[.string (⟨#[]⟩ : ByteArray), .string (⟨#[]⟩ : ByteArray)]) ?_ 0 _ rfl; exact hop BK165.out) hb); have n5_ := Aside0.mk (below_step (by repeat (first | (with_reducible first | exact HB.out | apply bA | apply bN | apply bD | refine bS ?_ GE159.out | refine bS ?_ GE160.out | refine bS ?_ GE161.out | refine bS ?_ GE164.out | refine bS ?_ GE165.out) | exact HB.out)) hb); clear BK159; clear BK160; clear BK161; clear BK164; clear BK165; clear HB; have BK159 := n0_; have BK160 := n1_; have BK161 := n2_; have BK164 := n3_; have BK165 := n4_; have HB := n5_; clear n0_ n1_ n2_ n3_ n4_ n5_; (try clear hb); (try clear hb2); (try clear hk); (try clear hi); have hcz45_0 : w44.cell? ⟨gb165, 0, none⟩ = some (.string a1) := (blk_cell BK165.out 0).trans rfl; have hcz45_1 : w44.cell? ⟨gb165, 1, none⟩ = some (.string a0_1) := (blk_cell BK165.out 1).trans rfl; have hfz45_0 := blk_frozen BK165.out 0; have hfz45_1 := blk_frozen BK165.out 1) | (go_at_call 35; (with_reducible refine (impl_IntervalValid.calls kj2 a1 a0_1 true _ A26.out).mono ?_); rintro e w46 ⟨rfl, hb⟩; have n0_ := Aside0.mk (blk_below (hop BK159.out) hb); have n1_ := Aside0.mk (blk_below (hop BK160.out) hb); have n2_ := Aside0.mk (blk_below (hop BK161.out) hb); have n3_ := Aside0.mk (blk_below (hop BK164.out) hb); have n4_ := Aside0.mk (blk_below (hop BK165.out) hb); have n5_ := Aside0.mk (below_step (by repeat (first | (with_reducible first | exact HB.out | apply bA | apply bN | apply bD | refine bS ?_ GE159.out | refine bS ?_ GE160.out | refine bS ?_ GE161.out | refine bS ?_ GE164.out | refine bS ?_ GE165.out) | exact HB.out)) hb); clear BK159; clear BK160; clear BK161; clear BK164; clear BK165; clear HB; have BK159 := n0_; have BK160 := n1_; have BK161 := n2_; have BK164 := n3_; have BK165 := n4_; have HB := n5_; clear n0_ n1_ n2_ n3_ n4_ n5_; (try clear hb); (try clear hb2); (try clear hk); (try clear hi)))
      have n0_ := Aside0.mk (blk_drew BK159.out)
      have n1_ := Aside0.mk (blk_drew BK160.out)
      have n2_ := Aside0.mk (blk_drew BK161.out)
      have n3_ := Aside0.mk (blk_drew BK164.out)
      have n4_ := Aside0.mk (blk_drew BK165.out)
      have n5_ := Aside0.mk (below_drew1 HB.out)
      clear BK159
      clear BK160
      clear BK161
      clear BK164
      clear BK165
      clear HB
      have BK159 := n0_
      have BK160 := n1_
      have BK161 := n2_
      have BK164 := n3_
      have BK165 := n4_
      have HB := n5_
      clear n0_ n1_ n2_ n3_ n4_ n5_
      refine start_ (n := 5) (S := fun w' => w'.cell? ⟨gb164, 0, none⟩ = some (.string a0_0) ∧ w'.cell? ⟨gb164, 1, none⟩ = some (.string a1) ∧ w'.cell? ⟨gb165, 0, none⟩ = some (.string a1) ∧ w'.cell? ⟨gb165, 1, none⟩ = some (.string a0_1)) (ds := []) #[false, false, false, false, false] (by kernel_rfl) rfl rfl ⟨(blk_cell BK164.out 0).trans rfl, (blk_cell BK164.out 1).trans rfl, (blk_cell BK165.out 0).trans rfl, (blk_cell BK165.out 1).trans rfl⟩ (fun hHeld => ?_)
      generalize w46.drew = w47 at BK159 BK160 BK161 BK164 BK165 HB hHeld ⊢
      refine take_ (i := 0) (N := some 37) (v := ?_) (a' := ?_) #[true, false, false, false, false] rfl rfl (by kernel_rfl) (fun _ _ _ h => h) (Or.inl ⟨by rfl, ?_⟩) hHeld ?_ ?_
      rotate_left
      ·rintro w' ⟨s0, s1, s2, s3⟩
       go_simp
       with_reducible rfl
      rotate_left
      ·simp only [Act.put, lT, lZ, lS, i64_w, i32_w]
       rfl
      refine take_ (i := 1) (N := some 38) (v := ?_) (a' := ?_) #[true, true, false, false, false] rfl rfl (by kernel_rfl) (fun _ _ _ h => h) (Or.inl ⟨by rfl, ?_⟩) hHeld ?_ ?_
      rotate_left
      ·rintro w' ⟨s0, s1, s2, s3⟩
       go_simp
       with_reducible rfl
      rotate_left
      ·simp only [Act.put, lT, lZ, lS, i64_w, i32_w]
       rfl
      refine one_ (i := 2) (N := none) #[true, true, true, false, false] rfl rfl (by kernel_rfl) (by decide) (fun K hK => ?_)
      have hs48 : w47.cell? ⟨gb160, 0, none⟩ = some (.string (⟨#[]⟩ : ByteArray)) := (blk_cell BK160.out 0).trans rfl
      have hfs48 := blk_frozen BK160.out 0
      have hns48_0 := NB159_160.out
      have hns48_2 := NB161_160.out
      have hns48_3 := NB164_160.out
      have hns48_4 := NB165_160.out
      have hms48_0 := NB160_159.out
      have hms48_2 := NB160_161.out
      have hms48_3 := NB160_164.out
      have hms48_4 := NB160_165.out
      have hs49 : w47.cell? ⟨gb160, 1, none⟩ = some (.string (⟨#[]⟩ : ByteArray)) := (blk_cell BK160.out 1).trans rfl
      have hfs49 := blk_frozen BK160.out 1
      have hns49_0 := NB159_160.out
      have hns49_2 := NB161_160.out
      have hns49_3 := NB164_160.out
      have hns49_4 := NB165_160.out
      have hms49_0 := NB160_159.out
      have hms49_2 := NB160_161.out
      have hms49_3 := NB160_164.out
      have hms49_4 := NB160_165.out
      refine skip_ (w1 := ?_) (by rfl) rfl ?_ ?_
      rotate_left
      ·go_simp
       rfl
      refine hK.out _ _ ⟨((cell_far (p := ⟨gb160, _, none⟩) NB164_160.out _).trans (((cell_far (p := ⟨gb160, _, none⟩) NB164_160.out _).trans (hHeld.1)))), ((cell_far (p := ⟨gb160, _, none⟩) NB164_160.out _).trans (((cell_far (p := ⟨gb160, _, none⟩) NB164_160.out _).trans (hHeld.2.1)))), ((cell_far (p := ⟨gb160, _, none⟩) NB165_160.out _).trans (((cell_far (p := ⟨gb160, _, none⟩) NB165_160.out _).trans (hHeld.2.2.1)))), ((cell_far (p := ⟨gb160, _, none⟩) NB165_160.out _).trans (((cell_far (p := ⟨gb160, _, none⟩) NB165_160.out _).trans (hHeld.2.2.2))))⟩ (fun hHeld => ?_)
      clear hK K
      refine one_ (i := 3) (N := none) #[true, true, true, true, false] rfl rfl (by kernel_rfl) (by decide) (fun K hK => ?_)
      have hs50 : w47.cell? ⟨gb161, 0, none⟩ = some (.string (⟨#[]⟩ : ByteArray)) := (blk_cell BK161.out 0).trans rfl
      have hfs50 := blk_frozen BK161.out 0
      have hns50_0 := NB159_161.out
      have hns50_1 := NB160_161.out
      have hns50_3 := NB164_161.out
      have hns50_4 := NB165_161.out
      have hms50_0 := NB161_159.out
      have hms50_1 := NB161_160.out
      have hms50_3 := NB161_164.out
      have hms50_4 := NB161_165.out
      have hs51 : w47.cell? ⟨gb161, 1, none⟩ = some (.string (⟨#[]⟩ : ByteArray)) := (blk_cell BK161.out 1).trans rfl
      have hfs51 := blk_frozen BK161.out 1
      have hns51_0 := NB159_161.out
      have hns51_1 := NB160_161.out
      have hns51_3 := NB164_161.out
      have hns51_4 := NB165_161.out
      have hms51_0 := NB161_159.out
      have hms51_1 := NB161_160.out
      have hms51_3 := NB161_164.out
      have hms51_4 := NB161_165.out
      refine skip_ (w1 := ?_) (by rfl) rfl ?_ ?_
      rotate_left
      ·go_simp
       rfl
      refine hK.out _ _ ⟨((cell_far (p := ⟨gb161, _, none⟩) NB164_161.out _).trans (((cell_far (p := ⟨gb161, _, none⟩) NB164_161.out _).trans (hHeld.1)))), ((cell_far (p := ⟨gb161, _, none⟩) NB164_161.out _).trans (((cell_far (p := ⟨gb161, _, none⟩) NB164_161.out _).trans (hHeld.2.1)))), ((cell_far (p := ⟨gb161, _, none⟩) NB165_161.out _).trans (((cell_far (p := ⟨gb161, _, none⟩) NB165_161.out _).trans (hHeld.2.2.1)))), ((cell_far (p := ⟨gb161, _, none⟩) NB165_161.out _).trans (((cell_far (p := ⟨gb161, _, none⟩) NB165_161.out _).trans (hHeld.2.2.2))))⟩ (fun hHeld => ?_)
      clear hK K
      refine pure_ (i := 4) (N := some 6) (v := ?_) (a' := ?_) #[true, true, true, true, true] rfl rfl (by kernel_rfl) (fun _ _ _ h => h) (Or.inl ⟨by rfl, ?_⟩) ?_ ?_
      rotate_left
      ·intro w'
       go_simp
       with_reducible rfl
      rotate_left
      ·simp only [Act.put, lT, lZ, lS, i64_w, i32_w]
       rfl
      refine done_ (by kernel_rfl) ?_
      try go_wp2
      refine bodyPost_ret (results_list (rs := [.cell 4 27, .cell 5 27, .tmp 6]) rfl (by simp) (.cell gb160 27 #[.string a0_0, .string a1] (0, 0) _ rfl (by (with_reducible repeat (first | refine kN ?_ _ | refine kD ?_ | refine kA ?_ _)); refine blk_far ?_ NB160_161.out _; (with_reducible repeat (first | refine kN ?_ _ | refine kD ?_ | refine kA ?_ _)); refine blk_far ?_ NB160_161.out _; (with_reducible repeat (first | refine kN ?_ _ | refine kD ?_ | refine kA ?_ _)); refine blk_put (cs := #[.string a0_0, .string (⟨#[]⟩ : ByteArray)]) ?_ 1 _ rfl; (with_reducible repeat (first | refine kN ?_ _ | refine kD ?_ | refine kA ?_ _)); refine blk_put (cs := #[.string (⟨#[]⟩ : ByteArray), .string (⟨#[]⟩ : ByteArray)]) ?_ 0 _ rfl; exact hop BK160.out) Try.underlying27 rfl (by kernel_rfl) (.cell gb161 27 #[.string a1, .string a0_1] (0, 0) _ rfl (by (with_reducible repeat (first | refine kN ?_ _ | refine kD ?_ | refine kA ?_ _)); refine blk_put (cs := #[.string a1, .string (⟨#[]⟩ : ByteArray)]) ?_ 1 _ rfl; (with_reducible repeat (first | refine kN ?_ _ | refine kD ?_ | refine kA ?_ _)); refine blk_put (cs := #[.string (⟨#[]⟩ : ByteArray), .string (⟨#[]⟩ : ByteArray)]) ?_ 0 _ rfl; (with_reducible repeat (first | refine kN ?_ _ | refine kD ?_ | refine kA ?_ _)); refine blk_far ?_ NB161_160.out _; (with_reducible repeat (first | refine kN ?_ _ | refine kD ?_ | refine kA ?_ _)); refine blk_far ?_ NB161_160.out _; exact hop BK161.out) Try.underlying27 rfl (by kernel_rfl) (.tmp .nil)))) rfl ?_
      exact ⟨by first | rfl | (simp only [u8_w_, w64_u8_] <;> rfl) | (simp [errW_none, errW_some] <;> rfl) | (simp [*, errW_none, errW_some] <;> rfl), by repeat (first | (with_reducible first | exact HB.out | apply bA | apply bN | apply bD | refine bS ?_ GE159.out | refine bS ?_ GE160.out | refine bS ?_ GE161.out | refine bS ?_ GE164.out | refine bS ?_ GE165.out) | exact HB.out)⟩
     ·replace c27 := Bool.eq_false_iff.mpr c27
      subst c27
      have H1 : (some ((⟨#[]⟩ : ByteArray), (⟨#[]⟩ : ByteArray), (⟨#[]⟩ : ByteArray), (⟨#[]⟩ : ByteArray), false)) = some (r1, r2, r3, r4, r5) := by rw [if_neg (show ¬ (false = true) by decide)] at H; exact H
      clear H
      have H := H1
      clear H1
      simp only [Option.some.injEq, Prod.mk.injEq] at H
      obtain ⟨rfl, rfl, rfl, rfl, rfl⟩ := H
      have hnb52 := NB159_160.out
      have hnc52 := NB160_159.out
      have hnb53 := NB159_161.out
      have hnc53 := NB161_159.out
      have hcz54_0 : wc.cell? ⟨gb159, 0, none⟩ = some (.string a0_0) := (blk_cell BK159.out 0).trans rfl
      have hcz54_1 : wc.cell? ⟨gb159, 1, none⟩ = some (.string a0_1) := (blk_cell BK159.out 1).trans rfl
      have hfz54_0 := blk_frozen BK159.out 0
      have hfz54_1 := blk_frozen BK159.out 1
      go_wp2_with (first | ((with_reducible refine gate_dst (N := 7) rfl ?_); refine box_event ?hg (N := 7) ?hd (cs := #[.string (⟨#[]⟩ : ByteArray), .string (⟨#[]⟩ : ByteArray)]) (t := 27) ?hr ?_; (case hd => rfl); (case hg => rfl); (case hr => first | (go_simp; done) | (go_simp; rfl)); intro gb164 hg w55 hbox hb; have n0_ := Aside0.mk (blk_below (hop BK159.out) hb); have n1_ := Aside0.mk (blk_below (hop BK160.out) hb); have n2_ := Aside0.mk (blk_below (hop BK161.out) hb); have n3_ := Aside0.mk (below_step (by repeat (first | (with_reducible first | exact HB.out | apply bA | apply bN | apply bD | refine bS ?_ GE159.out | refine bS ?_ GE160.out | refine bS ?_ GE161.out) | exact HB.out)) hb); have n4_ := Aside0.mk (hbox); have n5_ := Aside0.mk ((by rw [hg]; exact (below_size (by repeat (first | (with_reducible first | exact HB.out | apply bA | apply bN | apply bD | refine bS ?_ GE159.out | refine bS ?_ GE160.out | refine bS ?_ GE161.out) | exact HB.out))) : w.heap.size ≤ gb164)); have n6_ := n5_; have n7_ := Aside0.mk ((by rw [hg]; exact Nat.ne_of_lt (blk_lt (hop BK159.out)) : gb159 ≠ gb164)); have n8_ := Aside0.mk ((by rw [hg]; exact Nat.ne_of_gt (blk_lt (hop BK159.out)) : gb164 ≠ gb159)); have n9_ := Aside0.mk ((by rw [hg]; exact Nat.ne_of_lt (blk_lt (hop BK160.out)) : gb160 ≠ gb164)); have n10_ := Aside0.mk ((by rw [hg]; exact Nat.ne_of_gt (blk_lt (hop BK160.out)) : gb164 ≠ gb160)); have n11_ := Aside0.mk ((by rw [hg]; exact Nat.ne_of_lt (blk_lt (hop BK161.out)) : gb161 ≠ gb164)); have n12_ := Aside0.mk ((by rw [hg]; exact Nat.ne_of_gt (blk_lt (hop BK161.out)) : gb164 ≠ gb161)); clear BK159; clear BK160; clear BK161; clear HB; have BK159 := n0_; have BK160 := n1_; have BK161 := n2_; have HB := n3_; have BK164 := n4_; have GW164 := n5_; have GE164 := n6_; have NB159_164 := n7_; have NB164_159 := n8_; have NB160_164 := n9_; have NB164_160 := n10_; have NB161_164 := n11_; have NB164_161 := n12_; clear n0_ n1_ n2_ n3_ n4_ n5_ n6_ n7_ n8_ n9_ n10_ n11_ n12_; clear hb hbox hg; have hnb56 := NB164_159.out; have hnc56 := NB159_164.out; have hnb57 := NB164_160.out; have hnc57 := NB160_164.out; have hnb58 := NB164_161.out; have hnc58 := NB161_164.out; have hcz59_0 : w55.cell? ⟨gb164, 0, none⟩ = some (.string (⟨#[]⟩ : ByteArray)) := (blk_cell BK164.out 0).trans rfl; have hcz59_1 : w55.cell? ⟨gb164, 1, none⟩ = some (.string (⟨#[]⟩ : ByteArray)) := (blk_cell BK164.out 1).trans rfl; have hfz59_0 := blk_frozen BK164.out 0; have hfz59_1 := blk_frozen BK164.out 1; have hcz60_0 : w55.cell? ⟨gb159, 0, none⟩ = some (.string a0_0) := (blk_cell BK159.out 0).trans rfl; have hcz60_1 : w55.cell? ⟨gb159, 1, none⟩ = some (.string a0_1) := (blk_cell BK159.out 1).trans rfl; have hfz60_0 := blk_frozen BK159.out 0; have hfz60_1 := blk_frozen BK159.out 1) | ((with_reducible refine gate_dst (N := 8) rfl ?_); refine box_event ?hg (N := 8) ?hd (cs := #[.string (⟨#[]⟩ : ByteArray), .string (⟨#[]⟩ : ByteArray)]) (t := 27) ?hr ?_; (case hd => rfl); (case hg => rfl); (case hr => first | (go_simp; done) | (go_simp; rfl)); intro gb165 hg w61 hbox hb; have n0_ := Aside0.mk (blk_below (g := gb159) (o := .cells #[.string a0_0, .string a0_1] 27 (0, 0)) (by (with_reducible repeat (first | refine kN ?_ _ | refine kD ?_ | refine kA ?_ _)); refine blk_far ?_ NB159_164.out _; (with_reducible repeat (first | refine kN ?_ _ | refine kD ?_ | refine kA ?_ _)); refine blk_far ?_ NB159_164.out _; exact hop BK159.out) hb); have n1_ := Aside0.mk (blk_below (g := gb160) (o := .cells #[.string (⟨#[]⟩ : ByteArray), .string (⟨#[]⟩ : ByteArray)] 27 (0, 0)) (by (with_reducible repeat (first | refine kN ?_ _ | refine kD ?_ | refine kA ?_ _)); refine blk_far ?_ NB160_164.out _; (with_reducible repeat (first | refine kN ?_ _ | refine kD ?_ | refine kA ?_ _)); refine blk_far ?_ NB160_164.out _; exact hop BK160.out) hb); have n2_ := Aside0.mk (blk_below (g := gb161) (o := .cells #[.string (⟨#[]⟩ : ByteArray), .string (⟨#[]⟩ : ByteArray)] 27 (0, 0)) (by (with_reducible repeat (first | refine kN ?_ _ | refine kD ?_ | refine kA ?_ _)); refine blk_far ?_ NB161_164.out _; (with_reducible repeat (first | refine kN ?_ _ | refine kD ?_ | refine kA ?_ _)); refine blk_far ?_ NB161_164.out _; exact hop BK161.out) hb); have n3_ := Aside0.mk (blk_below (g := gb164) (o := .cells #[.string a0_0, .string a1] 27 (0, 0)) (by (with_reducible repeat (first | refine kN ?_ _ | refine kD ?_ | refine kA ?_ _)); refine blk_put (cs := #[.string a0_0, .string (⟨#[]⟩ : ByteArray)]) ?_ 1 _ rfl; (with_reducible repeat (first | refine kN ?_ _ | refine kD ?_ | refine kA ?_ _)); refine blk_put (cs := #[.string (⟨#[]⟩ : ByteArray), .string (⟨#[]⟩ : ByteArray)]) ?_ 0 _ rfl; exact hop BK164.out) hb); have n4_ := Aside0.mk (below_step (by repeat (first | (with_reducible first | exact HB.out | apply bA | apply bN | apply bD | refine bS ?_ GE159.out | refine bS ?_ GE160.out | refine bS ?_ GE161.out | refine bS ?_ GE164.out) | exact HB.out)) hb); have n5_ := Aside0.mk (hbox); have n6_ := Aside0.mk ((by rw [hg]; exact (below_size (by repeat (first | (with_reducible first | exact HB.out | apply bA | apply bN | apply bD | refine bS ?_ GE159.out | refine bS ?_ GE160.out | refine bS ?_ GE161.out | refine bS ?_ GE164.out) | exact HB.out))) : w.heap.size ≤ gb165)); have n7_ := n6_; have n8_ := Aside0.mk ((by rw [hg]; exact Nat.ne_of_lt (blk_lt (g := gb159) (o := .cells #[.string a0_0, .string a0_1] 27 (0, 0)) (by (with_reducible repeat (first | refine kN ?_ _ | refine kD ?_ | refine kA ?_ _)); refine blk_far ?_ NB159_164.out _; (with_reducible repeat (first | refine kN ?_ _ | refine kD ?_ | refine kA ?_ _)); refine blk_far ?_ NB159_164.out _; exact hop BK159.out)) : gb159 ≠ gb165)); have n9_ := Aside0.mk ((by rw [hg]; exact Nat.ne_of_gt (blk_lt (g := gb159) (o := .cells #[.string a0_0, .string a0_1] 27 (0, 0)) (by (with_reducible repeat (first | refine kN ?_ _ | refine kD ?_ | refine kA ?_ _)); refine blk_far ?_ NB159_164.out _; (with_reducible repeat (first | refine kN ?_ _ | refine kD ?_ | refine kA ?_ _)); refine blk_far ?_ NB159_164.out _; exact hop BK159.out)) : gb165 ≠ gb159)); have n10_ := Aside0.mk ((by rw [hg]; exact Nat.ne_of_lt (blk_lt (g := gb160) (o := .cells #[.string (⟨#[]⟩ : ByteArray), .string (⟨#[]⟩ : ByteArray)] 27 (0, 0)) (by (with_reducible repeat (first | refine kN ?_ _ | refine kD ?_ | refine kA ?_ _)); refine blk_far ?_ NB160_164.out _; (with_reducible repeat (first | refine kN ?_ _ | refine kD ?_ | refine kA ?_ _)); refine blk_far ?_ NB160_164.out _; exact hop BK160.out)) : gb160 ≠ gb165)); have n11_ := Aside0.mk ((by rw [hg]; exact Nat.ne_of_gt (blk_lt (g := gb160) (o := .cells #[.string (⟨#[]⟩ : ByteArray), .string (⟨#[]⟩ : ByteArray)] 27 (0, 0)) (by (with_reducible repeat (first | refine kN ?_ _ | refine kD ?_ | refine kA ?_ _)); refine blk_far ?_ NB160_164.out _; (with_reducible repeat (first | refine kN ?_ _ | refine kD ?_ | refine kA ?_ _)); refine blk_far ?_ NB160_164.out _; exact hop BK160.out)) : gb165 ≠ gb160)); have n12_ := Aside0.mk ((by rw [hg]; exact Nat.ne_of_lt (blk_lt (g := gb161) (o := .cells #[.string (⟨#[]⟩ : ByteArray), .string (⟨#[]⟩ : ByteArray)] 27 (0, 0)) (by (with_reducible repeat (first | refine kN ?_ _ | refine kD ?_ | refine kA ?_ _)); refine blk_far ?_ NB161_164.out _; (with_reducible repeat (first | refine kN ?_ _ | refine kD ?_ | refine kA ?_ _)); refine blk_far ?_ NB161_164.out _; exact hop BK161.out)) : gb161 ≠ gb165)); have n13_ := Aside0.mk ((by rw [hg]; exact Nat.ne_of_gt (blk_lt (g := gb161) (o := .cells #[.string (⟨#[]⟩ : ByteArray), .string (⟨#[]⟩ : ByteArray)] 27 (0, 0)) (by (with_reducible repeat (first | refine kN ?_ _ | refine kD ?_ | refine kA ?_ _)); refine blk_far ?_ NB161_164.out _; (with_reducible repeat (first | refine kN ?_ _ | refine kD ?_ | refine kA ?_ _)); refine blk_far ?_ NB161_164.out _; exact hop BK161.out)) : gb165 ≠ gb161)); have n14_ := Aside0.mk ((by rw [hg]; exact Nat.ne_of_lt (blk_lt (g := gb164) (o := .cells #[.string a0_0, .string a1] 27 (0, 0)) (by (with_reducible repeat (first | refine kN ?_ _ | refine kD ?_ | refine kA ?_ _)); refine blk_put (cs := #[.string a0_0, .string (⟨#[]⟩ : ByteArray)]) ?_ 1 _ rfl; (with_reducible repeat (first | refine kN ?_ _ | refine kD ?_ | refine kA ?_ _)); refine blk_put (cs := #[.string (⟨#[]⟩ : ByteArray), .string (⟨#[]⟩ : ByteArray)]) ?_ 0 _ rfl; exact hop BK164.out)) : gb164 ≠ gb165)); have n15_ := Aside0.mk ((by rw [hg]; exact Nat.ne_of_gt (blk_lt (g := gb164) (o := .cells #[.string a0_0, .string a1] 27 (0, 0)) (by (with_reducible repeat (first | refine kN ?_ _ | refine kD ?_ | refine kA ?_ _)); refine blk_put (cs := #[.string a0_0, .string (⟨#[]⟩ : ByteArray)]) ?_ 1 _ rfl; (with_reducible repeat (first | refine kN ?_ _ | refine kD ?_ | refine kA ?_ _)); refine blk_put (cs := #[.string (⟨#[]⟩ : ByteArray), .string (⟨#[]⟩ : ByteArray)]) ?_ 0 _ rfl; exact hop BK164.out)) : gb165 ≠ gb164)); clear BK159; clear BK160; clear BK161; clear BK164; clear HB; have BK159 := n0_; have BK160 := n1_; have BK161 := n2_; have BK164 := n3_; have HB := n4_; have BK165 := n5_; have GW165 := n6_; have GE165 := n7_; have NB159_165 := n8_; have NB165_159 := n9_; have NB160_165 := n10_; have NB165_160 := n11_; have NB161_165 := n12_; have NB165_161 := n13_; have NB164_165 := n14_; have NB165_164 := n15_; clear n0_ n1_ n2_ n3_ n4_ n5_ n6_ n7_ n8_ n9_ n10_ n11_ n12_ n13_ n14_ n15_; clear hb hbox hg; have hnb62 := NB165_159.out; have hnc62 := NB159_165.out; have hnb63 := NB165_160.out; have hnc63 := NB160_165.out; have hnb64 := NB165_161.out; have hnc64 := NB161_165.out; have hnb65 := NB165_164.out; have hnc65 := NB164_165.out; have hcz66_0 : w61.cell? ⟨gb165, 0, none⟩ = some (.string (⟨#[]⟩ : ByteArray)) := (blk_cell BK165.out 0).trans rfl; have hcz66_1 : w61.cell? ⟨gb165, 1, none⟩ = some (.string (⟨#[]⟩ : ByteArray)) := (blk_cell BK165.out 1).trans rfl; have hfz66_0 := blk_frozen BK165.out 0; have hfz66_1 := blk_frozen BK165.out 1; have hcz67_0 : w61.cell? ⟨gb164, 0, none⟩ = some (.string a0_0) := (blk_cell BK164.out 0).trans rfl; have hcz67_1 : w61.cell? ⟨gb164, 1, none⟩ = some (.string a1) := (blk_cell BK164.out 1).trans rfl; have hfz67_0 := blk_frozen BK164.out 0; have hfz67_1 := blk_frozen BK164.out 1) | ((with_reducible refine gate_callee (f := 35) rfl ?_); refine goesL_ (some 28) rfl rfl Try.func35 (by kernel_rfl) rfl #[.agg #[.string a0_0, .string a1]] rfl (by (try simp only [List.map_toArray, List.map_cons, List.map_nil]); first | done | rfl | (simp only [List.length_drop, List.length_take]; rfl)) ?_; (with_reducible refine (impl_IntervalValid.calls kj2 a0_0 a1 true _ A24.out).mono ?_); rintro e w68 ⟨rfl, hb⟩; refine ⟨_, rfl, ?_⟩; have n0_ := Aside0.mk (blk_below (g := gb159) (o := .cells #[.string a0_0, .string a0_1] 27 (0, 0)) (by (with_reducible repeat (first | refine kN ?_ _ | refine kD ?_ | refine kA ?_ _)); refine blk_far ?_ NB159_165.out _; (with_reducible repeat (first | refine kN ?_ _ | refine kD ?_ | refine kA ?_ _)); refine blk_far ?_ NB159_165.out _; exact hop BK159.out) hb); have n1_ := Aside0.mk (blk_below (g := gb160) (o := .cells #[.string (⟨#[]⟩ : ByteArray), .string (⟨#[]⟩ : ByteArray)] 27 (0, 0)) (by (with_reducible repeat (first | refine kN ?_ _ | refine kD ?_ | refine kA ?_ _)); refine blk_far ?_ NB160_165.out _; (with_reducible repeat (first | refine kN ?_ _ | refine kD ?_ | refine kA ?_ _)); refine blk_far ?_ NB160_165.out _; exact hop BK160.out) hb); have n2_ := Aside0.mk (blk_below (g := gb161) (o := .cells #[.string (⟨#[]⟩ : ByteArray), .string (⟨#[]⟩ : ByteArray)] 27 (0, 0)) (by (with_reducible repeat (first | refine kN ?_ _ | refine kD ?_ | refine kA ?_ _)); refine blk_far ?_ NB161_165.out _; (with_reducible repeat (first | refine kN ?_ _ | refine kD ?_ | refine kA ?_ _)); refine blk_far ?_ NB161_165.out _; exact hop BK161.out) hb); have n3_ := Aside0.mk (blk_below (g := gb164) (o := .cells #[.string a0_0, .string a1] 27 (0, 0)) (by (with_reducible repeat (first | refine kN ?_ _ | refine kD ?_ | refine kA ?_ _)); refine blk_far ?_ NB164_165.out _; (with_reducible repeat (first | refine kN ?_ _ | refine kD ?_ | refine kA ?_ _)); refine blk_far ?_ NB164_165.out _; exact hop BK164.out) hb); have n4_ := Aside0.mk (blk_below (g := gb165) (o := .cells #[.string a1, .string a0_1] 27 (0, 0)) (by (with_reducible repeat (first | refine kN ?_ _ | refine kD ?_ | refine kA ?_ _)); refine blk_put (cs := #[.string a1, .string (⟨#[]⟩ : ByteArray)]) ?_ 1 _ rfl; (with_reducible repeat (first | refine kN ?_ _ | refine kD ?_ | refine kA ?_ _)); refine blk_put (cs := #[.string (⟨#[]⟩ : ByteArray), .string (⟨#[]⟩ : ByteArray)]) ?_ 0 _ rfl; exact hop BK165.out) hb); have n5_ := Aside0.mk (below_step (by repeat (first | (with_reducible first | exact HB.out | apply bA | apply bN | apply bD | refine bS ?_ GE159.out | refine bS ?_ GE160.out | refine bS ?_ GE161.out | refine bS ?_ GE164.out | refine bS ?_ GE165.out) | exact HB.out)) hb); clear BK159; clear BK160; clear BK161; clear BK164; clear BK165; clear HB; have BK159 := n0_; have BK160 := n1_; have BK161 := n2_; have BK164 := n3_; have BK165 := n4_; have HB := n5_; clear n0_ n1_ n2_ n3_ n4_ n5_; (try clear hb); (try clear hb2); (try clear hk); (try clear hi); have hcz69_0 : w68.cell? ⟨gb165, 0, none⟩ = some (.string a1) := (blk_cell BK165.out 0).trans rfl; have hcz69_1 : w68.cell? ⟨gb165, 1, none⟩ = some (.string a0_1) := (blk_cell BK165.out 1).trans rfl; have hfz69_0 := blk_frozen BK165.out 0; have hfz69_1 := blk_frozen BK165.out 1) | (go_at_call 35; (with_reducible refine (impl_IntervalValid.calls kj2 a1 a0_1 false _ A26.out).mono ?_); rintro e w70 ⟨rfl, hb⟩; have n0_ := Aside0.mk (blk_below (hop BK159.out) hb); have n1_ := Aside0.mk (blk_below (hop BK160.out) hb); have n2_ := Aside0.mk (blk_below (hop BK161.out) hb); have n3_ := Aside0.mk (blk_below (hop BK164.out) hb); have n4_ := Aside0.mk (blk_below (hop BK165.out) hb); have n5_ := Aside0.mk (below_step (by repeat (first | (with_reducible first | exact HB.out | apply bA | apply bN | apply bD | refine bS ?_ GE159.out | refine bS ?_ GE160.out | refine bS ?_ GE161.out | refine bS ?_ GE164.out | refine bS ?_ GE165.out) | exact HB.out)) hb); clear BK159; clear BK160; clear BK161; clear BK164; clear BK165; clear HB; have BK159 := n0_; have BK160 := n1_; have BK161 := n2_; have BK164 := n3_; have BK165 := n4_; have HB := n5_; clear n0_ n1_ n2_ n3_ n4_ n5_; (try clear hb); (try clear hb2); (try clear hk); (try clear hi); have hnb71 := NB160_161.out; have hnc71 := NB161_160.out; have hcz72_0 : w70.cell? ⟨gb160, 0, none⟩ = some (.string (⟨#[]⟩ : ByteArray)) := (blk_cell BK160.out 0).trans rfl; have hcz72_1 : w70.cell? ⟨gb160, 1, none⟩ = some (.string (⟨#[]⟩ : ByteArray)) := (blk_cell BK160.out 1).trans rfl; have hfz72_0 := blk_frozen BK160.out 0; have hfz72_1 := blk_frozen BK160.out 1; have hcz73_0 : w70.cell? ⟨gb161, 0, none⟩ = some (.string (⟨#[]⟩ : ByteArray)) := (blk_cell BK161.out 0).trans rfl; have hcz73_1 : w70.cell? ⟨gb161, 1, none⟩ = some (.string (⟨#[]⟩ : ByteArray)) := (blk_cell BK161.out 1).trans rfl; have hfz73_0 := blk_frozen BK161.out 0; have hfz73_1 := blk_frozen BK161.out 1))
      refine bodyPost_ret (results_list (rs := [.cell 4 27, .cell 5 27, .tmp 6]) rfl (by simp) (.cell gb160 27 #[.string (⟨#[]⟩ : ByteArray), .string (⟨#[]⟩ : ByteArray)] (0, 0) _ rfl (by (with_reducible repeat (first | refine kN ?_ _ | refine kD ?_ | refine kA ?_ _)); refine blk_far ?_ NB160_161.out _; (with_reducible repeat (first | refine kN ?_ _ | refine kD ?_ | refine kA ?_ _)); refine blk_far ?_ NB160_161.out _; (with_reducible repeat (first | refine kN ?_ _ | refine kD ?_ | refine kA ?_ _)); refine blk_put (cs := #[.string (⟨#[]⟩ : ByteArray), .string (⟨#[]⟩ : ByteArray)]) ?_ 1 _ rfl; (with_reducible repeat (first | refine kN ?_ _ | refine kD ?_ | refine kA ?_ _)); refine blk_put (cs := #[.string (⟨#[]⟩ : ByteArray), .string (⟨#[]⟩ : ByteArray)]) ?_ 0 _ rfl; exact hop BK160.out) Try.underlying27 rfl (by kernel_rfl) (.cell gb161 27 #[.string (⟨#[]⟩ : ByteArray), .string (⟨#[]⟩ : ByteArray)] (0, 0) _ rfl (by (with_reducible repeat (first | refine kN ?_ _ | refine kD ?_ | refine kA ?_ _)); refine blk_put (cs := #[.string (⟨#[]⟩ : ByteArray), .string (⟨#[]⟩ : ByteArray)]) ?_ 1 _ rfl; (with_reducible repeat (first | refine kN ?_ _ | refine kD ?_ | refine kA ?_ _)); refine blk_put (cs := #[.string (⟨#[]⟩ : ByteArray), .string (⟨#[]⟩ : ByteArray)]) ?_ 0 _ rfl; (with_reducible repeat (first | refine kN ?_ _ | refine kD ?_ | refine kA ?_ _)); refine blk_far ?_ NB161_160.out _; (with_reducible repeat (first | refine kN ?_ _ | refine kD ?_ | refine kA ?_ _)); refine blk_far ?_ NB161_160.out _; exact hop BK161.out) Try.underlying27 rfl (by kernel_rfl) (.tmp .nil)))) rfl ?_
      exact ⟨by first | rfl | (simp only [u8_w_, w64_u8_] <;> rfl) | (simp [errW_none, errW_some] <;> rfl) | (simp [*, errW_none, errW_some] <;> rfl), by repeat (first | (with_reducible first | exact HB.out | apply bA | apply bN | apply bD | refine bS ?_ GE159.out | refine bS ?_ GE160.out | refine bS ?_ GE161.out | refine bS ?_ GE164.out | refine bS ?_ GE165.out) | exact HB.out)⟩
    ·replace c25 := Bool.eq_false_iff.mpr c25
     subst c25
     have H1 : (some ((⟨#[]⟩ : ByteArray), (⟨#[]⟩ : ByteArray), (⟨#[]⟩ : ByteArray), (⟨#[]⟩ : ByteArray), false)) = some (r1, r2, r3, r4, r5) := by rw [if_neg (show ¬ (false = true) by decide)] at H; exact H
     clear H
     have H := H1
     clear H1
     simp only [Option.some.injEq, Prod.mk.injEq] at H
     obtain ⟨rfl, rfl, rfl, rfl, rfl⟩ := H
     have hnb74 := NB159_160.out
     have hnc74 := NB160_159.out
     have hnb75 := NB159_161.out
     have hnc75 := NB161_159.out
     have hcz76_0 : wc.cell? ⟨gb159, 0, none⟩ = some (.string a0_0) := (blk_cell BK159.out 0).trans rfl
     have hcz76_1 : wc.cell? ⟨gb159, 1, none⟩ = some (.string a0_1) := (blk_cell BK159.out 1).trans rfl
     have hfz76_0 := blk_frozen BK159.out 0
     have hfz76_1 := blk_frozen BK159.out 1
     go_wp2_with (first | ((with_reducible refine gate_dst (N := 7) rfl ?_); refine box_event ?hg (N := 7) ?hd (cs := #[.string (⟨#[]⟩ : ByteArray), .string (⟨#[]⟩ : ByteArray)]) (t := 27) ?hr ?_; (case hd => rfl); (case hg => rfl); (case hr => first | (go_simp; done) | (go_simp; rfl)); intro gb164 hg w77 hbox hb; have n0_ := Aside0.mk (blk_below (hop BK159.out) hb); have n1_ := Aside0.mk (blk_below (hop BK160.out) hb); have n2_ := Aside0.mk (blk_below (hop BK161.out) hb); have n3_ := Aside0.mk (below_step (by repeat (first | (with_reducible first | exact HB.out | apply bA | apply bN | apply bD | refine bS ?_ GE159.out | refine bS ?_ GE160.out | refine bS ?_ GE161.out) | exact HB.out)) hb); have n4_ := Aside0.mk (hbox); have n5_ := Aside0.mk ((by rw [hg]; exact (below_size (by repeat (first | (with_reducible first | exact HB.out | apply bA | apply bN | apply bD | refine bS ?_ GE159.out | refine bS ?_ GE160.out | refine bS ?_ GE161.out) | exact HB.out))) : w.heap.size ≤ gb164)); have n6_ := n5_; have n7_ := Aside0.mk ((by rw [hg]; exact Nat.ne_of_lt (blk_lt (hop BK159.out)) : gb159 ≠ gb164)); have n8_ := Aside0.mk ((by rw [hg]; exact Nat.ne_of_gt (blk_lt (hop BK159.out)) : gb164 ≠ gb159)); have n9_ := Aside0.mk ((by rw [hg]; exact Nat.ne_of_lt (blk_lt (hop BK160.out)) : gb160 ≠ gb164)); have n10_ := Aside0.mk ((by rw [hg]; exact Nat.ne_of_gt (blk_lt (hop BK160.out)) : gb164 ≠ gb160)); have n11_ := Aside0.mk ((by rw [hg]; exact Nat.ne_of_lt (blk_lt (hop BK161.out)) : gb161 ≠ gb164)); have n12_ := Aside0.mk ((by rw [hg]; exact Nat.ne_of_gt (blk_lt (hop BK161.out)) : gb164 ≠ gb161)); clear BK159; clear BK160; clear BK161; clear HB; have BK159 := n0_; have BK160 := n1_; have BK161 := n2_; have HB := n3_; have BK164 := n4_; have GW164 := n5_; have GE164 := n6_; have NB159_164 := n7_; have NB164_159 := n8_; have NB160_164 := n9_; have NB164_160 := n10_; have NB161_164 := n11_; have NB164_161 := n12_; clear n0_ n1_ n2_ n3_ n4_ n5_ n6_ n7_ n8_ n9_ n10_ n11_ n12_; clear hb hbox hg; have hnb78 := NB164_159.out; have hnc78 := NB159_164.out; have hnb79 := NB164_160.out; have hnc79 := NB160_164.out; have hnb80 := NB164_161.out; have hnc80 := NB161_164.out; have hcz81_0 : w77.cell? ⟨gb164, 0, none⟩ = some (.string (⟨#[]⟩ : ByteArray)) := (blk_cell BK164.out 0).trans rfl; have hcz81_1 : w77.cell? ⟨gb164, 1, none⟩ = some (.string (⟨#[]⟩ : ByteArray)) := (blk_cell BK164.out 1).trans rfl; have hfz81_0 := blk_frozen BK164.out 0; have hfz81_1 := blk_frozen BK164.out 1; have hcz82_0 : w77.cell? ⟨gb159, 0, none⟩ = some (.string a0_0) := (blk_cell BK159.out 0).trans rfl; have hcz82_1 : w77.cell? ⟨gb159, 1, none⟩ = some (.string a0_1) := (blk_cell BK159.out 1).trans rfl; have hfz82_0 := blk_frozen BK159.out 0; have hfz82_1 := blk_frozen BK159.out 1) | ((with_reducible refine gate_dst (N := 8) rfl ?_); refine box_event ?hg (N := 8) ?hd (cs := #[.string (⟨#[]⟩ : ByteArray), .string (⟨#[]⟩ : ByteArray)]) (t := 27) ?hr ?_; (case hd => rfl); (case hg => rfl); (case hr => first | (go_simp; done) | (go_simp; rfl)); intro gb165 hg w83 hbox hb; have n0_ := Aside0.mk (blk_below (g := gb159) (o := .cells #[.string a0_0, .string a0_1] 27 (0, 0)) (by (with_reducible repeat (first | refine kN ?_ _ | refine kD ?_ | refine kA ?_ _)); refine blk_far ?_ NB159_164.out _; (with_reducible repeat (first | refine kN ?_ _ | refine kD ?_ | refine kA ?_ _)); refine blk_far ?_ NB159_164.out _; exact hop BK159.out) hb); have n1_ := Aside0.mk (blk_below (g := gb160) (o := .cells #[.string (⟨#[]⟩ : ByteArray), .string (⟨#[]⟩ : ByteArray)] 27 (0, 0)) (by (with_reducible repeat (first | refine kN ?_ _ | refine kD ?_ | refine kA ?_ _)); refine blk_far ?_ NB160_164.out _; (with_reducible repeat (first | refine kN ?_ _ | refine kD ?_ | refine kA ?_ _)); refine blk_far ?_ NB160_164.out _; exact hop BK160.out) hb); have n2_ := Aside0.mk (blk_below (g := gb161) (o := .cells #[.string (⟨#[]⟩ : ByteArray), .string (⟨#[]⟩ : ByteArray)] 27 (0, 0)) (by (with_reducible repeat (first | refine kN ?_ _ | refine kD ?_ | refine kA ?_ _)); refine blk_far ?_ NB161_164.out _; (with_reducible repeat (first | refine kN ?_ _ | refine kD ?_ | refine kA ?_ _)); refine blk_far ?_ NB161_164.out _; exact hop BK161.out) hb); have n3_ := Aside0.mk (blk_below (g := gb164) (o := .cells #[.string a0_0, .string a1] 27 (0, 0)) (by (with_reducible repeat (first | refine kN ?_ _ | refine kD ?_ | refine kA ?_ _)); refine blk_put (cs := #[.string a0_0, .string (⟨#[]⟩ : ByteArray)]) ?_ 1 _ rfl; (with_reducible repeat (first | refine kN ?_ _ | refine kD ?_ | refine kA ?_ _)); refine blk_put (cs := #[.string (⟨#[]⟩ : ByteArray), .string (⟨#[]⟩ : ByteArray)]) ?_ 0 _ rfl; exact hop BK164.out) hb); have n4_ := Aside0.mk (below_step (by repeat (first | (with_reducible first | exact HB.out | apply bA | apply bN | apply bD | refine bS ?_ GE159.out | refine bS ?_ GE160.out | refine bS ?_ GE161.out | refine bS ?_ GE164.out) | exact HB.out)) hb); have n5_ := Aside0.mk (hbox); have n6_ := Aside0.mk ((by rw [hg]; exact (below_size (by repeat (first | (with_reducible first | exact HB.out | apply bA | apply bN | apply bD | refine bS ?_ GE159.out | refine bS ?_ GE160.out | refine bS ?_ GE161.out | refine bS ?_ GE164.out) | exact HB.out))) : w.heap.size ≤ gb165)); have n7_ := n6_; have n8_ := Aside0.mk ((by rw [hg]; exact Nat.ne_of_lt (blk_lt (g := gb159) (o := .cells #[.string a0_0, .string a0_1] 27 (0, 0)) (by (with_reducible repeat (first | refine kN ?_ _ | refine kD ?_ | refine kA ?_ _)); refine blk_far ?_ NB159_164.out _; (with_reducible repeat (first | refine kN ?_ _ | refine kD ?_ | refine kA ?_ _)); refine blk_far ?_ NB159_164.out _; exact hop BK159.out)) : gb159 ≠ gb165)); have n9_ := Aside0.mk ((by rw [hg]; exact Nat.ne_of_gt (blk_lt (g := gb159) (o := .cells #[.string a0_0, .string a0_1] 27 (0, 0)) (by (with_reducible repeat (first | refine kN ?_ _ | refine kD ?_ | refine kA ?_ _)); refine blk_far ?_ NB159_164.out _; (with_reducible repeat (first | refine kN ?_ _ | refine kD ?_ | refine kA ?_ _)); refine blk_far ?_ NB159_164.out _; exact hop BK159.out)) : gb165 ≠ gb159)); have n10_ := Aside0.mk ((by rw [hg]; exact Nat.ne_of_lt (blk_lt (g := gb160) (o := .cells #[.string (⟨#[]⟩ : ByteArray), .string (⟨#[]⟩ : ByteArray)] 27 (0, 0)) (by (with_reducible repeat (first | refine kN ?_ _ | refine kD ?_ | refine kA ?_ _)); refine blk_far ?_ NB160_164.out _; (with_reducible repeat (first | refine kN ?_ _ | refine kD ?_ | refine kA ?_ _)); refine blk_far ?_ NB160_164.out _; exact hop BK160.out)) : gb160 ≠ gb165)); have n11_ := Aside0.mk ((by rw [hg]; exact Nat.ne_of_gt (blk_lt (g := gb160) (o := .cells #[.string (⟨#[]⟩ : ByteArray), .string (⟨#[]⟩ : ByteArray)] 27 (0, 0)) (by (with_reducible repeat (first | refine kN ?_ _ | refine kD ?_ | refine kA ?_ _)); refine blk_far ?_ NB160_164.out _; (with_reducible repeat (first | refine kN ?_ _ | refine kD ?_ | refine kA ?_ _)); refine blk_far ?_ NB160_164.out _; exact hop BK160.out)) : gb165 ≠ gb160)); have n12_ := Aside0.mk ((by rw [hg]; exact Nat.ne_of_lt (blk_lt (g := gb161) (o := .cells #[.string (⟨#[]⟩ : ByteArray), .string (⟨#[]⟩ : ByteArray)] 27 (0, 0)) (by (with_reducible repeat (first | refine kN ?_ _ | refine kD ?_ | refine kA ?_ _)); refine blk_far ?_ NB161_164.out _; (with_reducible repeat (first | refine kN ?_ _ | refine kD ?_ | refine kA ?_ _)); refine blk_far ?_ NB161_164.out _; exact hop BK161.out)) : gb161 ≠ gb165)); have n13_ := Aside0.mk ((by rw [hg]; exact Nat.ne_of_gt (blk_lt (g := gb161) (o := .cells #[.string (⟨#[]⟩ : ByteArray), .string (⟨#[]⟩ : ByteArray)] 27 (0, 0)) (by (with_reducible repeat (first | refine kN ?_ _ | refine kD ?_ | refine kA ?_ _)); refine blk_far ?_ NB161_164.out _; (with_reducible repeat (first | refine kN ?_ _ | refine kD ?_ | refine kA ?_ _)); refine blk_far ?_ NB161_164.out _; exact hop BK161.out)) : gb165 ≠ gb161)); have n14_ := Aside0.mk ((by rw [hg]; exact Nat.ne_of_lt (blk_lt (g := gb164) (o := .cells #[.string a0_0, .string a1] 27 (0, 0)) (by (with_reducible repeat (first | refine kN ?_ _ | refine kD ?_ | refine kA ?_ _)); refine blk_put (cs := #[.string a0_0, .string (⟨#[]⟩ : ByteArray)]) ?_ 1 _ rfl; (with_reducible repeat (first | refine kN ?_ _ | refine kD ?_ | refine kA ?_ _)); refine blk_put (cs := #[.string (⟨#[]⟩ : ByteArray), .string (⟨#[]⟩ : ByteArray)]) ?_ 0 _ rfl; exact hop BK164.out)) : gb164 ≠ gb165)); have n15_ := Aside0.mk ((by rw [hg]; exact Nat.ne_of_gt (blk_lt (g := gb164) (o := .cells #[.string a0_0, .string a1] 27 (0, 0)) (by (with_reducible repeat (first | refine kN ?_ _ | refine kD ?_ | refine kA ?_ _)); refine blk_put (cs := #[.string a0_0, .string (⟨#[]⟩ : ByteArray)]) ?_ 1 _ rfl; (with_reducible repeat (first | refine kN ?_ _ | refine kD ?_ | refine kA ?_ _)); refine blk_put (cs := #[.string (⟨#[]⟩ : ByteArray), .string (⟨#[]⟩ : ByteArray)]) ?_ 0 _ rfl; exact hop BK164.out)) : gb165 ≠ gb164)); clear BK159; clear BK160; clear BK161; clear BK164; clear HB; have BK159 := n0_; have BK160 := n1_; have BK161 := n2_; have BK164 := n3_; have HB := n4_; have BK165 := n5_; have GW165 := n6_; have GE165 := n7_; have NB159_165 := n8_; have NB165_159 := n9_; have NB160_165 := n10_; have NB165_160 := n11_; have NB161_165 := n12_; have NB165_161 := n13_; have NB164_165 := n14_; have NB165_164 := n15_; clear n0_ n1_ n2_ n3_ n4_ n5_ n6_ n7_ n8_ n9_ n10_ n11_ n12_ n13_ n14_ n15_; clear hb hbox hg; have hnb84 := NB165_159.out; have hnc84 := NB159_165.out; have hnb85 := NB165_160.out; have hnc85 := NB160_165.out; have hnb86 := NB165_161.out; have hnc86 := NB161_165.out; have hnb87 := NB165_164.out; have hnc87 := NB164_165.out; have hcz88_0 : w83.cell? ⟨gb165, 0, none⟩ = some (.string (⟨#[]⟩ : ByteArray)) := (blk_cell BK165.out 0).trans rfl; have hcz88_1 : w83.cell? ⟨gb165, 1, none⟩ = some (.string (⟨#[]⟩ : ByteArray)) := (blk_cell BK165.out 1).trans rfl; have hfz88_0 := blk_frozen BK165.out 0; have hfz88_1 := blk_frozen BK165.out 1; have hcz89_0 : w83.cell? ⟨gb164, 0, none⟩ = some (.string a0_0) := (blk_cell BK164.out 0).trans rfl; have hcz89_1 : w83.cell? ⟨gb164, 1, none⟩ = some (.string a1) := (blk_cell BK164.out 1).trans rfl; have hfz89_0 := blk_frozen BK164.out 0; have hfz89_1 := blk_frozen BK164.out 1) | ((with_reducible refine gate_callee (f := 35) rfl ?_); refine goesL_ (some 28) rfl rfl Try.func35 (by kernel_rfl) rfl #[.agg #[.string a0_0, .string a1]] rfl (by (try simp only [List.map_toArray, List.map_cons, List.map_nil]); first | done | rfl | (simp only [List.length_drop, List.length_take]; rfl)) ?_; (with_reducible refine (impl_IntervalValid.calls kj2 a0_0 a1 false _ A24.out).mono ?_); rintro e w90 ⟨rfl, hb⟩; refine ⟨_, rfl, ?_⟩; have n0_ := Aside0.mk (blk_below (g := gb159) (o := .cells #[.string a0_0, .string a0_1] 27 (0, 0)) (by (with_reducible repeat (first | refine kN ?_ _ | refine kD ?_ | refine kA ?_ _)); refine blk_far ?_ NB159_165.out _; (with_reducible repeat (first | refine kN ?_ _ | refine kD ?_ | refine kA ?_ _)); refine blk_far ?_ NB159_165.out _; exact hop BK159.out) hb); have n1_ := Aside0.mk (blk_below (g := gb160) (o := .cells #[.string (⟨#[]⟩ : ByteArray), .string (⟨#[]⟩ : ByteArray)] 27 (0, 0)) (by (with_reducible repeat (first | refine kN ?_ _ | refine kD ?_ | refine kA ?_ _)); refine blk_far ?_ NB160_165.out _; (with_reducible repeat (first | refine kN ?_ _ | refine kD ?_ | refine kA ?_ _)); refine blk_far ?_ NB160_165.out _; exact hop BK160.out) hb); have n2_ := Aside0.mk (blk_below (g := gb161) (o := .cells #[.string (⟨#[]⟩ : ByteArray), .string (⟨#[]⟩ : ByteArray)] 27 (0, 0)) (by (with_reducible repeat (first | refine kN ?_ _ | refine kD ?_ | refine kA ?_ _)); refine blk_far ?_ NB161_165.out _; (with_reducible repeat (first | refine kN ?_ _ | refine kD ?_ | refine kA ?_ _)); refine blk_far ?_ NB161_165.out _; exact hop BK161.out) hb); have n3_ := Aside0.mk (blk_below (g := gb164) (o := .cells #[.string a0_0, .string a1] 27 (0, 0)) (by (with_reducible repeat (first | refine kN ?_ _ | refine kD ?_ | refine kA ?_ _)); refine blk_far ?_ NB164_165.out _; (with_reducible repeat (first | refine kN ?_ _ | refine kD ?_ | refine kA ?_ _)); refine blk_far ?_ NB164_165.out _; exact hop BK164.out) hb); have n4_ := Aside0.mk (blk_below (g := gb165) (o := .cells #[.string a1, .string a0_1] 27 (0, 0)) (by (with_reducible repeat (first | refine kN ?_ _ | refine kD ?_ | refine kA ?_ _)); refine blk_put (cs := #[.string a1, .string (⟨#[]⟩ : ByteArray)]) ?_ 1 _ rfl; (with_reducible repeat (first | refine kN ?_ _ | refine kD ?_ | refine kA ?_ _)); refine blk_put (cs := #[.string (⟨#[]⟩ : ByteArray), .string (⟨#[]⟩ : ByteArray)]) ?_ 0 _ rfl; exact hop BK165.out) hb); have n5_ := Aside0.mk (below_step (by repeat (first | (with_reducible first | exact HB.out | apply bA | apply bN | apply bD | refine bS ?_ GE159.out | refine bS ?_ GE160.out | refine bS ?_ GE161.out | refine bS ?_ GE164.out | refine bS ?_ GE165.out) | exact HB.out)) hb); clear BK159; clear BK160; clear BK161; clear BK164; clear BK165; clear HB; have BK159 := n0_; have BK160 := n1_; have BK161 := n2_; have BK164 := n3_; have BK165 := n4_; have HB := n5_; clear n0_ n1_ n2_ n3_ n4_ n5_; (try clear hb); (try clear hb2); (try clear hk); (try clear hi); have hnb91 := NB160_161.out; have hnc91 := NB161_160.out; have hcz92_0 : w90.cell? ⟨gb160, 0, none⟩ = some (.string (⟨#[]⟩ : ByteArray)) := (blk_cell BK160.out 0).trans rfl; have hcz92_1 : w90.cell? ⟨gb160, 1, none⟩ = some (.string (⟨#[]⟩ : ByteArray)) := (blk_cell BK160.out 1).trans rfl; have hfz92_0 := blk_frozen BK160.out 0; have hfz92_1 := blk_frozen BK160.out 1; have hcz93_0 : w90.cell? ⟨gb161, 0, none⟩ = some (.string (⟨#[]⟩ : ByteArray)) := (blk_cell BK161.out 0).trans rfl; have hcz93_1 : w90.cell? ⟨gb161, 1, none⟩ = some (.string (⟨#[]⟩ : ByteArray)) := (blk_cell BK161.out 1).trans rfl; have hfz93_0 := blk_frozen BK161.out 0; have hfz93_1 := blk_frozen BK161.out 1))
     refine bodyPost_ret (results_list (rs := [.cell 4 27, .cell 5 27, .tmp 6]) rfl (by simp) (.cell gb160 27 #[.string (⟨#[]⟩ : ByteArray), .string (⟨#[]⟩ : ByteArray)] (0, 0) _ rfl (by (with_reducible repeat (first | refine kN ?_ _ | refine kD ?_ | refine kA ?_ _)); refine blk_far ?_ NB160_161.out _; (with_reducible repeat (first | refine kN ?_ _ | refine kD ?_ | refine kA ?_ _)); refine blk_far ?_ NB160_161.out _; (with_reducible repeat (first | refine kN ?_ _ | refine kD ?_ | refine kA ?_ _)); refine blk_put (cs := #[.string (⟨#[]⟩ : ByteArray), .string (⟨#[]⟩ : ByteArray)]) ?_ 1 _ rfl; (with_reducible repeat (first | refine kN ?_ _ | refine kD ?_ | refine kA ?_ _)); refine blk_put (cs := #[.string (⟨#[]⟩ : ByteArray), .string (⟨#[]⟩ : ByteArray)]) ?_ 0 _ rfl; exact hop BK160.out) Try.underlying27 rfl (by kernel_rfl) (.cell gb161 27 #[.string (⟨#[]⟩ : ByteArray), .string (⟨#[]⟩ : ByteArray)] (0, 0) _ rfl (by (with_reducible repeat (first | refine kN ?_ _ | refine kD ?_ | refine kA ?_ _)); refine blk_put (cs := #[.string (⟨#[]⟩ : ByteArray), .string (⟨#[]⟩ : ByteArray)]) ?_ 1 _ rfl; (with_reducible repeat (first | refine kN ?_ _ | refine kD ?_ | refine kA ?_ _)); refine blk_put (cs := #[.string (⟨#[]⟩ : ByteArray), .string (⟨#[]⟩ : ByteArray)]) ?_ 0 _ rfl; (with_reducible repeat (first | refine kN ?_ _ | refine kD ?_ | refine kA ?_ _)); refine blk_far ?_ NB161_160.out _; (with_reducible repeat (first | refine kN ?_ _ | refine kD ?_ | refine kA ?_ _)); refine blk_far ?_ NB161_160.out _; exact hop BK161.out) Try.underlying27 rfl (by kernel_rfl) (.tmp .nil)))) rfl ?_
     exact ⟨by first | rfl | (simp only [u8_w_, w64_u8_] <;> rfl) | (simp [errW_none, errW_some] <;> rfl) | (simp [*, errW_none, errW_some] <;> rfl), by repeat (first | (with_reducible first | exact HB.out | apply bA | apply bN | apply bD | refine bS ?_ GE159.out | refine bS ?_ GE160.out | refine bS ?_ GE161.out | refine bS ?_ GE164.out | refine bS ?_ GE165.out) | exact HB.out)⟩

/-! ### impl_PartitionSplit: function 30 -/
def impl_PartitionSplit.j0 : Nat → List (S27) → Int → Bool → ByteArray → ByteArray → ByteArray → ByteArray → Option ((List (S27)) × Bool)
 | 0, _, _, _, _, _, _, _ => none
 | k + 1, x0, x6, x31, x176000, x176001, x177000, x177001 => if x31 = true then ((impl_copyOf_Interval.f x0).bind fun t177 => (some (t177, false))) else ((impl_replaced_Interval.f x0 x6 1 (([(⟨x176000, x176001⟩ : S27), (⟨x177000, x177001⟩ : S27)] : List (S27)))).bind fun t183 => (some (t183, true)))
def impl_PartitionSplit.f (k : Nat) (l0 : List (S27)) (a1 : ByteArray) : Option ((List (S27)) × Bool) := (impl_PartitionFind.f k l0 a1).bind fun t168 => (if t168 < 0 then (some (([] : List (S27)), false)) else (if 0 ≤ t168 then (if t168 < (l0.length : Int) then ((impl_IntervalCut.f k ((rd_T27 l0 t168).f0) ((rd_T27 l0 t168).f1) a1).bind fun bt170 => (if bt170.2.2.2.2 = true then (impl_PartitionSplit.j0 k l0 t168 (decide ((l0.length : Int) ≥ 6)) bt170.1 bt170.2.1 bt170.2.2.1 bt170.2.2.2.1) else (impl_PartitionSplit.j0 k l0 t168 true bt170.1 bt170.2.1 bt170.2.2.1 bt170.2.2.2.1))) else (none)) else (none)))
theorem impl_PartitionSplit.mono_l : ∀ k, (∀ y0 y1 y2 y3 y4 y5 y6, LeO (impl_PartitionSplit.j0 k y0 y1 y2 y3 y4 y5 y6) (impl_PartitionSplit.j0 (k + 1) y0 y1 y2 y3 y4 y5 y6))
 | 0 => fun _ _ _ _ _ _ _ r h => by simp [impl_PartitionSplit.j0] at h
 | k + 1 => by
  have ih0 := impl_PartitionSplit.mono_l k
  ·intro y0 y1 y2 y3 y4 y5 y6
   unfold impl_PartitionSplit.j0
   repeat' first
   | (with_reducible exact ih0 _ _ _ _ _ _ _)
   | (with_reducible exact impl_IntervalCut.mono _ _ _ _)
   | (with_reducible exact impl_PartitionFind.mono _ _ _)
   | (with_reducible exact LeO.refl _)
   | (with_reducible exact LeO.none _)
   | (with_reducible refine LeO.ite ?_ ?_)
   | (with_reducible refine LeO.bind ?_ (fun _ => ?_))
   | exact ih0 _ _ _ _ _ _ _
   | exact impl_IntervalCut.mono _ _ _ _
   | exact impl_PartitionFind.mono _ _ _
   | exact LeO.none _
   | refine LeO.ite ?_ ?_
   | refine LeO.bind ?_ (fun _ => ?_)
theorem impl_PartitionSplit.mono : ∀ a0 a1 k, LeO (impl_PartitionSplit.f k a0 a1) (impl_PartitionSplit.f (k + 1) a0 a1) := by
 intro a0 a1 k
 have ih0 := impl_PartitionSplit.mono_l k
 unfold impl_PartitionSplit.f
 repeat' first
   | (with_reducible exact ih0 _ _ _ _ _ _ _)
   | (with_reducible exact impl_IntervalCut.mono _ _ _ _)
   | (with_reducible exact impl_PartitionFind.mono _ _ _)
   | (with_reducible exact LeO.refl _)
   | (with_reducible exact LeO.none _)
   | (with_reducible refine LeO.ite ?_ ?_)
   | (with_reducible refine LeO.bind ?_ (fun _ => ?_))
   | exact ih0 _ _ _ _ _ _ _
   | exact impl_IntervalCut.mono _ _ _ _
   | exact impl_PartitionFind.mono _ _ _
   | exact LeO.none _
   | refine LeO.ite ?_ ?_
   | refine LeO.bind ?_ (fun _ => ?_)
set_option maxHeartbeats 8000000 in
set_option maxRecDepth 100000 in
theorem impl_PartitionSplit.calls (k : Nat) (A0 : Option Addr) (c0 : Nat) (l0 : List (S27)) (a1 : ByteArray) (r1 : List (S27)) (r2 : Bool) (w : World) (hr0 : Kd.C k27 w A0 l0.length l0) (hc0 : l0.length ≤ c0) (h : impl_PartitionSplit.f k l0 a1 = some (r1, r2)) :
  Calls Try.prog 30 #[.slice A0 l0.length c0, .string a1] w fun e w' => ∃ v0_ : Value, e = .returned (.tuple #[v0_, .bool r2]) ∧ Kd.R k27 27 w' w.heap.size (fun _ => True) v0_ r1 ∧ Below w.heap.size w w' := by
 have hu27 := Try.underlying27
 have HR0 := Aside0.mk hr0
 have HC0 := Aside0.mk hc0
 clear hr0 hc0
 have HB := Aside0.mk (Below.refl w.heap.size w)
 have H : ((impl_PartitionFind.f k l0 a1).bind fun t168 => (if t168 < 0 then (some (([] : List (S27)), false)) else (if 0 ≤ t168 then (if t168 < (l0.length : Int) then ((impl_IntervalCut.f k ((rd_T27 l0 t168).f0) ((rd_T27 l0 t168).f1) a1).bind fun bt170 => (if bt170.2.2.2.2 = true then (impl_PartitionSplit.j0 k l0 t168 (decide ((l0.length : Int) ≥ 6)) bt170.1 bt170.2.1 bt170.2.2.1 bt170.2.2.2.1) else (impl_PartitionSplit.j0 k l0 t168 true bt170.1 bt170.2.1 bt170.2.2.1 bt170.2.2.2.1))) else (none)) else (none)))) = some (r1, r2) := h
 clear h
 replace H := Option.bind_eq_some_iff.mp H
 obtain ⟨t168, A30, H⟩ := H
 replace H : (if t168 < 0 then (some (([] : List (S27)), false)) else (if 0 ≤ t168 then (if t168 < (l0.length : Int) then ((impl_IntervalCut.f k ((rd_T27 l0 t168).f0) ((rd_T27 l0 t168).f1) a1).bind fun bt170 => (if bt170.2.2.2.2 = true then (impl_PartitionSplit.j0 k l0 t168 (decide ((l0.length : Int) ≥ 6)) bt170.1 bt170.2.1 bt170.2.2.1 bt170.2.2.2.1) else (impl_PartitionSplit.j0 k l0 t168 true bt170.1 bt170.2.1 bt170.2.2.1 bt170.2.2.2.1))) else (none)) else (none))) = some (r1, r2) := H
 have A3 := Aside0.mk A30
 clear A30
 by_cases c4 : t168 < 0
 ·rw [if_pos c4] at H
  have c4b0 : decide (t168 < 0) = true := decide_eq_true c4
  clear c4
  simp only [Option.some.injEq, Prod.mk.injEq] at H
  obtain ⟨rfl, rfl⟩ := H
  go_enter Try.func30, Try.ntmps30
  go_wp2_with (first | ((with_reducible refine gate_callee (f := 20) rfl ?_); refine goesL_ (some 12) rfl rfl Try.func20 (by kernel_rfl) rfl #[.slice A0 l0.length c0, .string a1] rfl (by (try simp only [List.map_toArray, List.map_cons, List.map_nil]); first | done | rfl | (simp only [List.length_drop, List.length_take]; rfl)) ?_; (with_reducible refine (impl_PartitionFind.calls k _ _ l0 a1 t168 _ ?side1 ?side2 A3.out).mono ?_); (case side1 => repeat (first | exact HR0.out | (with_reducible refine Kd.C_alloc ?_ _) | (with_reducible refine Kd.C_drewN ?_ _) | (with_reducible refine Kd.C_drew ?_))); (case side2 => exact HC0.out); rintro e w5 ⟨rfl, hb⟩; refine ⟨_, rfl, ?_⟩; have n0_ := Aside0.mk (below_step (by exact hopb HB.out) hb); clear HB; have HB := n0_; clear n0_; (try clear hb); (try clear hb2); (try clear hk); (try clear hi)))
  go_ret2
  exact ⟨_, by first | rfl | (simp only [u8_w_, w64_u8_] <;> rfl) | (simp [errW_none, errW_some] <;> rfl) | (simp [*, errW_none, errW_some] <;> rfl), by first | exact Kd.R_nil _ _ _ _ _ | exact Kd.N_nil _ _ _ _ _ | exact Kd.V_nil _ _ _ _ _ | exact Kd.Q_nil _ _ _ _ _ | exact Kd.S_nil _ _ _ _ _, by repeat (first | (with_reducible first | exact HB.out | apply bA | apply bN | apply bD) | exact HB.out)⟩
 ·rw [if_neg c4] at H
  have c4b0 : decide (t168 < 0) = false := decide_eq_false c4
  clear c4
  by_cases c6 : 0 ≤ t168
  ·rw [if_pos c6] at H
   have c6b0 : decide (0 ≤ t168) = true := decide_eq_true c6
   clear c6
   by_cases c7 : t168 < (l0.length : Int)
   ·rw [if_pos c7] at H
    have c7b0 : decide (t168 < (l0.length : Int)) = true := decide_eq_true c7
    clear c7
    replace H := Option.bind_eq_some_iff.mp H
    obtain ⟨⟨t170, t171, t172, t173, t174⟩, A80, H⟩ := H
    replace H : (if t174 = true then (impl_PartitionSplit.j0 k l0 t168 (decide ((l0.length : Int) ≥ 6)) t170 t171 t172 t173) else (impl_PartitionSplit.j0 k l0 t168 true t170 t171 t172 t173)) = some (r1, r2) := H
    have A8 := Aside0.mk A80
    clear A80
    have HC9 := Aside0.mk H
    clear H
    go_enter Try.func30, Try.ntmps30
    go_upto_region 5 with (first | ((with_reducible refine gate_callee (f := 20) rfl ?_); refine goesL_ (some 12) rfl rfl Try.func20 (by kernel_rfl) rfl #[.slice A0 l0.length c0, .string a1] rfl (by (try simp only [List.map_toArray, List.map_cons, List.map_nil]); first | done | rfl | (simp only [List.length_drop, List.length_take]; rfl)) ?_; (with_reducible refine (impl_PartitionFind.calls k _ _ l0 a1 t168 _ ?side1 ?side2 A3.out).mono ?_); (case side1 => repeat (first | exact HR0.out | (with_reducible refine Kd.C_alloc ?_ _) | (with_reducible refine Kd.C_drewN ?_ _) | (with_reducible refine Kd.C_drew ?_))); (case side2 => exact HC0.out); rintro e w10 ⟨rfl, hb⟩; refine ⟨_, rfl, ?_⟩; have n0_ := Aside0.mk (below_step (by exact hopb HB.out) hb); clear HB; have HB := n0_; clear n0_; (try clear hb); (try clear hb2); (try clear hk); (try clear hi); have p169 : 0 ≤ (t168 : Int) := of_decide_eq_true (by first | (with_reducible assumption) | assumption); have q169 : t168 < (l0.length : Int) := of_decide_eq_true (by first | (with_reducible assumption) | assumption); obtain ⟨ad169, e169, hx169_0, hx169_1⟩ := at_T27 HR0.out t168 p169 q169; cases e169; replace hx169_0 := (HB.out.cell (World.block_lt_of_cell? w _ hx169_0)).trans hx169_0; replace hx169_1 := (HB.out.cell (World.block_lt_of_cell? w _ hx169_1)).trans hx169_1; replace p169 := eq_true p169; replace q169 := eq_true q169) | ((with_reducible refine gate_callee (f := 50) rfl ?_); refine goesL_ (some 21) rfl rfl Try.func50 (by kernel_rfl) rfl #[.agg #[.string ((rd_T27 l0 t168).f0), .string ((rd_T27 l0 t168).f1)], .string a1] rfl (by (try simp only [List.map_toArray, List.map_cons, List.map_nil]); first | done | rfl | (simp only [List.length_drop, List.length_take]; rfl)) ?_; (with_reducible refine (impl_IntervalCut.calls k ((rd_T27 l0 t168).f0) ((rd_T27 l0 t168).f1) a1 t170 t171 t172 t173 t174 _ A8.out).mono ?_); rintro e w11 ⟨rfl, hb⟩; refine ⟨_, rfl, ?_⟩; have n0_ := Aside0.mk (below_step (by exact hopb HB.out) hb); clear HB; have HB := n0_; clear n0_; (try clear hb); (try clear hb2); (try clear hk); (try clear hi)) | ((with_reducible refine gate_dst (N := 7) rfl ?_); (try (refine gate_guard (by rfl) ?_; dsimp only)); refine box_event ?hg (N := 7) ?hd (cs := #[.string (⟨#[]⟩ : ByteArray), .string (⟨#[]⟩ : ByteArray)]) (t := 27) ?hr ?_; (case hd => rfl); (case hg => rfl); (case hr => first | (go_simp; done) | (go_simp; rfl)); intro gb175 hg w12 hbox hb; have n0_ := Aside0.mk (below_step (by exact hopb HB.out) hb); have n1_ := Aside0.mk (hbox); have n2_ := Aside0.mk ((by rw [hg]; exact (below_size (by exact hopb HB.out)) : w.heap.size ≤ gb175)); have n3_ := n2_; clear HB; have HB := n0_; have BK175 := n1_; have GW175 := n2_; have GE175 := n3_; clear n0_ n1_ n2_ n3_; clear hb hbox hg) | ((with_reducible refine gate_dst (N := 8) rfl ?_); (try (refine gate_guard (by rfl) ?_; dsimp only)); refine box_event ?hg (N := 8) ?hd (cs := #[.string (⟨#[]⟩ : ByteArray), .string (⟨#[]⟩ : ByteArray)]) (t := 27) ?hr ?_; (case hd => rfl); (case hg => rfl); (case hr => first | (go_simp; done) | (go_simp; rfl)); intro gb176 hg w13 hbox hb; have n0_ := Aside0.mk (blk_below (hop BK175.out) hb); have n1_ := Aside0.mk (below_step (by repeat (first | (with_reducible first | exact HB.out | apply bA | apply bN | apply bD | refine bS ?_ GE175.out) | exact HB.out)) hb); have n2_ := Aside0.mk (hbox); have n3_ := Aside0.mk ((by rw [hg]; exact (below_size (by repeat (first | (with_reducible first | exact HB.out | apply bA | apply bN | apply bD | refine bS ?_ GE175.out) | exact HB.out))) : w.heap.size ≤ gb176)); have n4_ := n3_; have n5_ := Aside0.mk ((by rw [hg]; exact Nat.ne_of_lt (blk_lt (hop BK175.out)) : gb175 ≠ gb176)); have n6_ := Aside0.mk ((by rw [hg]; exact Nat.ne_of_gt (blk_lt (hop BK175.out)) : gb176 ≠ gb175)); clear BK175; clear HB; have BK175 := n0_; have HB := n1_; have BK176 := n2_; have GW176 := n3_; have GE176 := n4_; have NB175_176 := n5_; have NB176_175 := n6_; clear n0_ n1_ n2_ n3_ n4_ n5_ n6_; clear hb hbox hg; have hnb14 := NB175_176.out; have hnc14 := NB176_175.out; have hcz15_0 : w13.cell? ⟨gb175, 0, none⟩ = some (.string (⟨#[]⟩ : ByteArray)) := (blk_cell BK175.out 0).trans rfl; have hcz15_1 : w13.cell? ⟨gb175, 1, none⟩ = some (.string (⟨#[]⟩ : ByteArray)) := (blk_cell BK175.out 1).trans rfl; have hfz15_0 := blk_frozen BK175.out 0; have hfz15_1 := blk_frozen BK175.out 1; have hcz16_0 : w13.cell? ⟨gb176, 0, none⟩ = some (.string (⟨#[]⟩ : ByteArray)) := (blk_cell BK176.out 0).trans rfl; have hcz16_1 : w13.cell? ⟨gb176, 1, none⟩ = some (.string (⟨#[]⟩ : ByteArray)) := (blk_cell BK176.out 1).trans rfl; have hfz16_0 := blk_frozen BK176.out 0; have hfz16_1 := blk_frozen BK176.out 1))
    (try simp only [Act.put, lT, lZ, lS])
    go_cut [31] (fun v31 wc => ∃ (kq : Nat) (x31_8 : Bool), v31 = .bool x31_8 ∧ Aside0 (impl_PartitionSplit.j0 kq l0 t168 x31_8 t170 t171 t172 t173 = some (r1, r2)) ∧ Aside0 (kq ≤ k) ∧ Aside0 (wc.heap[gb175]? = some (.cells #[.string t170, .string t171] 27 (0, 0))) ∧ Aside0 (wc.heap[gb176]? = some (.cells #[.string t172, .string t173] 27 (0, 0))) ∧ Aside0 (Below w.heap.size w wc))
    case first =>
     have H := HC9.out
     clear HC9
     by_cases c17 : t174 = true
     ·subst c17
      have H1 : (impl_PartitionSplit.j0 k l0 t168 (decide ((l0.length : Int) ≥ 6)) t170 t171 t172 t173) = some (r1, r2) := by rw [if_pos rfl] at H; exact H
      clear H
      have H := H1
      clear H1
      have H' := Aside0.mk H
      clear H
      go_wp2
      go_meet
      case rel => exact ⟨_, (decide ((l0.length : Int) ≥ 6)), (by first | rfl | (simp; done) | (simp [bne]; done) | (simp [*]; done)), H', ⟨by first | omega | exact Nat.le_refl _⟩, ⟨by (with_reducible repeat (first | refine kN ?_ _ | refine kD ?_ | refine kA ?_ _)); refine blk_far ?_ NB175_176.out _; (with_reducible repeat (first | refine kN ?_ _ | refine kD ?_ | refine kA ?_ _)); refine blk_far ?_ NB175_176.out _; (with_reducible repeat (first | refine kN ?_ _ | refine kD ?_ | refine kA ?_ _)); refine blk_put (cs := #[.string t170, .string (⟨#[]⟩ : ByteArray)]) ?_ 1 _ rfl; (with_reducible repeat (first | refine kN ?_ _ | refine kD ?_ | refine kA ?_ _)); refine blk_put (cs := #[.string (⟨#[]⟩ : ByteArray), .string (⟨#[]⟩ : ByteArray)]) ?_ 0 _ rfl; exact hop BK175.out⟩, ⟨by (with_reducible repeat (first | refine kN ?_ _ | refine kD ?_ | refine kA ?_ _)); refine blk_put (cs := #[.string t172, .string (⟨#[]⟩ : ByteArray)]) ?_ 1 _ rfl; (with_reducible repeat (first | refine kN ?_ _ | refine kD ?_ | refine kA ?_ _)); refine blk_put (cs := #[.string (⟨#[]⟩ : ByteArray), .string (⟨#[]⟩ : ByteArray)]) ?_ 0 _ rfl; (with_reducible repeat (first | refine kN ?_ _ | refine kD ?_ | refine kA ?_ _)); refine blk_far ?_ NB176_175.out _; (with_reducible repeat (first | refine kN ?_ _ | refine kD ?_ | refine kA ?_ _)); refine blk_far ?_ NB176_175.out _; exact hop BK176.out⟩, ⟨by repeat (first | (with_reducible first | exact HB.out | apply bA | apply bN | apply bD | refine bS ?_ GE175.out | refine bS ?_ GE176.out) | exact HB.out)⟩⟩
     ·replace c17 := Bool.eq_false_iff.mpr c17
      subst c17
      have H1 : (impl_PartitionSplit.j0 k l0 t168 true t170 t171 t172 t173) = some (r1, r2) := by rw [if_neg (show ¬ (false = true) by decide)] at H; exact H
      clear H
      have H := H1
      clear H1
      have H' := Aside0.mk H
      clear H
      go_wp2
      go_meet
      case rel => exact ⟨_, (true), (by first | rfl | (simp; done) | (simp [bne]; done) | (simp [*]; done)), H', ⟨by first | omega | exact Nat.le_refl _⟩, ⟨by (with_reducible repeat (first | refine kN ?_ _ | refine kD ?_ | refine kA ?_ _)); refine blk_far ?_ NB175_176.out _; (with_reducible repeat (first | refine kN ?_ _ | refine kD ?_ | refine kA ?_ _)); refine blk_far ?_ NB175_176.out _; (with_reducible repeat (first | refine kN ?_ _ | refine kD ?_ | refine kA ?_ _)); refine blk_put (cs := #[.string t170, .string (⟨#[]⟩ : ByteArray)]) ?_ 1 _ rfl; (with_reducible repeat (first | refine kN ?_ _ | refine kD ?_ | refine kA ?_ _)); refine blk_put (cs := #[.string (⟨#[]⟩ : ByteArray), .string (⟨#[]⟩ : ByteArray)]) ?_ 0 _ rfl; exact hop BK175.out⟩, ⟨by (with_reducible repeat (first | refine kN ?_ _ | refine kD ?_ | refine kA ?_ _)); refine blk_put (cs := #[.string t172, .string (⟨#[]⟩ : ByteArray)]) ?_ 1 _ rfl; (with_reducible repeat (first | refine kN ?_ _ | refine kD ?_ | refine kA ?_ _)); refine blk_put (cs := #[.string (⟨#[]⟩ : ByteArray), .string (⟨#[]⟩ : ByteArray)]) ?_ 0 _ rfl; (with_reducible repeat (first | refine kN ?_ _ | refine kD ?_ | refine kA ?_ _)); refine blk_far ?_ NB176_175.out _; (with_reducible repeat (first | refine kN ?_ _ | refine kD ?_ | refine kA ?_ _)); refine blk_far ?_ NB176_175.out _; exact hop BK176.out⟩, ⟨by repeat (first | (with_reducible first | exact HB.out | apply bA | apply bN | apply bD | refine bS ?_ GE175.out | refine bS ?_ GE176.out) | exact HB.out)⟩⟩
    case rest =>
     clear HC9
     try clear c1
     try clear p1
     try clear q1
     try clear hx1
     try clear c2
     try clear p2
     try clear c3
     try clear c4
     try clear c4b0
     try clear c5
     try clear c6
     try clear c6b0
     try clear c7
     try clear c7b0
     try clear c14
     try clear p16
     try clear q16
     try clear hx16
     try clear c17
     try clear hcz15_0
     try clear hcz15_1
     try clear hcz16_0
     try clear hcz16_1
     try clear hfz15_0
     try clear hfz15_1
     try clear hfz16_0
     try clear hfz16_1
     try clear hx169_0
     try clear hx169_1
     try clear p169
     try clear q169
     obtain ⟨kq, x31_8, rfl, HA, HJ8, BK175, BK176, HB⟩ := hcut
     cases kq with
     | zero => exact absurd HA.out (by simp [impl_PartitionSplit.j0])
     | succ kj8 =>
      have H := HA.out
      clear HA
      simp only [impl_PartitionSplit.j0] at H
      by_cases c18 : x31_8 = true
      ·subst c18
       have H1 : ((impl_copyOf_Interval.f l0).bind fun t177 => (some (t177, false))) = some (r1, r2) := by rw [if_pos rfl] at H; exact H
       clear H
       have H := H1
       clear H1
       replace H := Option.bind_eq_some_iff.mp H
       obtain ⟨t177, A190, H⟩ := H
       replace H : (some (t177, false)) = some (r1, r2) := H
       have A19 := Aside0.mk A190
       clear A190
       simp only [Option.some.injEq, Prod.mk.injEq] at H
       obtain ⟨rfl, rfl⟩ := H
       go_wp2_with (first | ((with_reducible refine gate_callee (f := 48) rfl ?_); refine goesL_ (some 33) rfl rfl Try.func48 (by kernel_rfl) rfl #[.slice (some ad169) l0.length c0] rfl (by (try simp only [List.map_toArray, List.map_cons, List.map_nil]); first | done | rfl | (simp only [List.length_drop, List.length_take]; rfl)) ?_; (with_reducible refine (impl_copyOf_Interval.calls _ _ l0 t177 _ ?side1 ?side2 A19.out).mono ?_); (case side1 => repeat (first | exact (Kd.C_below HR0.out HB.out) | (with_reducible refine Kd.C_alloc ?_ _) | (with_reducible refine Kd.C_drewN ?_ _) | (with_reducible refine Kd.C_drew ?_))); (case side2 => exact HC0.out); rintro e w20 ⟨v178, rfl, ho0, hb⟩; refine ⟨_, rfl, ?_⟩; have n0_ := Aside0.mk (Kd.R_lower (Kd.R_newB (Kd.R_newB ho0 (g := gb175) (o := .cells #[.string t170, .string t171] 27 (0, 0)) (by exact hop BK175.out)) (g := gb176) (o := .cells #[.string t172, .string t173] 27 (0, 0)) (by exact hop BK176.out)) (below_size (by repeat (first | (with_reducible first | exact HB.out | apply bA | apply bN | apply bD | refine bS ?_ GE175.out | refine bS ?_ GE176.out) | exact HB.out)))); have n1_ := Aside0.mk (blk_below (hop BK175.out) hb); have n2_ := Aside0.mk (blk_below (hop BK176.out) hb); have n3_ := Aside0.mk (below_step (by repeat (first | (with_reducible first | exact HB.out | apply bA | apply bN | apply bD | refine bS ?_ GE175.out | refine bS ?_ GE176.out) | exact HB.out)) hb); clear BK175; clear BK176; clear HB; have HO179 := n0_; have BK175 := n1_; have BK176 := n2_; have HB := n3_; clear n0_ n1_ n2_ n3_; (try clear hb); (try clear hb2); (try clear hk); (try clear hi); (try clear ho0)))
       go_ret2
       exact ⟨_, by first | rfl | (simp only [u8_w_, w64_u8_] <;> rfl) | (simp [errW_none, errW_some] <;> rfl) | (simp [*, errW_none, errW_some] <;> rfl), by (with_reducible repeat (first | apply Kd.R_alloc | apply Kd.R_drewN | apply Kd.R_drew)); exact Kd.R_mono HO179.out (fun _ hk => trivial), by repeat (first | (with_reducible first | exact HB.out | apply bA | apply bN | apply bD | refine bS ?_ GE175.out | refine bS ?_ GE176.out) | exact HB.out)⟩
      ·replace c18 := Bool.eq_false_iff.mpr c18
       subst c18
       have H1 : ((impl_replaced_Interval.f l0 t168 1 (([(⟨t170, t171⟩ : S27), (⟨t172, t173⟩ : S27)] : List (S27)))).bind fun t183 => (some (t183, true))) = some (r1, r2) := by rw [if_neg (show ¬ (false = true) by decide)] at H; exact H
       clear H
       have H := H1
       clear H1
       obtain ⟨y180, hy180⟩ : ∃ y_ : List (S27), y_ = (([(⟨t170, t171⟩ : S27), (⟨t172, t173⟩ : S27)] : List (S27))) := ⟨_, rfl⟩
       replace H : ((impl_replaced_Interval.f l0 t168 1 y180).bind fun t183 => (some (t183, true))) = some (r1, r2) := by first | (rw [hy180]; with_reducible exact H) | (have H2_ := (Option.bind_some _ _).symm.trans H; rw [hy180]; with_reducible exact H2_) | (have H2_ := (Option.bind_some _ _).symm.trans H; with_reducible exact H2_) | with_reducible exact H | (rw [hy180]; exact H) | exact H
       have Ny180 := Aside0.mk hy180
       clear hy180
       replace H := Option.bind_eq_some_iff.mp H
       obtain ⟨t183, A210, H⟩ := H
       replace H : (some (t183, true)) = some (r1, r2) := H
       have A21 := Aside0.mk A210
       clear A210
       simp only [Option.some.injEq, Prod.mk.injEq] at H
       obtain ⟨rfl, rfl⟩ := H
       have hnb22 := NB175_176.out
       have hnc22 := NB176_175.out
       have hcz23_0 : wc.cell? ⟨gb175, 0, none⟩ = some (.string t170) := (blk_cell BK175.out 0).trans rfl
       have hcz23_1 : wc.cell? ⟨gb175, 1, none⟩ = some (.string t171) := (blk_cell BK175.out 1).trans rfl
       have hfz23_0 := blk_frozen BK175.out 0
       have hfz23_1 := blk_frozen BK175.out 1
       have hcz24_0 : wc.cell? ⟨gb176, 0, none⟩ = some (.string t172) := (blk_cell BK176.out 0).trans rfl
       have hcz24_1 : wc.cell? ⟨gb176, 1, none⟩ = some (.string t173) := (blk_cell BK176.out 1).trans rfl
       have hfz24_0 := blk_frozen BK176.out 0
       have hfz24_1 := blk_frozen BK176.out 1
       go_wp2_with (first | ((with_reducible refine gate_dst (N := 38) rfl ?_); (try (refine gate_guard (by rfl) ?_; dsimp only)); refine Kd.R_lit k27 _ 27 ?hg (N := 38) ?hd (xs := ([(⟨t170, t171⟩ : S27), (⟨t172, t173⟩ : S27)] : List (S27))) (inner := [.string t170, .string t171, .string t172, .string t173]) (ok := fun _ => True) (okp := fun _ => True) ?hr ?hp (fun _ hk => hk) trivial (Below.refl _ _) (Nat.le_refl _) (by simp) ?_; (case hd => rfl); (case hg => rfl); (case hr => first | (go_simp; done) | (go_simp; rfl)); (case hp => exact (Reps.c2 (show Kd.M k27 _ _ _ (⟨t170, t171⟩ : S27) [.string t170, .string t171] from (k27_mkM _ _ _ (⟨t170, t171⟩ : S27) )) (Reps.c2 (show Kd.M k27 _ _ _ (⟨t172, t173⟩ : S27) [.string t172, .string t173] from (k27_mkM _ _ _ (⟨t172, t173⟩ : S27) )) (Reps.none _ _)))); intro v181 w25 ho26 hb hg_ hnew_; clear hg_ hnew_; (first | rw [← Ny180.out] at ho26 | (simp only [Int.reduceToNat] at ho26; rw [← Ny180.out] at ho26)); have n0_ := Aside0.mk (Kd.R_lower (Kd.R_newB (Kd.R_newB ho26 (g := gb175) (o := .cells #[.string t170, .string t171] 27 (0, 0)) (by exact hop BK175.out)) (g := gb176) (o := .cells #[.string t172, .string t173] 27 (0, 0)) (by exact hop BK176.out)) (below_size (by repeat (first | (with_reducible first | exact HB.out | apply bA | apply bN | apply bD | refine bS ?_ GE175.out | refine bS ?_ GE176.out) | exact HB.out)))); have n1_ := Aside0.mk (blk_below (hop BK175.out) hb); have n2_ := Aside0.mk (blk_below (hop BK176.out) hb); have n3_ := Aside0.mk (below_step (by repeat (first | (with_reducible first | exact HB.out | apply bA | apply bN | apply bD | refine bS ?_ GE175.out | refine bS ?_ GE176.out) | exact HB.out)) hb); clear BK175; clear BK176; clear HB; have HO182 := n0_; have BK175 := n1_; have BK176 := n2_; have HB := n3_; clear n0_ n1_ n2_ n3_; clear hb ho26; obtain ⟨Ao27, co27, eo27⟩ := Kd.R_slice HO182.out; subst eo27) | ((with_reducible refine gate_callee (f := 49) rfl ?_); refine goesL_ (some 39) rfl rfl Try.func49 (by kernel_rfl) rfl #[.slice (some ad169) l0.length c0, .int .i64 t168, .int .i64 1, .slice Ao27 y180.length co27] rfl (by (try simp only [List.map_toArray, List.map_cons, List.map_nil]); first | done | rfl | (simp only [List.length_drop, List.length_take]; rfl)) ?_; (with_reducible refine (impl_replaced_Interval.calls _ _ l0 t168 1 _ _ y180 t183 _ ?side1 ?side2 ?side3 ?side4 A21.out).mono ?_); (case side1 => repeat (first | exact (Kd.C_below HR0.out HB.out) | (with_reducible refine Kd.C_alloc ?_ _) | (with_reducible refine Kd.C_drewN ?_ _) | (with_reducible refine Kd.C_drew ?_))); (case side2 => exact HC0.out); (case side3 => repeat (first | exact (Kd.R_reads' HO182.out).2.2 | (with_reducible refine Kd.C_alloc ?_ _) | (with_reducible refine Kd.C_drewN ?_ _) | (with_reducible refine Kd.C_drew ?_))); (case side4 => exact (Kd.R_reads' HO182.out).2.1); rintro e w28 ⟨v184, rfl, ho0, hb⟩; refine ⟨_, rfl, ?_⟩; have n0_ := Aside0.mk (Kd.R_elder' (by (with_reducible repeat (first | apply Kd.R_alloc | apply Kd.R_drewN | apply Kd.R_drew)); exact HO182.out) (Kd.R_base ho0) hb); have n1_ := Aside0.mk (Kd.R_lower (Kd.R_newB (Kd.R_newB (Kd.R_new' ho0 (Kd.R_lt (by (with_reducible repeat (first | apply Kd.R_alloc | apply Kd.R_drewN | apply Kd.R_drew)); exact HO182.out))) (g := gb175) (o := .cells #[.string t170, .string t171] 27 (0, 0)) (by exact hop BK175.out)) (g := gb176) (o := .cells #[.string t172, .string t173] 27 (0, 0)) (by exact hop BK176.out)) (below_size (by repeat (first | (with_reducible first | exact HB.out | apply bA | apply bN | apply bD | refine bS ?_ GE175.out | refine bS ?_ GE176.out) | exact HB.out)))); have n2_ := Aside0.mk (blk_below (hop BK175.out) hb); have n3_ := Aside0.mk (blk_below (hop BK176.out) hb); have n4_ := Aside0.mk (below_step (by repeat (first | (with_reducible first | exact HB.out | apply bA | apply bN | apply bD | refine bS ?_ GE175.out | refine bS ?_ GE176.out) | exact HB.out)) hb); clear HO182; clear BK175; clear BK176; clear HB; have HO182 := n0_; have HO185 := n1_; have BK175 := n2_; have BK176 := n3_; have HB := n4_; clear n0_ n1_ n2_ n3_ n4_; (try clear hb); (try clear hb2); (try clear hk); (try clear hi); (try clear ho0)))
       go_ret2
       exact ⟨_, by first | rfl | (simp only [u8_w_, w64_u8_] <;> rfl) | (simp [errW_none, errW_some] <;> rfl) | (simp [*, errW_none, errW_some] <;> rfl), by (with_reducible repeat (first | apply Kd.R_alloc | apply Kd.R_drewN | apply Kd.R_drew)); exact Kd.R_mono HO185.out (fun _ hk => trivial), by repeat (first | (with_reducible first | exact HB.out | apply bA | apply bN | apply bD | refine bS ?_ GE175.out | refine bS ?_ GE176.out) | exact HB.out)⟩
   ·rw [if_neg c7] at H
    exact absurd H (by simp)
  ·rw [if_neg c6] at H
   exact absurd H (by simp)

/-! ### spec_l1In: function 37 -/
def spec_l1In.f (a0 : Int) (a1 : Int) (a2 : Int) : Option (Bool) := if a0 ≥ a1 then (some (decide (a0 ≤ a2))) else (some false)
set_option maxHeartbeats 8000000 in
set_option maxRecDepth 100000 in
theorem spec_l1In.calls (a0 : Int) (a1 : Int) (a2 : Int) (r : Bool) (w : World) (h : spec_l1In.f a0 a1 a2 = some r) :
  Calls Try.prog 37 #[.int .i64 a0, .int .i64 a1, .int .i64 a2] w fun e w' => e = .returned (.bool r) ∧ Drawn0 w w' := by
 have H : (if a0 ≥ a1 then (some (decide (a0 ≤ a2))) else (some false)) = some r := h
 clear h
 by_cases c4 : a0 ≥ a1
 ·rw [if_pos c4] at H
  have c4b0 : decide (a1 ≤ a0) = true := decide_eq_true c4
  clear c4
  obtain rfl := Option.some.inj H
  go_enter Try.func37, Try.ntmps37
  go_wp2
  go_ret
  exact ⟨by first | rfl | (simp; done) | (simp [*]; done), by repeat (first | exact Drawn0.refl _ | apply Drawn0.step)⟩
 ·rw [if_neg c4] at H
  have c4b0 : decide (a1 ≤ a0) = false := decide_eq_false c4
  clear c4
  obtain rfl := Option.some.inj H
  go_enter Try.func37, Try.ntmps37
  go_wp2
  go_ret
  exact ⟨by first | rfl | (simp; done) | (simp [*]; done), by repeat (first | exact Drawn0.refl _ | apply Drawn0.step)⟩

/-! ### spec_KeyValid: function 54 -/
def spec_KeyValid.l0 : Nat → ByteArray → Int → Option (Bool)
 | 0, _, _ => none
 | k + 1, x0, x3 => if x3 < (x0.size : Int) then (if 0 ≤ x3 then (if (bt x0 x3) < 97 then (some false) else (if (bt x0 x3) > 122 then (some false) else (spec_KeyValid.l0 k x0 (wrap64 (x3 + 1))))) else (none)) else (some true)
def spec_KeyValid.f (k : Nat) (a0 : ByteArray) : Option (Bool) := (spec_l1In.f (a0.size : Int) 1 4).bind fun t186 => (if t186 = true then (spec_KeyValid.l0 k a0 0) else (some false))
theorem spec_KeyValid.mono_l : ∀ k, (∀ y0 y1, LeO (spec_KeyValid.l0 k y0 y1) (spec_KeyValid.l0 (k + 1) y0 y1))
 | 0 => fun _ _ r h => by simp [spec_KeyValid.l0] at h
 | k + 1 => by
  have ih0 := spec_KeyValid.mono_l k
  ·intro y0 y1
   unfold spec_KeyValid.l0
   repeat' first
   | (with_reducible exact ih0 _ _)
   | (with_reducible exact LeO.refl _)
   | (with_reducible exact LeO.none _)
   | (with_reducible refine LeO.ite ?_ ?_)
   | (with_reducible refine LeO.bind ?_ (fun _ => ?_))
   | exact ih0 _ _
   | exact LeO.none _
   | refine LeO.ite ?_ ?_
   | refine LeO.bind ?_ (fun _ => ?_)
theorem spec_KeyValid.mono : ∀ a0 k, LeO (spec_KeyValid.f k a0) (spec_KeyValid.f (k + 1) a0) := by
 intro a0 k
 have ih0 := spec_KeyValid.mono_l k
 unfold spec_KeyValid.f
 repeat' first
   | (with_reducible exact ih0 _ _)
   | (with_reducible exact LeO.refl _)
   | (with_reducible exact LeO.none _)
   | (with_reducible refine LeO.ite ?_ ?_)
   | (with_reducible refine LeO.bind ?_ (fun _ => ?_))
   | exact ih0 _ _
   | exact LeO.none _
   | refine LeO.ite ?_ ?_
   | refine LeO.bind ?_ (fun _ => ?_)
set_option maxHeartbeats 8000000 in
set_option maxRecDepth 100000 in
theorem spec_KeyValid.calls (k : Nat) (a0 : ByteArray) (r : Bool) (w : World) (h : spec_KeyValid.f k a0 = some r) :
  Calls Try.prog 54 #[.string a0] w fun e w' => e = .returned (.bool r) ∧ Drawn0 w w' := by
 have H : ((spec_l1In.f (a0.size : Int) 1 4).bind fun t186 => (if t186 = true then (spec_KeyValid.l0 k a0 0) else (some false))) = some r := h
 clear h
 replace H := Option.bind_eq_some_iff.mp H
 obtain ⟨t186, A20, H⟩ := H
 replace H : (if t186 = true then (spec_KeyValid.l0 k a0 0) else (some false)) = some r := H
 have A2 := Aside0.mk A20
 clear A20
 by_cases c3 : t186 = true
 ·subst c3
  have H1 : (spec_KeyValid.l0 k a0 0) = some r := by rw [if_pos rfl] at H; exact H
  clear H
  have H := H1
  clear H1
  have H' := Aside0.mk H
  clear H
  go_enter Try.func54, Try.ntmps54
  go_wp2_with (first | ((with_reducible refine gate_callee (f := 37) rfl ?_); refine goesL_ (some 6) rfl rfl Try.func37 (by kernel_rfl) rfl #[.int .i64 (a0.size : Int), .int .i64 1, .int .i64 4] rfl (by (try simp only [List.map_toArray, List.map_cons, List.map_nil]); first | done | rfl | (simp only [List.length_drop, List.length_take]; rfl)) ?_; (with_reducible refine (spec_l1In.calls (a0.size : Int) 1 4 true _ A2.out).mono ?_); rintro e w' ⟨rfl, ⟨nd, rfl⟩⟩; refine ⟨_, rfl, ?_⟩))
  go_loopg [3] k (fun kq v3 w' => ∃ (x3_1 : Int), v3 = .int .i64 x3_1 ∧ Aside0 (spec_KeyValid.l0 kq a0 x3_1 = some r) ∧ Aside0 (kq ≤ k) ∧ Drawn0 w w')
  case atStart => exact ⟨(0), (by first | rfl | (simp; done) | (simp [bne]; done) | (simp [*]; done)), H', ⟨Nat.le_refl _⟩, by repeat (first | exact Drawn0.refl _ | apply Drawn0.step)⟩
  case round =>
   clear H'
   try clear p2
   try clear c3
   obtain ⟨x3_1, rfl, HA, HK1, ⟨m1, rfl⟩⟩ := hrel
   cases gk with
   | zero => exact absurd HA.out (by simp [spec_KeyValid.l0])
   | succ k1 =>
    have H := HA.out
    clear HA
    simp only [spec_KeyValid.l0] at H
    by_cases c4 : x3_1 < (a0.size : Int)
    ·rw [if_pos c4] at H
     have c4b0 : decide (x3_1 < (a0.size : Int)) = true := decide_eq_true c4
     clear c4
     by_cases c5 : 0 ≤ x3_1
     ·rw [if_pos c5] at H
      have c5b0 : decide (0 ≤ x3_1) = true := decide_eq_true c5
      clear c5
      by_cases c7 : (bt a0 x3_1) < 97
      ·rw [if_pos c7] at H
       have c7b0 : decide ((bt a0 x3_1) < 97) = true := decide_eq_true c7
       clear c7
       obtain rfl := Option.some.inj H
       have p6 : 0 ≤ (x3_1 : Int) := of_decide_eq_true (by first | (with_reducible assumption) | assumption)
       have q6 : x3_1 < (a0.size : Int) := of_decide_eq_true (by first | (with_reducible assumption) | assumption)
       have hx6 := bt_at a0 x3_1
       replace p6 := eq_true p6
       replace q6 := eq_true q6
       go_wp2
       go_ret
       exact ⟨by first | rfl | (simp; done) | (simp [*]; done), by repeat (first | exact Drawn0.refl _ | apply Drawn0.step)⟩
      ·rw [if_neg c7] at H
       have c7b0 : decide ((bt a0 x3_1) < 97) = false := decide_eq_false c7
       clear c7
       by_cases c9 : (bt a0 x3_1) > 122
       ·rw [if_pos c9] at H
        have c9b0 : decide (122 < (bt a0 x3_1)) = true := decide_eq_true c9
        clear c9
        obtain rfl := Option.some.inj H
        have p6 : 0 ≤ (x3_1 : Int) := of_decide_eq_true (by first | (with_reducible assumption) | assumption)
        have q6 : x3_1 < (a0.size : Int) := of_decide_eq_true (by first | (with_reducible assumption) | assumption)
        have hx6 := bt_at a0 x3_1
        replace p6 := eq_true p6
        replace q6 := eq_true q6
        have p8 : 0 ≤ (x3_1 : Int) := of_decide_eq_true (by first | (with_reducible assumption) | assumption)
        have q8 : x3_1 < (a0.size : Int) := of_decide_eq_true (by first | (with_reducible assumption) | assumption)
        have hx8 := bt_at a0 x3_1
        replace p8 := eq_true p8
        replace q8 := eq_true q8
        go_wp2
        go_ret
        exact ⟨by first | rfl | (simp; done) | (simp [*]; done), by repeat (first | exact Drawn0.refl _ | apply Drawn0.step)⟩
       ·rw [if_neg c9] at H
        have c9b0 : decide (122 < (bt a0 x3_1)) = false := decide_eq_false c9
        clear c9
        have H' := Aside0.mk H
        clear H
        have p6 : 0 ≤ (x3_1 : Int) := of_decide_eq_true (by first | (with_reducible assumption) | assumption)
        have q6 : x3_1 < (a0.size : Int) := of_decide_eq_true (by first | (with_reducible assumption) | assumption)
        have hx6 := bt_at a0 x3_1
        replace p6 := eq_true p6
        replace q6 := eq_true q6
        have p8 : 0 ≤ (x3_1 : Int) := of_decide_eq_true (by first | (with_reducible assumption) | assumption)
        have q8 : x3_1 < (a0.size : Int) := of_decide_eq_true (by first | (with_reducible assumption) | assumption)
        have hx8 := bt_at a0 x3_1
        replace p8 := eq_true p8
        replace q8 := eq_true q8
        go_wp2
        go_roundg k1
        case measure => have := HK1.out; omega
        case rel => exact ⟨(wrap64 (x3_1 + 1)), (by first | rfl | (simp; done) | (simp [bne]; done) | (simp [*]; done)), H', ⟨by have := HK1.out; omega⟩, by repeat (first | exact Drawn0.refl _ | apply Drawn0.step)⟩
     ·rw [if_neg c5] at H
      exact absurd H (by simp)
    ·rw [if_neg c4] at H
     have c4b0 : decide (x3_1 < (a0.size : Int)) = false := decide_eq_false c4
     clear c4
     obtain rfl := Option.some.inj H
     go_wp2
     go_ret
     exact ⟨by first | rfl | (simp; done) | (simp [*]; done), by repeat (first | exact Drawn0.refl _ | apply Drawn0.step)⟩
 ·replace c3 := Bool.eq_false_iff.mpr c3
  subst c3
  have H1 : (some false) = some r := by rw [if_neg (show ¬ (false = true) by decide)] at H; exact H
  clear H
  have H := H1
  clear H1
  obtain rfl := Option.some.inj H
  go_enter Try.func54, Try.ntmps54
  go_wp2_with (first | ((with_reducible refine gate_callee (f := 37) rfl ?_); refine goesL_ (some 6) rfl rfl Try.func37 (by kernel_rfl) rfl #[.int .i64 (a0.size : Int), .int .i64 1, .int .i64 4] rfl (by (try simp only [List.map_toArray, List.map_cons, List.map_nil]); first | done | rfl | (simp only [List.length_drop, List.length_take]; rfl)) ?_; (with_reducible refine (spec_l1In.calls (a0.size : Int) 1 4 false _ A2.out).mono ?_); rintro e w' ⟨rfl, ⟨nd, rfl⟩⟩; refine ⟨_, rfl, ?_⟩))
  go_ret
  exact ⟨by first | rfl | (simp; done) | (simp [*]; done), by repeat (first | exact Drawn0.refl _ | apply Drawn0.step)⟩

/-! ### spec_IntervalValid: function 38 -/
def spec_IntervalValid.f (k : Nat) (a0_0 : ByteArray) (a0_1 : ByteArray) : Option (Bool) := if a0_0.toList = ([] : List UInt8) then (if a0_1.toList = ([] : List UInt8) then (some true) else ((spec_KeyValid.f k a0_1).bind fun t188 => (if t188 = true then (if (Op.bytesLess a0_0.toList a0_1.toList) = true then (some (a0_1.toList != ([97] : List UInt8))) else (some false)) else (some false)))) else ((spec_KeyValid.f k a0_0).bind fun t189 => (if t189 = true then (if a0_1.toList = ([] : List UInt8) then (some true) else ((spec_KeyValid.f k a0_1).bind fun t190 => (if t190 = true then (if (Op.bytesLess a0_0.toList a0_1.toList) = true then (some true) else (some false)) else (some false)))) else (some false)))
theorem spec_IntervalValid.mono : ∀ a0 a1 k, LeO (spec_IntervalValid.f k a0 a1) (spec_IntervalValid.f (k + 1) a0 a1) := by
 intro a0 a1 k
 unfold spec_IntervalValid.f
 repeat' first
   | (with_reducible exact spec_KeyValid.mono _ _)
   | (with_reducible exact LeO.refl _)
   | (with_reducible exact LeO.none _)
   | (with_reducible refine LeO.ite ?_ ?_)
   | (with_reducible refine LeO.bind ?_ (fun _ => ?_))
   | exact spec_KeyValid.mono _ _
   | exact LeO.none _
   | refine LeO.ite ?_ ?_
   | refine LeO.bind ?_ (fun _ => ?_)
set_option maxHeartbeats 8000000 in
set_option maxRecDepth 100000 in
theorem spec_IntervalValid.calls (k : Nat) (a0_0 : ByteArray) (a0_1 : ByteArray) (r : Bool) (w : World) (h : spec_IntervalValid.f k a0_0 a0_1 = some r) :
  Calls Try.prog 38 #[.agg #[.string a0_0, .string a0_1]] w fun e w' => e = .returned (.bool r) ∧ Below w.heap.size w w' := by
 have hu27 := Try.underlying27
 have HB := Aside0.mk (Below.refl w.heap.size w)
 have H : (if a0_0.toList = ([] : List UInt8) then (if a0_1.toList = ([] : List UInt8) then (some true) else ((spec_KeyValid.f k a0_1).bind fun t188 => (if t188 = true then (if (Op.bytesLess a0_0.toList a0_1.toList) = true then (some (a0_1.toList != ([97] : List UInt8))) else (some false)) else (some false)))) else ((spec_KeyValid.f k a0_0).bind fun t189 => (if t189 = true then (if a0_1.toList = ([] : List UInt8) then (some true) else ((spec_KeyValid.f k a0_1).bind fun t190 => (if t190 = true then (if (Op.bytesLess a0_0.toList a0_1.toList) = true then (some true) else (some false)) else (some false)))) else (some false)))) = some r := h
 clear h
 by_cases c2 : a0_0.toList = ([] : List UInt8)
 ·rw [if_pos c2] at H
  have c2b0 : (a0_0.toList == ([] : List UInt8)) = true := beq_iff_eq.mpr c2
  have c2b1 : (a0_0.toList != ([] : List UInt8)) = false := bne_eq_false_iff_eq.mpr c2
  clear c2
  by_cases c3 : a0_1.toList = ([] : List UInt8)
  ·rw [if_pos c3] at H
   have c3b0 : (a0_1.toList == ([] : List UInt8)) = true := beq_iff_eq.mpr c3
   have c3b1 : (a0_1.toList != ([] : List UInt8)) = false := bne_eq_false_iff_eq.mpr c3
   clear c3
   obtain rfl := Option.some.inj H
   go_enter Try.func38, Try.ntmps38
   go_wp2_with (first | ((with_reducible refine gate_dst (N := 1) rfl ?_); refine box_event ?hg (N := 1) ?hd (cs := #[.string a0_0, .string a0_1]) (t := 27) ?hr ?_; (case hd => rfl); (case hg => rfl); (case hr => first | (go_simp; done) | (go_simp; rfl)); intro gb187 hg w4 hbox hb; have n0_ := Aside0.mk (below_step (by exact hopb HB.out) hb); have n1_ := Aside0.mk (hbox); have n2_ := Aside0.mk ((by rw [hg]; exact (below_size (by exact hopb HB.out)) : w.heap.size ≤ gb187)); have n3_ := n2_; clear HB; have HB := n0_; have BK187 := n1_; have GW187 := n2_; have GE187 := n3_; clear n0_ n1_ n2_ n3_; clear hb hbox hg; have hcz5_0 : w4.cell? ⟨gb187, 0, none⟩ = some (.string a0_0) := (blk_cell BK187.out 0).trans rfl; have hcz5_1 : w4.cell? ⟨gb187, 1, none⟩ = some (.string a0_1) := (blk_cell BK187.out 1).trans rfl; have hfz5_0 := blk_frozen BK187.out 0; have hfz5_1 := blk_frozen BK187.out 1))
   go_ret
   exact ⟨by first | rfl | (simp only [u8_w_, w64_u8_] <;> rfl) | (simp [errW_none, errW_some] <;> rfl) | (simp [*, errW_none, errW_some] <;> rfl), by repeat (first | (with_reducible first | exact HB.out | apply bA | apply bN | apply bD | refine bS ?_ GE187.out) | exact HB.out)⟩
  ·rw [if_neg c3] at H
   have c3b0 : (a0_1.toList == ([] : List UInt8)) = false := beq_eq_false_iff_ne.mpr c3
   have c3b1 : (a0_1.toList != ([] : List UInt8)) = true := bne_iff_ne.mpr c3
   replace H := Option.bind_eq_some_iff.mp H
   obtain ⟨t188, A60, H⟩ := H
   replace H : (if t188 = true then (if (Op.bytesLess a0_0.toList a0_1.toList) = true then (some (a0_1.toList != ([97] : List UInt8))) else (some false)) else (some false)) = some r := H
   have A6 := Aside0.mk A60
   clear A60
   by_cases c7 : t188 = true
   ·subst c7
    have H1 : (if (Op.bytesLess a0_0.toList a0_1.toList) = true then (some (a0_1.toList != ([97] : List UInt8))) else (some false)) = some r := by rw [if_pos rfl] at H; exact H
    clear H
    have H := H1
    clear H1
    by_cases c8 : (Op.bytesLess a0_0.toList a0_1.toList) = true
    ·rw [if_pos c8] at H
     have c8b0 : (Op.bytesLess a0_0.toList a0_1.toList) = true := c8
     clear c8
     obtain rfl := Option.some.inj H
     go_enter Try.func38, Try.ntmps38
     go_wp2_with (first | ((with_reducible refine gate_dst (N := 1) rfl ?_); refine box_event ?hg (N := 1) ?hd (cs := #[.string a0_0, .string a0_1]) (t := 27) ?hr ?_; (case hd => rfl); (case hg => rfl); (case hr => first | (go_simp; done) | (go_simp; rfl)); intro gb187 hg w9 hbox hb; have n0_ := Aside0.mk (below_step (by exact hopb HB.out) hb); have n1_ := Aside0.mk (hbox); have n2_ := Aside0.mk ((by rw [hg]; exact (below_size (by exact hopb HB.out)) : w.heap.size ≤ gb187)); have n3_ := n2_; clear HB; have HB := n0_; have BK187 := n1_; have GW187 := n2_; have GE187 := n3_; clear n0_ n1_ n2_ n3_; clear hb hbox hg; have hcz10_0 : w9.cell? ⟨gb187, 0, none⟩ = some (.string a0_0) := (blk_cell BK187.out 0).trans rfl; have hcz10_1 : w9.cell? ⟨gb187, 1, none⟩ = some (.string a0_1) := (blk_cell BK187.out 1).trans rfl; have hfz10_0 := blk_frozen BK187.out 0; have hfz10_1 := blk_frozen BK187.out 1) | (go_at_call 54; (with_reducible refine (spec_KeyValid.calls k a0_1 true _ A6.out).mono ?_); rintro e w' ⟨rfl, ⟨nd, rfl⟩⟩))
     go_ret
     exact ⟨by first | rfl | (simp only [u8_w_, w64_u8_] <;> rfl) | (simp [errW_none, errW_some] <;> rfl) | (simp [*, errW_none, errW_some] <;> rfl), by repeat (first | (with_reducible first | exact HB.out | apply bA | apply bN | apply bD | refine bS ?_ GE187.out) | exact HB.out)⟩
    ·rw [if_neg c8] at H
     have c8b0 : (Op.bytesLess a0_0.toList a0_1.toList) = false := by simpa using c8
     clear c8
     obtain rfl := Option.some.inj H
     go_enter Try.func38, Try.ntmps38
     go_wp2_with (first | ((with_reducible refine gate_dst (N := 1) rfl ?_); refine box_event ?hg (N := 1) ?hd (cs := #[.string a0_0, .string a0_1]) (t := 27) ?hr ?_; (case hd => rfl); (case hg => rfl); (case hr => first | (go_simp; done) | (go_simp; rfl)); intro gb187 hg w11 hbox hb; have n0_ := Aside0.mk (below_step (by exact hopb HB.out) hb); have n1_ := Aside0.mk (hbox); have n2_ := Aside0.mk ((by rw [hg]; exact (below_size (by exact hopb HB.out)) : w.heap.size ≤ gb187)); have n3_ := n2_; clear HB; have HB := n0_; have BK187 := n1_; have GW187 := n2_; have GE187 := n3_; clear n0_ n1_ n2_ n3_; clear hb hbox hg; have hcz12_0 : w11.cell? ⟨gb187, 0, none⟩ = some (.string a0_0) := (blk_cell BK187.out 0).trans rfl; have hcz12_1 : w11.cell? ⟨gb187, 1, none⟩ = some (.string a0_1) := (blk_cell BK187.out 1).trans rfl; have hfz12_0 := blk_frozen BK187.out 0; have hfz12_1 := blk_frozen BK187.out 1) | (go_at_call 54; (with_reducible refine (spec_KeyValid.calls k a0_1 true _ A6.out).mono ?_); rintro e w' ⟨rfl, ⟨nd, rfl⟩⟩))
     go_ret
     exact ⟨by first | rfl | (simp only [u8_w_, w64_u8_] <;> rfl) | (simp [errW_none, errW_some] <;> rfl) | (simp [*, errW_none, errW_some] <;> rfl), by repeat (first | (with_reducible first | exact HB.out | apply bA | apply bN | apply bD | refine bS ?_ GE187.out) | exact HB.out)⟩
   ·replace c7 := Bool.eq_false_iff.mpr c7
    subst c7
    have H1 : (some false) = some r := by rw [if_neg (show ¬ (false = true) by decide)] at H; exact H
    clear H
    have H := H1
    clear H1
    obtain rfl := Option.some.inj H
    go_enter Try.func38, Try.ntmps38
    go_wp2_with (first | ((with_reducible refine gate_dst (N := 1) rfl ?_); refine box_event ?hg (N := 1) ?hd (cs := #[.string a0_0, .string a0_1]) (t := 27) ?hr ?_; (case hd => rfl); (case hg => rfl); (case hr => first | (go_simp; done) | (go_simp; rfl)); intro gb187 hg w13 hbox hb; have n0_ := Aside0.mk (below_step (by exact hopb HB.out) hb); have n1_ := Aside0.mk (hbox); have n2_ := Aside0.mk ((by rw [hg]; exact (below_size (by exact hopb HB.out)) : w.heap.size ≤ gb187)); have n3_ := n2_; clear HB; have HB := n0_; have BK187 := n1_; have GW187 := n2_; have GE187 := n3_; clear n0_ n1_ n2_ n3_; clear hb hbox hg; have hcz14_0 : w13.cell? ⟨gb187, 0, none⟩ = some (.string a0_0) := (blk_cell BK187.out 0).trans rfl; have hcz14_1 : w13.cell? ⟨gb187, 1, none⟩ = some (.string a0_1) := (blk_cell BK187.out 1).trans rfl; have hfz14_0 := blk_frozen BK187.out 0; have hfz14_1 := blk_frozen BK187.out 1) | (go_at_call 54; (with_reducible refine (spec_KeyValid.calls k a0_1 false _ A6.out).mono ?_); rintro e w' ⟨rfl, ⟨nd, rfl⟩⟩))
    go_ret
    exact ⟨by first | rfl | (simp only [u8_w_, w64_u8_] <;> rfl) | (simp [errW_none, errW_some] <;> rfl) | (simp [*, errW_none, errW_some] <;> rfl), by repeat (first | (with_reducible first | exact HB.out | apply bA | apply bN | apply bD | refine bS ?_ GE187.out) | exact HB.out)⟩
 ·rw [if_neg c2] at H
  have c2b0 : (a0_0.toList == ([] : List UInt8)) = false := beq_eq_false_iff_ne.mpr c2
  have c2b1 : (a0_0.toList != ([] : List UInt8)) = true := bne_iff_ne.mpr c2
  replace H := Option.bind_eq_some_iff.mp H
  obtain ⟨t189, A150, H⟩ := H
  replace H : (if t189 = true then (if a0_1.toList = ([] : List UInt8) then (some true) else ((spec_KeyValid.f k a0_1).bind fun t190 => (if t190 = true then (if (Op.bytesLess a0_0.toList a0_1.toList) = true then (some true) else (some false)) else (some false)))) else (some false)) = some r := H
  have A15 := Aside0.mk A150
  clear A150
  by_cases c16 : t189 = true
  ·subst c16
   have H1 : (if a0_1.toList = ([] : List UInt8) then (some true) else ((spec_KeyValid.f k a0_1).bind fun t190 => (if t190 = true then (if (Op.bytesLess a0_0.toList a0_1.toList) = true then (some true) else (some false)) else (some false)))) = some r := by rw [if_pos rfl] at H; exact H
   clear H
   have H := H1
   clear H1
   by_cases c17 : a0_1.toList = ([] : List UInt8)
   ·rw [if_pos c17] at H
    have c17b0 : (a0_1.toList == ([] : List UInt8)) = true := beq_iff_eq.mpr c17
    have c17b1 : (a0_1.toList != ([] : List UInt8)) = false := bne_eq_false_iff_eq.mpr c17
    clear c17
    obtain rfl := Option.some.inj H
    go_enter Try.func38, Try.ntmps38
    go_wp2_with (first | ((with_reducible refine gate_dst (N := 1) rfl ?_); refine box_event ?hg (N := 1) ?hd (cs := #[.string a0_0, .string a0_1]) (t := 27) ?hr ?_; (case hd => rfl); (case hg => rfl); (case hr => first | (go_simp; done) | (go_simp; rfl)); intro gb187 hg w18 hbox hb; have n0_ := Aside0.mk (below_step (by exact hopb HB.out) hb); have n1_ := Aside0.mk (hbox); have n2_ := Aside0.mk ((by rw [hg]; exact (below_size (by exact hopb HB.out)) : w.heap.size ≤ gb187)); have n3_ := n2_; clear HB; have HB := n0_; have BK187 := n1_; have GW187 := n2_; have GE187 := n3_; clear n0_ n1_ n2_ n3_; clear hb hbox hg; have hcz19_0 : w18.cell? ⟨gb187, 0, none⟩ = some (.string a0_0) := (blk_cell BK187.out 0).trans rfl; have hcz19_1 : w18.cell? ⟨gb187, 1, none⟩ = some (.string a0_1) := (blk_cell BK187.out 1).trans rfl; have hfz19_0 := blk_frozen BK187.out 0; have hfz19_1 := blk_frozen BK187.out 1) | (go_at_call 54; (with_reducible refine (spec_KeyValid.calls k a0_0 true _ A15.out).mono ?_); rintro e w' ⟨rfl, ⟨nd, rfl⟩⟩))
    go_ret
    exact ⟨by first | rfl | (simp only [u8_w_, w64_u8_] <;> rfl) | (simp [errW_none, errW_some] <;> rfl) | (simp [*, errW_none, errW_some] <;> rfl), by repeat (first | (with_reducible first | exact HB.out | apply bA | apply bN | apply bD | refine bS ?_ GE187.out) | exact HB.out)⟩
   ·rw [if_neg c17] at H
    have c17b0 : (a0_1.toList == ([] : List UInt8)) = false := beq_eq_false_iff_ne.mpr c17
    have c17b1 : (a0_1.toList != ([] : List UInt8)) = true := bne_iff_ne.mpr c17
    replace H := Option.bind_eq_some_iff.mp H
    obtain ⟨t190, A200, H⟩ := H
    replace H : (if t190 = true then (if (Op.bytesLess a0_0.toList a0_1.toList) = true then (some true) else (some false)) else (some false)) = some r := H
    have A20 := Aside0.mk A200
    clear A200
    by_cases c21 : t190 = true
    ·subst c21
     have H1 : (if (Op.bytesLess a0_0.toList a0_1.toList) = true then (some true) else (some false)) = some r := by rw [if_pos rfl] at H; exact H
     clear H
     have H := H1
     clear H1
     by_cases c22 : (Op.bytesLess a0_0.toList a0_1.toList) = true
     ·rw [if_pos c22] at H
      have c22b0 : (Op.bytesLess a0_0.toList a0_1.toList) = true := c22
      clear c22
      obtain rfl := Option.some.inj H
      go_enter Try.func38, Try.ntmps38
      go_wp2_with (first | ((with_reducible refine gate_dst (N := 1) rfl ?_); refine box_event ?hg (N := 1) ?hd (cs := #[.string a0_0, .string a0_1]) (t := 27) ?hr ?_; (case hd => rfl); (case hg => rfl); (case hr => first | (go_simp; done) | (go_simp; rfl)); intro gb187 hg w23 hbox hb; have n0_ := Aside0.mk (below_step (by exact hopb HB.out) hb); have n1_ := Aside0.mk (hbox); have n2_ := Aside0.mk ((by rw [hg]; exact (below_size (by exact hopb HB.out)) : w.heap.size ≤ gb187)); have n3_ := n2_; clear HB; have HB := n0_; have BK187 := n1_; have GW187 := n2_; have GE187 := n3_; clear n0_ n1_ n2_ n3_; clear hb hbox hg; have hcz24_0 : w23.cell? ⟨gb187, 0, none⟩ = some (.string a0_0) := (blk_cell BK187.out 0).trans rfl; have hcz24_1 : w23.cell? ⟨gb187, 1, none⟩ = some (.string a0_1) := (blk_cell BK187.out 1).trans rfl; have hfz24_0 := blk_frozen BK187.out 0; have hfz24_1 := blk_frozen BK187.out 1) | (go_at_call 54; (with_reducible refine (spec_KeyValid.calls k a0_0 true _ A15.out).mono ?_); rintro e w' ⟨rfl, ⟨nd, rfl⟩⟩) | (go_at_call 54; (with_reducible refine (spec_KeyValid.calls k a0_1 true _ A20.out).mono ?_); rintro e w' ⟨rfl, ⟨nd, rfl⟩⟩))
      go_ret
      exact ⟨by first | rfl | (simp only [u8_w_, w64_u8_] <;> rfl) | (simp [errW_none, errW_some] <;> rfl) | (simp [*, errW_none, errW_some] <;> rfl), by repeat (first | (with_reducible first | exact HB.out | apply bA | apply bN | apply bD | refine bS ?_ GE187.out) | exact HB.out)⟩
     ·rw [if_neg c22] at H
      have c22b0 : (Op.bytesLess a0_0.toList a0_1.toList) = false := by simpa using c22
      clear c22
      obtain rfl := Option.some.inj H
      go_enter Try.func38, Try.ntmps38
      go_wp2_with (first | ((with_reducible refine gate_dst (N := 1) rfl ?_); refine box_event ?hg (N := 1) ?hd (cs := #[.string a0_0, .string a0_1]) (t := 27) ?hr ?_; (case hd => rfl); (case hg => rfl); (case hr => first | (go_simp; done) | (go_simp; rfl)); intro gb187 hg w25 hbox hb; have n0_ := Aside0.mk (below_step (by exact hopb HB.out) hb); have n1_ := Aside0.mk (hbox); have n2_ := Aside0.mk ((by rw [hg]; exact (below_size (by exact hopb HB.out)) : w.heap.size ≤ gb187)); have n3_ := n2_; clear HB; have HB := n0_; have BK187 := n1_; have GW187 := n2_; have GE187 := n3_; clear n0_ n1_ n2_ n3_; clear hb hbox hg; have hcz26_0 : w25.cell? ⟨gb187, 0, none⟩ = some (.string a0_0) := (blk_cell BK187.out 0).trans rfl; have hcz26_1 : w25.cell? ⟨gb187, 1, none⟩ = some (.string a0_1) := (blk_cell BK187.out 1).trans rfl; have hfz26_0 := blk_frozen BK187.out 0; have hfz26_1 := blk_frozen BK187.out 1) | (go_at_call 54; (with_reducible refine (spec_KeyValid.calls k a0_0 true _ A15.out).mono ?_); rintro e w' ⟨rfl, ⟨nd, rfl⟩⟩) | (go_at_call 54; (with_reducible refine (spec_KeyValid.calls k a0_1 true _ A20.out).mono ?_); rintro e w' ⟨rfl, ⟨nd, rfl⟩⟩))
      go_ret
      exact ⟨by first | rfl | (simp only [u8_w_, w64_u8_] <;> rfl) | (simp [errW_none, errW_some] <;> rfl) | (simp [*, errW_none, errW_some] <;> rfl), by repeat (first | (with_reducible first | exact HB.out | apply bA | apply bN | apply bD | refine bS ?_ GE187.out) | exact HB.out)⟩
    ·replace c21 := Bool.eq_false_iff.mpr c21
     subst c21
     have H1 : (some false) = some r := by rw [if_neg (show ¬ (false = true) by decide)] at H; exact H
     clear H
     have H := H1
     clear H1
     obtain rfl := Option.some.inj H
     go_enter Try.func38, Try.ntmps38
     go_wp2_with (first | ((with_reducible refine gate_dst (N := 1) rfl ?_); refine box_event ?hg (N := 1) ?hd (cs := #[.string a0_0, .string a0_1]) (t := 27) ?hr ?_; (case hd => rfl); (case hg => rfl); (case hr => first | (go_simp; done) | (go_simp; rfl)); intro gb187 hg w27 hbox hb; have n0_ := Aside0.mk (below_step (by exact hopb HB.out) hb); have n1_ := Aside0.mk (hbox); have n2_ := Aside0.mk ((by rw [hg]; exact (below_size (by exact hopb HB.out)) : w.heap.size ≤ gb187)); have n3_ := n2_; clear HB; have HB := n0_; have BK187 := n1_; have GW187 := n2_; have GE187 := n3_; clear n0_ n1_ n2_ n3_; clear hb hbox hg; have hcz28_0 : w27.cell? ⟨gb187, 0, none⟩ = some (.string a0_0) := (blk_cell BK187.out 0).trans rfl; have hcz28_1 : w27.cell? ⟨gb187, 1, none⟩ = some (.string a0_1) := (blk_cell BK187.out 1).trans rfl; have hfz28_0 := blk_frozen BK187.out 0; have hfz28_1 := blk_frozen BK187.out 1) | (go_at_call 54; (with_reducible refine (spec_KeyValid.calls k a0_0 true _ A15.out).mono ?_); rintro e w' ⟨rfl, ⟨nd, rfl⟩⟩) | (go_at_call 54; (with_reducible refine (spec_KeyValid.calls k a0_1 false _ A20.out).mono ?_); rintro e w' ⟨rfl, ⟨nd, rfl⟩⟩))
     go_ret
     exact ⟨by first | rfl | (simp only [u8_w_, w64_u8_] <;> rfl) | (simp [errW_none, errW_some] <;> rfl) | (simp [*, errW_none, errW_some] <;> rfl), by repeat (first | (with_reducible first | exact HB.out | apply bA | apply bN | apply bD | refine bS ?_ GE187.out) | exact HB.out)⟩
  ·replace c16 := Bool.eq_false_iff.mpr c16
   subst c16
   have H1 : (some false) = some r := by rw [if_neg (show ¬ (false = true) by decide)] at H; exact H
   clear H
   have H := H1
   clear H1
   obtain rfl := Option.some.inj H
   go_enter Try.func38, Try.ntmps38
   go_wp2_with (first | ((with_reducible refine gate_dst (N := 1) rfl ?_); refine box_event ?hg (N := 1) ?hd (cs := #[.string a0_0, .string a0_1]) (t := 27) ?hr ?_; (case hd => rfl); (case hg => rfl); (case hr => first | (go_simp; done) | (go_simp; rfl)); intro gb187 hg w29 hbox hb; have n0_ := Aside0.mk (below_step (by exact hopb HB.out) hb); have n1_ := Aside0.mk (hbox); have n2_ := Aside0.mk ((by rw [hg]; exact (below_size (by exact hopb HB.out)) : w.heap.size ≤ gb187)); have n3_ := n2_; clear HB; have HB := n0_; have BK187 := n1_; have GW187 := n2_; have GE187 := n3_; clear n0_ n1_ n2_ n3_; clear hb hbox hg; have hcz30_0 : w29.cell? ⟨gb187, 0, none⟩ = some (.string a0_0) := (blk_cell BK187.out 0).trans rfl; have hcz30_1 : w29.cell? ⟨gb187, 1, none⟩ = some (.string a0_1) := (blk_cell BK187.out 1).trans rfl; have hfz30_0 := blk_frozen BK187.out 0; have hfz30_1 := blk_frozen BK187.out 1) | (go_at_call 54; (with_reducible refine (spec_KeyValid.calls k a0_0 false _ A15.out).mono ?_); rintro e w' ⟨rfl, ⟨nd, rfl⟩⟩))
   go_ret
   exact ⟨by first | rfl | (simp only [u8_w_, w64_u8_] <;> rfl) | (simp [errW_none, errW_some] <;> rfl) | (simp [*, errW_none, errW_some] <;> rfl), by repeat (first | (with_reducible first | exact HB.out | apply bA | apply bN | apply bD | refine bS ?_ GE187.out) | exact HB.out)⟩

end Go.Proofs.Ytohafpgcnknooaa.PFnPartitionSplit
