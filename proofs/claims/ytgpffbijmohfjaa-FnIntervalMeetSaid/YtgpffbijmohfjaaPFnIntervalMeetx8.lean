-- Written for this claim by a program of this session (wip/myprint in the proofs' repo)
import Derived.Test.YtgpffbijmohfjaaPFnIntervalMeetx0
import Derived.Test.YtgpffbijmohfjaaPFnIntervalMeetx7
namespace Go.Proofs.Ytgpffbijmohfjaa.PFnIntervalMeet
open Go.RowKit Go.Proofs.YtgpffbijmohfjaaW.PrintWords Go.Proofs.YtgpffbijmohfjaaW.PrintLast Go.Proofs.YtgpffbijmohfjaaW.PrintMore
attribute [local go_sem] max2_int min2_int max_two min_two max_three min_three max_four min_four max2_strs min2_strs   -- for this text's walks alone
set_option linter.unusedVariables false
set_option linter.unusedSimpArgs false

/-! ### spec_IntervalMeet: function 44 -/
mutual
def spec_IntervalMeet.j0 : Nat → Bool → ByteArray → ByteArray → ByteArray → ByteArray → Option (ByteArray × ByteArray × Bool)
  | 0, _, _, _, _, _ => none
  | k + 1, x14, x204000, x204001, x205000, x205001 => if x14 = true then (some ((⟨#[]⟩ : ByteArray), (⟨#[]⟩ : ByteArray), false)) else (if (Op.bytesLess x205000.toList x204000.toList) = true then (if x205001.toList = ([] : List UInt8) then (spec_IntervalMeet.j1 k false x205000 x205001 x204000 x204001) else (if x204001.toList = ([] : List UInt8) then (spec_IntervalMeet.j1 k true x205000 x205001 x204000 x204001) else (spec_IntervalMeet.j1 k (Op.bytesLess x205001.toList x204001.toList) x205000 x205001 x204000 x204001))) else (if x205000.toList = x204000.toList then (if x205001.toList = ([] : List UInt8) then (spec_IntervalMeet.j2 k false x205000 x205001 x204000 x204001) else (if x204001.toList = ([] : List UInt8) then (spec_IntervalMeet.j2 k true x205000 x205001 x204000 x204001) else (spec_IntervalMeet.j2 k (Op.bytesLess x205001.toList x204001.toList) x205000 x205001 x204000 x204001))) else (if x205001.toList = ([] : List UInt8) then (spec_IntervalMeet.j3 k false x205000 x205001 x205000 x204001) else (if x204001.toList = ([] : List UInt8) then (spec_IntervalMeet.j3 k true x205000 x205001 x205000 x204001) else (spec_IntervalMeet.j3 k (Op.bytesLess x205001.toList x204001.toList) x205000 x205001 x205000 x204001)))))
def spec_IntervalMeet.j1 : Nat → Bool → ByteArray → ByteArray → ByteArray → ByteArray → Option (ByteArray × ByteArray × Bool)
  | 0, _, _, _, _, _ => none
  | k + 1, x39, x205000, x205001, x209000, x209001 => if x39 = true then ((spec_IntervalValid.f k x209000 x205001).bind fun t209 => (if t209 = true then (some (x209000, x205001, true)) else (some ((⟨#[]⟩ : ByteArray), (⟨#[]⟩ : ByteArray), false)))) else ((spec_IntervalValid.f k x209000 x209001).bind fun t210 => (if t210 = true then (some (x209000, x209001, true)) else (some ((⟨#[]⟩ : ByteArray), (⟨#[]⟩ : ByteArray), false))))
def spec_IntervalMeet.j2 : Nat → Bool → ByteArray → ByteArray → ByteArray → ByteArray → Option (ByteArray × ByteArray × Bool)
  | 0, _, _, _, _, _ => none
  | k + 1, x39, x205000, x205001, x209000, x209001 => if x39 = true then ((spec_IntervalValid.f k x209000 x205001).bind fun t211 => (if t211 = true then (some (x209000, x205001, true)) else (some ((⟨#[]⟩ : ByteArray), (⟨#[]⟩ : ByteArray), false)))) else ((spec_IntervalValid.f k x209000 x209001).bind fun t212 => (if t212 = true then (some (x209000, x209001, true)) else (some ((⟨#[]⟩ : ByteArray), (⟨#[]⟩ : ByteArray), false))))
def spec_IntervalMeet.j3 : Nat → Bool → ByteArray → ByteArray → ByteArray → ByteArray → Option (ByteArray × ByteArray × Bool)
  | 0, _, _, _, _, _ => none
  | k + 1, x39, x205000, x205001, x209000, x209001 => if x39 = true then ((spec_IntervalValid.f k x209000 x205001).bind fun t213 => (if t213 = true then (some (x209000, x205001, true)) else (some ((⟨#[]⟩ : ByteArray), (⟨#[]⟩ : ByteArray), false)))) else ((spec_IntervalValid.f k x209000 x209001).bind fun t214 => (if t214 = true then (some (x209000, x209001, true)) else (some ((⟨#[]⟩ : ByteArray), (⟨#[]⟩ : ByteArray), false))))
end
def spec_IntervalMeet.f (k : Nat) (a0_0 : ByteArray) (a0_1 : ByteArray) (a1_0 : ByteArray) (a1_1 : ByteArray) : Option (ByteArray × ByteArray × Bool) := (spec_IntervalValid.f k a0_0 a0_1).bind fun t206 => (if t206 = true then ((spec_IntervalValid.f k a1_0 a1_1).bind fun t207 => (spec_IntervalMeet.j0 k (!t207) a0_0 a0_1 a1_0 a1_1)) else (spec_IntervalMeet.j0 k true a0_0 a0_1 a1_0 a1_1))
theorem spec_IntervalMeet.mono_l : ∀ k, (∀ y0 y1 y2 y3 y4, LeO (spec_IntervalMeet.j0 k y0 y1 y2 y3 y4) (spec_IntervalMeet.j0 (k + 1) y0 y1 y2 y3 y4)) ∧ (∀ y0 y1 y2 y3 y4, LeO (spec_IntervalMeet.j1 k y0 y1 y2 y3 y4) (spec_IntervalMeet.j1 (k + 1) y0 y1 y2 y3 y4)) ∧ (∀ y0 y1 y2 y3 y4, LeO (spec_IntervalMeet.j2 k y0 y1 y2 y3 y4) (spec_IntervalMeet.j2 (k + 1) y0 y1 y2 y3 y4)) ∧ (∀ y0 y1 y2 y3 y4, LeO (spec_IntervalMeet.j3 k y0 y1 y2 y3 y4) (spec_IntervalMeet.j3 (k + 1) y0 y1 y2 y3 y4))
  | 0 => ⟨fun _ _ _ _ _ r h => by simp [spec_IntervalMeet.j0] at h, fun _ _ _ _ _ r h => by simp [spec_IntervalMeet.j1] at h, fun _ _ _ _ _ r h => by simp [spec_IntervalMeet.j2] at h, fun _ _ _ _ _ r h => by simp [spec_IntervalMeet.j3] at h⟩
  | k + 1 => by
    obtain ⟨ih0, ih1, ih2, ih3⟩ := spec_IntervalMeet.mono_l k
    refine ⟨?_, ?_, ?_, ?_⟩
    · intro y0 y1 y2 y3 y4
      unfold spec_IntervalMeet.j0
      repeat' first
      | (with_reducible exact ih0 _ _ _ _ _)
      | (with_reducible exact ih1 _ _ _ _ _)
      | (with_reducible exact ih2 _ _ _ _ _)
      | (with_reducible exact ih3 _ _ _ _ _)
      | (with_reducible exact spec_IntervalValid.mono _ _ _)
      | (with_reducible exact LeO.refl _)
      | (with_reducible exact LeO.none _)
      | (with_reducible refine LeO.ite ?_ ?_)
      | (with_reducible refine LeO.bind ?_ (fun _ => ?_))
      | exact ih0 _ _ _ _ _
      | exact ih1 _ _ _ _ _
      | exact ih2 _ _ _ _ _
      | exact ih3 _ _ _ _ _
      | exact spec_IntervalValid.mono _ _ _
      | exact LeO.none _
      | refine LeO.ite ?_ ?_
      | refine LeO.bind ?_ (fun _ => ?_)
    · intro y0 y1 y2 y3 y4
      unfold spec_IntervalMeet.j1
      repeat' first
      | (with_reducible exact ih0 _ _ _ _ _)
      | (with_reducible exact ih1 _ _ _ _ _)
      | (with_reducible exact ih2 _ _ _ _ _)
      | (with_reducible exact ih3 _ _ _ _ _)
      | (with_reducible exact spec_IntervalValid.mono _ _ _)
      | (with_reducible exact LeO.refl _)
      | (with_reducible exact LeO.none _)
      | (with_reducible refine LeO.ite ?_ ?_)
      | (with_reducible refine LeO.bind ?_ (fun _ => ?_))
      | exact ih0 _ _ _ _ _
      | exact ih1 _ _ _ _ _
      | exact ih2 _ _ _ _ _
      | exact ih3 _ _ _ _ _
      | exact spec_IntervalValid.mono _ _ _
      | exact LeO.none _
      | refine LeO.ite ?_ ?_
      | refine LeO.bind ?_ (fun _ => ?_)
    · intro y0 y1 y2 y3 y4
      unfold spec_IntervalMeet.j2
      repeat' first
      | (with_reducible exact ih0 _ _ _ _ _)
      | (with_reducible exact ih1 _ _ _ _ _)
      | (with_reducible exact ih2 _ _ _ _ _)
      | (with_reducible exact ih3 _ _ _ _ _)
      | (with_reducible exact spec_IntervalValid.mono _ _ _)
      | (with_reducible exact LeO.refl _)
      | (with_reducible exact LeO.none _)
      | (with_reducible refine LeO.ite ?_ ?_)
      | (with_reducible refine LeO.bind ?_ (fun _ => ?_))
      | exact ih0 _ _ _ _ _
      | exact ih1 _ _ _ _ _
      | exact ih2 _ _ _ _ _
      | exact ih3 _ _ _ _ _
      | exact spec_IntervalValid.mono _ _ _
      | exact LeO.none _
      | refine LeO.ite ?_ ?_
      | refine LeO.bind ?_ (fun _ => ?_)
    · intro y0 y1 y2 y3 y4
      unfold spec_IntervalMeet.j3
      repeat' first
      | (with_reducible exact ih0 _ _ _ _ _)
      | (with_reducible exact ih1 _ _ _ _ _)
      | (with_reducible exact ih2 _ _ _ _ _)
      | (with_reducible exact ih3 _ _ _ _ _)
      | (with_reducible exact spec_IntervalValid.mono _ _ _)
      | (with_reducible exact LeO.refl _)
      | (with_reducible exact LeO.none _)
      | (with_reducible refine LeO.ite ?_ ?_)
      | (with_reducible refine LeO.bind ?_ (fun _ => ?_))
      | exact ih0 _ _ _ _ _
      | exact ih1 _ _ _ _ _
      | exact ih2 _ _ _ _ _
      | exact ih3 _ _ _ _ _
      | exact spec_IntervalValid.mono _ _ _
      | exact LeO.none _
      | refine LeO.ite ?_ ?_
      | refine LeO.bind ?_ (fun _ => ?_)
theorem spec_IntervalMeet.mono : ∀ a0 a1 a2 a3 k, LeO (spec_IntervalMeet.f k a0 a1 a2 a3) (spec_IntervalMeet.f (k + 1) a0 a1 a2 a3) := by
  intro a0 a1 a2 a3 k
  obtain ⟨ih0, ih1, ih2, ih3⟩ := spec_IntervalMeet.mono_l k
  unfold spec_IntervalMeet.f
  repeat' first
      | (with_reducible exact ih0 _ _ _ _ _)
      | (with_reducible exact ih1 _ _ _ _ _)
      | (with_reducible exact ih2 _ _ _ _ _)
      | (with_reducible exact ih3 _ _ _ _ _)
      | (with_reducible exact spec_IntervalValid.mono _ _ _)
      | (with_reducible exact LeO.refl _)
      | (with_reducible exact LeO.none _)
      | (with_reducible refine LeO.ite ?_ ?_)
      | (with_reducible refine LeO.bind ?_ (fun _ => ?_))
      | exact ih0 _ _ _ _ _
      | exact ih1 _ _ _ _ _
      | exact ih2 _ _ _ _ _
      | exact ih3 _ _ _ _ _
      | exact spec_IntervalValid.mono _ _ _
      | exact LeO.none _
      | refine LeO.ite ?_ ?_
      | refine LeO.bind ?_ (fun _ => ?_)
set_option maxHeartbeats 8000000 in
set_option maxRecDepth 100000 in
theorem spec_IntervalMeet.calls (k : Nat) (a0_0 : ByteArray) (a0_1 : ByteArray) (a1_0 : ByteArray) (a1_1 : ByteArray) (r1 : ByteArray) (r2 : ByteArray) (r3 : Bool) (w : World) (h : spec_IntervalMeet.f k a0_0 a0_1 a1_0 a1_1 = some (r1, r2, r3)) :
    Calls Try.prog 44 #[.agg #[.string a0_0, .string a0_1], .agg #[.string a1_0, .string a1_1]] w fun e w' => e = .returned (.tuple #[.agg #[.string r1, .string r2], .bool r3]) ∧ Below w.heap.size w w' := by
  have hu35 := Try.underlying35
  have HB := Aside0.mk (Below.refl w.heap.size w)
  have H : ((spec_IntervalValid.f k a0_0 a0_1).bind fun t206 => (if t206 = true then ((spec_IntervalValid.f k a1_0 a1_1).bind fun t207 => (spec_IntervalMeet.j0 k (!t207) a0_0 a0_1 a1_0 a1_1)) else (spec_IntervalMeet.j0 k true a0_0 a0_1 a1_0 a1_1))) = some (r1, r2, r3) := h
  clear h
  have HC3 := Aside0.mk H
  clear H
  go_enter Try.func44, Try.ntmps44
  go_upto_region 1 with (first | ((with_reducible refine gate_dst (N := 2) rfl ?_); refine box_event ?hg (N := 2) ?hd (cs := #[.string a0_0, .string a0_1]) (t := 35) ?hr ?_; (case hd => rfl); (case hg => rfl); (case hr => first | (go_simp; done) | (go_simp; rfl)); intro gb203 hg w4 hbox hb; have n0_ := Aside0.mk (below_step (by repeat (first | (with_reducible first | exact HB.out | apply below_alloc | apply pw_below_drewN | apply below_drew1) | exact HB.out)) hb); have n1_ := Aside0.mk (hbox); have n2_ := Aside0.mk ((by rw [hg]; exact (below_size (by repeat (first | (with_reducible first | exact HB.out | apply below_alloc | apply pw_below_drewN | apply below_drew1) | exact HB.out))) : w.heap.size ≤ gb203)); have n3_ := Aside0.mk ((by rw [hg]; exact (below_size (by repeat (first | (with_reducible first | exact HB.out | apply below_alloc | apply pw_below_drewN | apply below_drew1) | exact HB.out))) : w.heap.size ≤ gb203)); clear HB; have HB := n0_; have BK203 := n1_; have GW203 := n2_; have GE203 := n3_; clear n0_ n1_ n2_ n3_; clear hb hbox hg) | ((with_reducible refine gate_dst (N := 3) rfl ?_); refine box_event ?hg (N := 3) ?hd (cs := #[.string a1_0, .string a1_1]) (t := 35) ?hr ?_; (case hd => rfl); (case hg => rfl); (case hr => first | (go_simp; done) | (go_simp; rfl)); intro gb204 hg w5 hbox hb; have n0_ := Aside0.mk (blk_below (g := gb203) (o := .cells #[.string a0_0, .string a0_1] 35 (0, 0)) (by (with_reducible repeat (first | refine blk_drewN ?_ _ | refine blk_drew ?_ | refine blk_alloc ?_ _)); exact BK203.out) hb); have n1_ := Aside0.mk (below_step (by repeat (first | (with_reducible first | exact HB.out | apply below_alloc | apply pw_below_drewN | apply below_drew1 | refine below_set ?_ GE203.out) | exact HB.out)) hb); have n2_ := Aside0.mk (hbox); have n3_ := Aside0.mk ((by rw [hg]; exact (below_size (by repeat (first | (with_reducible first | exact HB.out | apply below_alloc | apply pw_below_drewN | apply below_drew1 | refine below_set ?_ GE203.out) | exact HB.out))) : w.heap.size ≤ gb204)); have n4_ := Aside0.mk ((by rw [hg]; exact (below_size (by repeat (first | (with_reducible first | exact HB.out | apply below_alloc | apply pw_below_drewN | apply below_drew1 | refine below_set ?_ GE203.out) | exact HB.out))) : w.heap.size ≤ gb204)); have n5_ := Aside0.mk ((by rw [hg]; exact Nat.ne_of_lt (blk_lt (g := gb203) (o := .cells #[.string a0_0, .string a0_1] 35 (0, 0)) (by (with_reducible repeat (first | refine blk_drewN ?_ _ | refine blk_drew ?_ | refine blk_alloc ?_ _)); exact BK203.out)) : gb203 ≠ gb204)); have n6_ := Aside0.mk ((by rw [hg]; exact Nat.ne_of_gt (blk_lt (g := gb203) (o := .cells #[.string a0_0, .string a0_1] 35 (0, 0)) (by (with_reducible repeat (first | refine blk_drewN ?_ _ | refine blk_drew ?_ | refine blk_alloc ?_ _)); exact BK203.out)) : gb204 ≠ gb203)); clear BK203; clear HB; have BK203 := n0_; have HB := n1_; have BK204 := n2_; have GW204 := n3_; have GE204 := n4_; have NB203_204 := n5_; have NB204_203 := n6_; clear n0_ n1_ n2_ n3_ n4_ n5_ n6_; clear hb hbox hg) | ((with_reducible refine gate_dst (N := 4) rfl ?_); refine box_event ?hg (N := 4) ?hd (cs := #[.string (⟨#[]⟩ : ByteArray), .string (⟨#[]⟩ : ByteArray)]) (t := 35) ?hr ?_; (case hd => rfl); (case hg => rfl); (case hr => first | (go_simp; done) | (go_simp; rfl)); intro gb205 hg w6 hbox hb; have n0_ := Aside0.mk (blk_below (g := gb203) (o := .cells #[.string a0_0, .string a0_1] 35 (0, 0)) (by (with_reducible repeat (first | refine blk_drewN ?_ _ | refine blk_drew ?_ | refine blk_alloc ?_ _)); exact BK203.out) hb); have n1_ := Aside0.mk (blk_below (g := gb204) (o := .cells #[.string a1_0, .string a1_1] 35 (0, 0)) (by (with_reducible repeat (first | refine blk_drewN ?_ _ | refine blk_drew ?_ | refine blk_alloc ?_ _)); exact BK204.out) hb); have n2_ := Aside0.mk (below_step (by repeat (first | (with_reducible first | exact HB.out | apply below_alloc | apply pw_below_drewN | apply below_drew1 | refine below_set ?_ GE203.out | refine below_set ?_ GE204.out) | exact HB.out)) hb); have n3_ := Aside0.mk (hbox); have n4_ := Aside0.mk ((by rw [hg]; exact (below_size (by repeat (first | (with_reducible first | exact HB.out | apply below_alloc | apply pw_below_drewN | apply below_drew1 | refine below_set ?_ GE203.out | refine below_set ?_ GE204.out) | exact HB.out))) : w.heap.size ≤ gb205)); have n5_ := Aside0.mk ((by rw [hg]; exact (below_size (by repeat (first | (with_reducible first | exact HB.out | apply below_alloc | apply pw_below_drewN | apply below_drew1 | refine below_set ?_ GE203.out | refine below_set ?_ GE204.out) | exact HB.out))) : w.heap.size ≤ gb205)); have n6_ := Aside0.mk ((by rw [hg]; exact Nat.ne_of_lt (blk_lt (g := gb203) (o := .cells #[.string a0_0, .string a0_1] 35 (0, 0)) (by (with_reducible repeat (first | refine blk_drewN ?_ _ | refine blk_drew ?_ | refine blk_alloc ?_ _)); exact BK203.out)) : gb203 ≠ gb205)); have n7_ := Aside0.mk ((by rw [hg]; exact Nat.ne_of_gt (blk_lt (g := gb203) (o := .cells #[.string a0_0, .string a0_1] 35 (0, 0)) (by (with_reducible repeat (first | refine blk_drewN ?_ _ | refine blk_drew ?_ | refine blk_alloc ?_ _)); exact BK203.out)) : gb205 ≠ gb203)); have n8_ := Aside0.mk ((by rw [hg]; exact Nat.ne_of_lt (blk_lt (g := gb204) (o := .cells #[.string a1_0, .string a1_1] 35 (0, 0)) (by (with_reducible repeat (first | refine blk_drewN ?_ _ | refine blk_drew ?_ | refine blk_alloc ?_ _)); exact BK204.out)) : gb204 ≠ gb205)); have n9_ := Aside0.mk ((by rw [hg]; exact Nat.ne_of_gt (blk_lt (g := gb204) (o := .cells #[.string a1_0, .string a1_1] 35 (0, 0)) (by (with_reducible repeat (first | refine blk_drewN ?_ _ | refine blk_drew ?_ | refine blk_alloc ?_ _)); exact BK204.out)) : gb205 ≠ gb204)); clear BK203; clear BK204; clear HB; have BK203 := n0_; have BK204 := n1_; have HB := n2_; have BK205 := n3_; have GW205 := n4_; have GE205 := n5_; have NB203_205 := n6_; have NB205_203 := n7_; have NB204_205 := n8_; have NB205_204 := n9_; clear n0_ n1_ n2_ n3_ n4_ n5_ n6_ n7_ n8_ n9_; clear hb hbox hg))
  (try simp only [Act.put, List.setIfInBounds_toArray, List.set_cons_zero, List.set_cons_succ])
  go_cut [14] (fun v14 wc => ∃ (kq : Nat) (x14_2 : Bool), v14 = .bool x14_2 ∧ Aside0 (spec_IntervalMeet.j0 kq x14_2 a0_0 a0_1 a1_0 a1_1 = some (r1, r2, r3)) ∧ Aside0 (kq ≤ k) ∧ Aside0 (wc.heap[gb203]? = some (.cells #[.string a0_0, .string a0_1] 35 (0, 0))) ∧ Aside0 (wc.heap[gb204]? = some (.cells #[.string a1_0, .string a1_1] 35 (0, 0))) ∧ Aside0 (wc.heap[gb205]? = some (.cells #[.string (⟨#[]⟩ : ByteArray), .string (⟨#[]⟩ : ByteArray)] 35 (0, 0))) ∧ Aside0 (Below w.heap.size w wc))
  case first =>
    have H := HC3.out
    clear HC3
    replace H := Option.bind_eq_some_iff.mp H
    obtain ⟨t206, A70, H⟩ := H
    replace H : (if t206 = true then ((spec_IntervalValid.f k a1_0 a1_1).bind fun t207 => (spec_IntervalMeet.j0 k (!t207) a0_0 a0_1 a1_0 a1_1)) else (spec_IntervalMeet.j0 k true a0_0 a0_1 a1_0 a1_1)) = some (r1, r2, r3) := H
    have A7 := Aside0.mk A70
    clear A70
    by_cases c8 : t206 = true
    · subst c8
      have H1 : ((spec_IntervalValid.f k a1_0 a1_1).bind fun t207 => (spec_IntervalMeet.j0 k (!t207) a0_0 a0_1 a1_0 a1_1)) = some (r1, r2, r3) := by rw [if_pos rfl] at H; exact H
      clear H
      have H := H1
      clear H1
      replace H := Option.bind_eq_some_iff.mp H
      obtain ⟨t207, A90, H⟩ := H
      replace H : (spec_IntervalMeet.j0 k (!t207) a0_0 a0_1 a1_0 a1_1) = some (r1, r2, r3) := H
      have A9 := Aside0.mk A90
      clear A90
      have H' := Aside0.mk H
      clear H
      have hnb10 := NB203_204.out
      have hnc10 := NB204_203.out
      have hnb11 := NB203_205.out
      have hnc11 := NB205_203.out
      have hcz12_0 : w6.cell? ⟨gb203, 0, none⟩ = some (.string a0_0) := (blk_cell BK203.out 0).trans rfl
      have hcz12_1 : w6.cell? ⟨gb203, 1, none⟩ = some (.string a0_1) := (blk_cell BK203.out 1).trans rfl
      have hfz12_0 := blk_frozen BK203.out 0
      have hfz12_1 := blk_frozen BK203.out 1
      go_wp2_with (first | ((with_reducible refine gate_callee (f := 29) rfl ?_); refine goesL_ (some 8) rfl rfl Try.func29 (by kernel_rfl) rfl #[.agg #[.string a0_0, .string a0_1]] rfl (by (try simp only [List.map_toArray, List.map_cons, List.map_nil]); first | done | rfl | (simp only [List.length_drop, List.length_take]; rfl)) ?_; (with_reducible refine (spec_IntervalValid.calls k a0_0 a0_1 true _ A7.out).mono ?_); rintro e w13 ⟨rfl, hb⟩; refine ⟨_, rfl, ?_⟩; have n0_ := Aside0.mk (blk_below (g := gb203) (o := .cells #[.string a0_0, .string a0_1] 35 (0, 0)) (by (with_reducible repeat (first | refine blk_drewN ?_ _ | refine blk_drew ?_ | refine blk_alloc ?_ _)); exact BK203.out) hb); have n1_ := Aside0.mk (blk_below (g := gb204) (o := .cells #[.string a1_0, .string a1_1] 35 (0, 0)) (by (with_reducible repeat (first | refine blk_drewN ?_ _ | refine blk_drew ?_ | refine blk_alloc ?_ _)); exact BK204.out) hb); have n2_ := Aside0.mk (blk_below (g := gb205) (o := .cells #[.string (⟨#[]⟩ : ByteArray), .string (⟨#[]⟩ : ByteArray)] 35 (0, 0)) (by (with_reducible repeat (first | refine blk_drewN ?_ _ | refine blk_drew ?_ | refine blk_alloc ?_ _)); exact BK205.out) hb); have n3_ := Aside0.mk (below_step (by repeat (first | (with_reducible first | exact HB.out | apply below_alloc | apply pw_below_drewN | apply below_drew1 | refine below_set ?_ GE203.out | refine below_set ?_ GE204.out | refine below_set ?_ GE205.out) | exact HB.out)) hb); clear BK203; clear BK204; clear BK205; clear HB; have BK203 := n0_; have BK204 := n1_; have BK205 := n2_; have HB := n3_; clear n0_ n1_ n2_ n3_; (try clear hb); (try clear hb2); (try clear hk); (try clear hi); have hnb14 := NB204_205.out; have hnc14 := NB205_204.out; have hcz15_0 : w13.cell? ⟨gb204, 0, none⟩ = some (.string a1_0) := (blk_cell BK204.out 0).trans rfl; have hcz15_1 : w13.cell? ⟨gb204, 1, none⟩ = some (.string a1_1) := (blk_cell BK204.out 1).trans rfl; have hfz15_0 := blk_frozen BK204.out 0; have hfz15_1 := blk_frozen BK204.out 1) | (go_at_call 29; (with_reducible refine (spec_IntervalValid.calls k a1_0 a1_1 t207 _ A9.out).mono ?_); rintro e w16 ⟨rfl, hb⟩; have n0_ := Aside0.mk (blk_below (g := gb203) (o := .cells #[.string a0_0, .string a0_1] 35 (0, 0)) (by (with_reducible repeat (first | refine blk_drewN ?_ _ | refine blk_drew ?_ | refine blk_alloc ?_ _)); exact BK203.out) hb); have n1_ := Aside0.mk (blk_below (g := gb204) (o := .cells #[.string a1_0, .string a1_1] 35 (0, 0)) (by (with_reducible repeat (first | refine blk_drewN ?_ _ | refine blk_drew ?_ | refine blk_alloc ?_ _)); exact BK204.out) hb); have n2_ := Aside0.mk (blk_below (g := gb205) (o := .cells #[.string (⟨#[]⟩ : ByteArray), .string (⟨#[]⟩ : ByteArray)] 35 (0, 0)) (by (with_reducible repeat (first | refine blk_drewN ?_ _ | refine blk_drew ?_ | refine blk_alloc ?_ _)); exact BK205.out) hb); have n3_ := Aside0.mk (below_step (by repeat (first | (with_reducible first | exact HB.out | apply below_alloc | apply pw_below_drewN | apply below_drew1 | refine below_set ?_ GE203.out | refine below_set ?_ GE204.out | refine below_set ?_ GE205.out) | exact HB.out)) hb); clear BK203; clear BK204; clear BK205; clear HB; have BK203 := n0_; have BK204 := n1_; have BK205 := n2_; have HB := n3_; clear n0_ n1_ n2_ n3_; (try clear hb); (try clear hb2); (try clear hk); (try clear hi)))
      go_meet
      case rel => exact ⟨_, (!t207), (by first | rfl | (simp; done) | (simp [bne]; done) | (simp [*]; done)), H', ⟨by first | omega | exact Nat.le_refl _⟩, ⟨by (with_reducible repeat (first | refine blk_drewN ?_ _ | refine blk_drew ?_ | refine blk_alloc ?_ _)); exact BK203.out⟩, ⟨by (with_reducible repeat (first | refine blk_drewN ?_ _ | refine blk_drew ?_ | refine blk_alloc ?_ _)); exact BK204.out⟩, ⟨by (with_reducible repeat (first | refine blk_drewN ?_ _ | refine blk_drew ?_ | refine blk_alloc ?_ _)); exact BK205.out⟩, ⟨by repeat (first | (with_reducible first | exact HB.out | apply below_alloc | apply pw_below_drewN | apply below_drew1 | refine below_set ?_ GE203.out | refine below_set ?_ GE204.out | refine below_set ?_ GE205.out) | exact HB.out)⟩⟩
    · replace c8 := Bool.eq_false_iff.mpr c8
      subst c8
      have H1 : (spec_IntervalMeet.j0 k true a0_0 a0_1 a1_0 a1_1) = some (r1, r2, r3) := by rw [if_neg (show ¬ (false = true) by decide)] at H; exact H
      clear H
      have H := H1
      clear H1
      have H' := Aside0.mk H
      clear H
      have hnb17 := NB203_204.out
      have hnc17 := NB204_203.out
      have hnb18 := NB203_205.out
      have hnc18 := NB205_203.out
      have hcz19_0 : w6.cell? ⟨gb203, 0, none⟩ = some (.string a0_0) := (blk_cell BK203.out 0).trans rfl
      have hcz19_1 : w6.cell? ⟨gb203, 1, none⟩ = some (.string a0_1) := (blk_cell BK203.out 1).trans rfl
      have hfz19_0 := blk_frozen BK203.out 0
      have hfz19_1 := blk_frozen BK203.out 1
      go_wp2_with (first | ((with_reducible refine gate_callee (f := 29) rfl ?_); refine goesL_ (some 8) rfl rfl Try.func29 (by kernel_rfl) rfl #[.agg #[.string a0_0, .string a0_1]] rfl (by (try simp only [List.map_toArray, List.map_cons, List.map_nil]); first | done | rfl | (simp only [List.length_drop, List.length_take]; rfl)) ?_; (with_reducible refine (spec_IntervalValid.calls k a0_0 a0_1 false _ A7.out).mono ?_); rintro e w20 ⟨rfl, hb⟩; refine ⟨_, rfl, ?_⟩; have n0_ := Aside0.mk (blk_below (g := gb203) (o := .cells #[.string a0_0, .string a0_1] 35 (0, 0)) (by (with_reducible repeat (first | refine blk_drewN ?_ _ | refine blk_drew ?_ | refine blk_alloc ?_ _)); exact BK203.out) hb); have n1_ := Aside0.mk (blk_below (g := gb204) (o := .cells #[.string a1_0, .string a1_1] 35 (0, 0)) (by (with_reducible repeat (first | refine blk_drewN ?_ _ | refine blk_drew ?_ | refine blk_alloc ?_ _)); exact BK204.out) hb); have n2_ := Aside0.mk (blk_below (g := gb205) (o := .cells #[.string (⟨#[]⟩ : ByteArray), .string (⟨#[]⟩ : ByteArray)] 35 (0, 0)) (by (with_reducible repeat (first | refine blk_drewN ?_ _ | refine blk_drew ?_ | refine blk_alloc ?_ _)); exact BK205.out) hb); have n3_ := Aside0.mk (below_step (by repeat (first | (with_reducible first | exact HB.out | apply below_alloc | apply pw_below_drewN | apply below_drew1 | refine below_set ?_ GE203.out | refine below_set ?_ GE204.out | refine below_set ?_ GE205.out) | exact HB.out)) hb); clear BK203; clear BK204; clear BK205; clear HB; have BK203 := n0_; have BK204 := n1_; have BK205 := n2_; have HB := n3_; clear n0_ n1_ n2_ n3_; (try clear hb); (try clear hb2); (try clear hk); (try clear hi)))
      go_meet
      case rel => exact ⟨_, (true), (by first | rfl | (simp; done) | (simp [bne]; done) | (simp [*]; done)), H', ⟨by first | omega | exact Nat.le_refl _⟩, ⟨by (with_reducible repeat (first | refine blk_drewN ?_ _ | refine blk_drew ?_ | refine blk_alloc ?_ _)); exact BK203.out⟩, ⟨by (with_reducible repeat (first | refine blk_drewN ?_ _ | refine blk_drew ?_ | refine blk_alloc ?_ _)); exact BK204.out⟩, ⟨by (with_reducible repeat (first | refine blk_drewN ?_ _ | refine blk_drew ?_ | refine blk_alloc ?_ _)); exact BK205.out⟩, ⟨by repeat (first | (with_reducible first | exact HB.out | apply below_alloc | apply pw_below_drewN | apply below_drew1 | refine below_set ?_ GE203.out | refine below_set ?_ GE204.out | refine below_set ?_ GE205.out) | exact HB.out)⟩⟩
  case rest =>
    clear HC3
    try clear c1
    try clear c2
    try clear p2
    try clear c4
    try clear c8
    try clear c10
    try clear c11
    try clear c14
    try clear c17
    try clear c18
    try clear hcz12_0
    try clear hcz12_1
    try clear hcz15_0
    try clear hcz15_1
    try clear hcz19_0
    try clear hcz19_1
    try clear hfz12_0
    try clear hfz12_1
    try clear hfz15_0
    try clear hfz15_1
    try clear hfz19_0
    try clear hfz19_1
    obtain ⟨kq, x14_2, rfl, HA, HJ2, BK203, BK204, BK205, HB⟩ := hcut
    cases kq with
    | zero => exact absurd HA.out (by simp [spec_IntervalMeet.j0])
    | succ kj2 =>
      have H := HA.out
      clear HA
      simp only [spec_IntervalMeet.j0] at H
      by_cases c21 : x14_2 = true
      · subst c21
        have H1 : (some ((⟨#[]⟩ : ByteArray), (⟨#[]⟩ : ByteArray), false)) = some (r1, r2, r3) := by rw [if_pos rfl] at H; exact H
        clear H
        have H := H1
        clear H1
        simp only [Option.some.injEq, Prod.mk.injEq] at H
        obtain ⟨rfl, rfl, rfl⟩ := H
        have hnb22 := NB205_203.out
        have hnc22 := NB203_205.out
        have hnb23 := NB205_204.out
        have hnc23 := NB204_205.out
        have hcz24_0 : wc.cell? ⟨gb205, 0, none⟩ = some (.string (⟨#[]⟩ : ByteArray)) := (blk_cell BK205.out 0).trans rfl
        have hcz24_1 : wc.cell? ⟨gb205, 1, none⟩ = some (.string (⟨#[]⟩ : ByteArray)) := (blk_cell BK205.out 1).trans rfl
        have hfz24_0 := blk_frozen BK205.out 0
        have hfz24_1 := blk_frozen BK205.out 1
        go_wp2
        refine bodyPost_ret (results_ct rfl _ _ gb205 35 #[.string (⟨#[]⟩ : ByteArray), .string (⟨#[]⟩ : ByteArray)] (0, 0) _ rfl (by (with_reducible repeat (first | refine blk_drewN ?_ _ | refine blk_drew ?_ | refine blk_alloc ?_ _)); refine blk_put (cs := #[.string (⟨#[]⟩ : ByteArray), .string (⟨#[]⟩ : ByteArray)]) ?_ 1 _ rfl; (with_reducible repeat (first | refine blk_drewN ?_ _ | refine blk_drew ?_ | refine blk_alloc ?_ _)); refine blk_put (cs := #[.string (⟨#[]⟩ : ByteArray), .string (⟨#[]⟩ : ByteArray)]) ?_ 0 _ rfl; (with_reducible repeat (first | refine blk_drewN ?_ _ | refine blk_drew ?_ | refine blk_alloc ?_ _)); exact BK205.out) Try.underlying35 rfl (by kernel_rfl)) rfl ?_
        exact ⟨by first | rfl | (simp only [u8_w_, w64_u8_]; done) | (simp only [u8_w_, w64_u8_]; rfl) | (simp [errW_none, errW_some] <;> rfl) | (simp [*, errW_none, errW_some] <;> rfl), by repeat (first | (with_reducible first | exact HB.out | apply below_alloc | apply pw_below_drewN | apply below_drew1 | refine below_set ?_ GE203.out | refine below_set ?_ GE204.out | refine below_set ?_ GE205.out) | exact HB.out)⟩
      · replace c21 := Bool.eq_false_iff.mpr c21
        subst c21
        have H1 : (if (Op.bytesLess a1_0.toList a0_0.toList) = true then (if a1_1.toList = ([] : List UInt8) then (spec_IntervalMeet.j1 kj2 false a1_0 a1_1 a0_0 a0_1) else (if a0_1.toList = ([] : List UInt8) then (spec_IntervalMeet.j1 kj2 true a1_0 a1_1 a0_0 a0_1) else (spec_IntervalMeet.j1 kj2 (Op.bytesLess a1_1.toList a0_1.toList) a1_0 a1_1 a0_0 a0_1))) else (if a1_0.toList = a0_0.toList then (if a1_1.toList = ([] : List UInt8) then (spec_IntervalMeet.j2 kj2 false a1_0 a1_1 a0_0 a0_1) else (if a0_1.toList = ([] : List UInt8) then (spec_IntervalMeet.j2 kj2 true a1_0 a1_1 a0_0 a0_1) else (spec_IntervalMeet.j2 kj2 (Op.bytesLess a1_1.toList a0_1.toList) a1_0 a1_1 a0_0 a0_1))) else (if a1_1.toList = ([] : List UInt8) then (spec_IntervalMeet.j3 kj2 false a1_0 a1_1 a1_0 a0_1) else (if a0_1.toList = ([] : List UInt8) then (spec_IntervalMeet.j3 kj2 true a1_0 a1_1 a1_0 a0_1) else (spec_IntervalMeet.j3 kj2 (Op.bytesLess a1_1.toList a0_1.toList) a1_0 a1_1 a1_0 a0_1))))) = some (r1, r2, r3) := by rw [if_neg (show ¬ (false = true) by decide)] at H; exact H
        clear H
        have H := H1
        clear H1
        by_cases c25 : (Op.bytesLess a1_0.toList a0_0.toList) = true
        · rw [if_pos c25] at H
          have c25b0 : (Op.bytesLess a1_0.toList a0_0.toList) = true := c25
          clear c25
          have HC26 := Aside0.mk H
          clear H
          have hnb27 := NB203_204.out
          have hnc27 := NB204_203.out
          have hnb28 := NB203_205.out
          have hnc28 := NB205_203.out
          have hcz29_0 : wc.cell? ⟨gb203, 0, none⟩ = some (.string a0_0) := (blk_cell BK203.out 0).trans rfl
          have hcz29_1 : wc.cell? ⟨gb203, 1, none⟩ = some (.string a0_1) := (blk_cell BK203.out 1).trans rfl
          have hfz29_0 := blk_frozen BK203.out 0
          have hfz29_1 := blk_frozen BK203.out 1
          go_upto_region 6 with (first | ((with_reducible refine gate_dst (N := 6) rfl ?_); refine box_event ?hg (N := 6) ?hd (cs := #[.string (⟨#[]⟩ : ByteArray), .string (⟨#[]⟩ : ByteArray)]) (t := 35) ?hr ?_; (case hd => rfl); (case hg => rfl); (case hr => first | (go_simp; done) | (go_simp; rfl)); intro gb208 hg w30 hbox hb; have n0_ := Aside0.mk (blk_below (g := gb203) (o := .cells #[.string a0_0, .string a0_1] 35 (0, 0)) (by (with_reducible repeat (first | refine blk_drewN ?_ _ | refine blk_drew ?_ | refine blk_alloc ?_ _)); exact BK203.out) hb); have n1_ := Aside0.mk (blk_below (g := gb204) (o := .cells #[.string a1_0, .string a1_1] 35 (0, 0)) (by (with_reducible repeat (first | refine blk_drewN ?_ _ | refine blk_drew ?_ | refine blk_alloc ?_ _)); exact BK204.out) hb); have n2_ := Aside0.mk (blk_below (g := gb205) (o := .cells #[.string (⟨#[]⟩ : ByteArray), .string (⟨#[]⟩ : ByteArray)] 35 (0, 0)) (by (with_reducible repeat (first | refine blk_drewN ?_ _ | refine blk_drew ?_ | refine blk_alloc ?_ _)); exact BK205.out) hb); have n3_ := Aside0.mk (below_step (by repeat (first | (with_reducible first | exact HB.out | apply below_alloc | apply pw_below_drewN | apply below_drew1 | refine below_set ?_ GE203.out | refine below_set ?_ GE204.out | refine below_set ?_ GE205.out) | exact HB.out)) hb); have n4_ := Aside0.mk (hbox); have n5_ := Aside0.mk ((by rw [hg]; exact (below_size (by repeat (first | (with_reducible first | exact HB.out | apply below_alloc | apply pw_below_drewN | apply below_drew1 | refine below_set ?_ GE203.out | refine below_set ?_ GE204.out | refine below_set ?_ GE205.out) | exact HB.out))) : w.heap.size ≤ gb208)); have n6_ := Aside0.mk ((by rw [hg]; exact (below_size (by repeat (first | (with_reducible first | exact HB.out | apply below_alloc | apply pw_below_drewN | apply below_drew1 | refine below_set ?_ GE203.out | refine below_set ?_ GE204.out | refine below_set ?_ GE205.out) | exact HB.out))) : w.heap.size ≤ gb208)); have n7_ := Aside0.mk ((by rw [hg]; exact Nat.ne_of_lt (blk_lt (g := gb203) (o := .cells #[.string a0_0, .string a0_1] 35 (0, 0)) (by (with_reducible repeat (first | refine blk_drewN ?_ _ | refine blk_drew ?_ | refine blk_alloc ?_ _)); exact BK203.out)) : gb203 ≠ gb208)); have n8_ := Aside0.mk ((by rw [hg]; exact Nat.ne_of_gt (blk_lt (g := gb203) (o := .cells #[.string a0_0, .string a0_1] 35 (0, 0)) (by (with_reducible repeat (first | refine blk_drewN ?_ _ | refine blk_drew ?_ | refine blk_alloc ?_ _)); exact BK203.out)) : gb208 ≠ gb203)); have n9_ := Aside0.mk ((by rw [hg]; exact Nat.ne_of_lt (blk_lt (g := gb204) (o := .cells #[.string a1_0, .string a1_1] 35 (0, 0)) (by (with_reducible repeat (first | refine blk_drewN ?_ _ | refine blk_drew ?_ | refine blk_alloc ?_ _)); exact BK204.out)) : gb204 ≠ gb208)); have n10_ := Aside0.mk ((by rw [hg]; exact Nat.ne_of_gt (blk_lt (g := gb204) (o := .cells #[.string a1_0, .string a1_1] 35 (0, 0)) (by (with_reducible repeat (first | refine blk_drewN ?_ _ | refine blk_drew ?_ | refine blk_alloc ?_ _)); exact BK204.out)) : gb208 ≠ gb204)); have n11_ := Aside0.mk ((by rw [hg]; exact Nat.ne_of_lt (blk_lt (g := gb205) (o := .cells #[.string (⟨#[]⟩ : ByteArray), .string (⟨#[]⟩ : ByteArray)] 35 (0, 0)) (by (with_reducible repeat (first | refine blk_drewN ?_ _ | refine blk_drew ?_ | refine blk_alloc ?_ _)); exact BK205.out)) : gb205 ≠ gb208)); have n12_ := Aside0.mk ((by rw [hg]; exact Nat.ne_of_gt (blk_lt (g := gb205) (o := .cells #[.string (⟨#[]⟩ : ByteArray), .string (⟨#[]⟩ : ByteArray)] 35 (0, 0)) (by (with_reducible repeat (first | refine blk_drewN ?_ _ | refine blk_drew ?_ | refine blk_alloc ?_ _)); exact BK205.out)) : gb208 ≠ gb205)); clear BK203; clear BK204; clear BK205; clear HB; have BK203 := n0_; have BK204 := n1_; have BK205 := n2_; have HB := n3_; have BK208 := n4_; have GW208 := n5_; have GE208 := n6_; have NB203_208 := n7_; have NB208_203 := n8_; have NB204_208 := n9_; have NB208_204 := n10_; have NB205_208 := n11_; have NB208_205 := n12_; clear n0_ n1_ n2_ n3_ n4_ n5_ n6_ n7_ n8_ n9_ n10_ n11_ n12_; clear hb hbox hg; have hnb31 := NB208_203.out; have hnc31 := NB203_208.out; have hnb32 := NB208_204.out; have hnc32 := NB204_208.out; have hnb33 := NB208_205.out; have hnc33 := NB205_208.out; have hcz34_0 : w30.cell? ⟨gb208, 0, none⟩ = some (.string (⟨#[]⟩ : ByteArray)) := (blk_cell BK208.out 0).trans rfl; have hcz34_1 : w30.cell? ⟨gb208, 1, none⟩ = some (.string (⟨#[]⟩ : ByteArray)) := (blk_cell BK208.out 1).trans rfl; have hfz34_0 := blk_frozen BK208.out 0; have hfz34_1 := blk_frozen BK208.out 1; have hnb35 := NB204_205.out; have hnc35 := NB205_204.out; have hcz36_0 : w30.cell? ⟨gb204, 0, none⟩ = some (.string a1_0) := (blk_cell BK204.out 0).trans rfl; have hcz36_1 : w30.cell? ⟨gb204, 1, none⟩ = some (.string a1_1) := (blk_cell BK204.out 1).trans rfl; have hfz36_0 := blk_frozen BK204.out 0; have hfz36_1 := blk_frozen BK204.out 1; have hcz37_0 : w30.cell? ⟨gb203, 0, none⟩ = some (.string a0_0) := (blk_cell BK203.out 0).trans rfl; have hcz37_1 : w30.cell? ⟨gb203, 1, none⟩ = some (.string a0_1) := (blk_cell BK203.out 1).trans rfl; have hfz37_0 := blk_frozen BK203.out 0; have hfz37_1 := blk_frozen BK203.out 1))
          (try simp only [Act.put, List.setIfInBounds_toArray, List.set_cons_zero, List.set_cons_succ])
          go_cut [39] (fun v39 wc => ∃ (kq : Nat) (x39_25 : Bool), v39 = .bool x39_25 ∧ Aside0 (spec_IntervalMeet.j1 kq x39_25 a1_0 a1_1 a0_0 a0_1 = some (r1, r2, r3)) ∧ Aside0 (kq ≤ kj2) ∧ Aside0 (wc.heap[gb203]? = some (.cells #[.string a0_0, .string a0_1] 35 (0, 0))) ∧ Aside0 (wc.heap[gb204]? = some (.cells #[.string a1_0, .string a1_1] 35 (0, 0))) ∧ Aside0 (wc.heap[gb205]? = some (.cells #[.string (⟨#[]⟩ : ByteArray), .string (⟨#[]⟩ : ByteArray)] 35 (0, 0))) ∧ Aside0 (wc.heap[gb208]? = some (.cells #[.string a0_0, .string a0_1] 35 (0, 0))) ∧ Aside0 (Below w.heap.size w wc))
          case first =>
            have H := HC26.out
            clear HC26
            by_cases c38 : a1_1.toList = ([] : List UInt8)
            · rw [if_pos c38] at H
              have c38b0 : (a1_1.toList == ([] : List UInt8)) = true := beq_iff_eq.mpr c38
              have c38b1 : (a1_1.toList != ([] : List UInt8)) = false := bne_eq_false_iff_eq.mpr c38
              clear c38
              (first | rw [c38b0] | (simp only [i64_w, i32_w]; rw [c38b0]) | skip)
              have H' := Aside0.mk H
              clear H
              have hnb39 := NB204_203.out
              have hnc39 := NB203_204.out
              have hnb40 := NB204_205.out
              have hnc40 := NB205_204.out
              have hnb41 := NB204_208.out
              have hnc41 := NB208_204.out
              have hcz42_0 : w30.cell? ⟨gb204, 0, none⟩ = some (.string a1_0) := (blk_cell BK204.out 0).trans rfl
              have hcz42_1 : w30.cell? ⟨gb204, 1, none⟩ = some (.string a1_1) := (blk_cell BK204.out 1).trans rfl
              have hfz42_0 := blk_frozen BK204.out 0
              have hfz42_1 := blk_frozen BK204.out 1
              go_wp2
              go_meet
              case rel => exact ⟨_, (false), (by first | rfl | (simp; done) | (simp [bne]; done) | (simp [*]; done)), H', ⟨by have := HJ2.out; first | omega | exact Nat.le_refl _⟩, ⟨by (with_reducible repeat (first | refine blk_drewN ?_ _ | refine blk_drew ?_ | refine blk_alloc ?_ _)); refine blk_far ?_ NB203_208.out _; (with_reducible repeat (first | refine blk_drewN ?_ _ | refine blk_drew ?_ | refine blk_alloc ?_ _)); refine blk_far ?_ NB203_208.out _; (with_reducible repeat (first | refine blk_drewN ?_ _ | refine blk_drew ?_ | refine blk_alloc ?_ _)); exact BK203.out⟩, ⟨by (with_reducible repeat (first | refine blk_drewN ?_ _ | refine blk_drew ?_ | refine blk_alloc ?_ _)); refine blk_far ?_ NB204_208.out _; (with_reducible repeat (first | refine blk_drewN ?_ _ | refine blk_drew ?_ | refine blk_alloc ?_ _)); refine blk_far ?_ NB204_208.out _; (with_reducible repeat (first | refine blk_drewN ?_ _ | refine blk_drew ?_ | refine blk_alloc ?_ _)); exact BK204.out⟩, ⟨by (with_reducible repeat (first | refine blk_drewN ?_ _ | refine blk_drew ?_ | refine blk_alloc ?_ _)); refine blk_far ?_ NB205_208.out _; (with_reducible repeat (first | refine blk_drewN ?_ _ | refine blk_drew ?_ | refine blk_alloc ?_ _)); refine blk_far ?_ NB205_208.out _; (with_reducible repeat (first | refine blk_drewN ?_ _ | refine blk_drew ?_ | refine blk_alloc ?_ _)); exact BK205.out⟩, ⟨by (with_reducible repeat (first | refine blk_drewN ?_ _ | refine blk_drew ?_ | refine blk_alloc ?_ _)); refine blk_put (cs := #[.string a0_0, .string (⟨#[]⟩ : ByteArray)]) ?_ 1 _ rfl; (with_reducible repeat (first | refine blk_drewN ?_ _ | refine blk_drew ?_ | refine blk_alloc ?_ _)); refine blk_put (cs := #[.string (⟨#[]⟩ : ByteArray), .string (⟨#[]⟩ : ByteArray)]) ?_ 0 _ rfl; (with_reducible repeat (first | refine blk_drewN ?_ _ | refine blk_drew ?_ | refine blk_alloc ?_ _)); exact BK208.out⟩, ⟨by repeat (first | (with_reducible first | exact HB.out | apply below_alloc | apply pw_below_drewN | apply below_drew1 | refine below_set ?_ GE203.out | refine below_set ?_ GE204.out | refine below_set ?_ GE205.out | refine below_set ?_ GE208.out) | exact HB.out)⟩⟩
            · rw [if_neg c38] at H
              have c38b0 : (a1_1.toList == ([] : List UInt8)) = false := beq_eq_false_iff_ne.mpr c38
              have c38b1 : (a1_1.toList != ([] : List UInt8)) = true := bne_iff_ne.mpr c38
              (first | rw [c38b0] | (simp only [i64_w, i32_w]; rw [c38b0]) | skip)
              by_cases c43 : a0_1.toList = ([] : List UInt8)
              · rw [if_pos c43] at H
                have c43b0 : (a0_1.toList == ([] : List UInt8)) = true := beq_iff_eq.mpr c43
                have c43b1 : (a0_1.toList != ([] : List UInt8)) = false := bne_eq_false_iff_eq.mpr c43
                clear c43
                have H' := Aside0.mk H
                clear H
                have hnb44 := NB204_203.out
                have hnc44 := NB203_204.out
                have hnb45 := NB204_205.out
                have hnc45 := NB205_204.out
                have hnb46 := NB204_208.out
                have hnc46 := NB208_204.out
                have hcz47_0 : w30.cell? ⟨gb204, 0, none⟩ = some (.string a1_0) := (blk_cell BK204.out 0).trans rfl
                have hcz47_1 : w30.cell? ⟨gb204, 1, none⟩ = some (.string a1_1) := (blk_cell BK204.out 1).trans rfl
                have hfz47_0 := blk_frozen BK204.out 0
                have hfz47_1 := blk_frozen BK204.out 1
                have hnb48 := NB203_205.out
                have hnc48 := NB205_203.out
                have hnb49 := NB203_208.out
                have hnc49 := NB208_203.out
                have hcz50_0 : w30.cell? ⟨gb203, 0, none⟩ = some (.string a0_0) := (blk_cell BK203.out 0).trans rfl
                have hcz50_1 : w30.cell? ⟨gb203, 1, none⟩ = some (.string a0_1) := (blk_cell BK203.out 1).trans rfl
                have hfz50_0 := blk_frozen BK203.out 0
                have hfz50_1 := blk_frozen BK203.out 1
                go_wp2
                go_meet
                case rel => exact ⟨_, (true), (by first | rfl | (simp; done) | (simp [bne]; done) | (simp [*]; done)), H', ⟨by have := HJ2.out; first | omega | exact Nat.le_refl _⟩, ⟨by (with_reducible repeat (first | refine blk_drewN ?_ _ | refine blk_drew ?_ | refine blk_alloc ?_ _)); refine blk_far ?_ NB203_208.out _; (with_reducible repeat (first | refine blk_drewN ?_ _ | refine blk_drew ?_ | refine blk_alloc ?_ _)); refine blk_far ?_ NB203_208.out _; (with_reducible repeat (first | refine blk_drewN ?_ _ | refine blk_drew ?_ | refine blk_alloc ?_ _)); exact BK203.out⟩, ⟨by (with_reducible repeat (first | refine blk_drewN ?_ _ | refine blk_drew ?_ | refine blk_alloc ?_ _)); refine blk_far ?_ NB204_208.out _; (with_reducible repeat (first | refine blk_drewN ?_ _ | refine blk_drew ?_ | refine blk_alloc ?_ _)); refine blk_far ?_ NB204_208.out _; (with_reducible repeat (first | refine blk_drewN ?_ _ | refine blk_drew ?_ | refine blk_alloc ?_ _)); exact BK204.out⟩, ⟨by (with_reducible repeat (first | refine blk_drewN ?_ _ | refine blk_drew ?_ | refine blk_alloc ?_ _)); refine blk_far ?_ NB205_208.out _; (with_reducible repeat (first | refine blk_drewN ?_ _ | refine blk_drew ?_ | refine blk_alloc ?_ _)); refine blk_far ?_ NB205_208.out _; (with_reducible repeat (first | refine blk_drewN ?_ _ | refine blk_drew ?_ | refine blk_alloc ?_ _)); exact BK205.out⟩, ⟨by (with_reducible repeat (first | refine blk_drewN ?_ _ | refine blk_drew ?_ | refine blk_alloc ?_ _)); refine blk_put (cs := #[.string a0_0, .string (⟨#[]⟩ : ByteArray)]) ?_ 1 _ rfl; (with_reducible repeat (first | refine blk_drewN ?_ _ | refine blk_drew ?_ | refine blk_alloc ?_ _)); refine blk_put (cs := #[.string (⟨#[]⟩ : ByteArray), .string (⟨#[]⟩ : ByteArray)]) ?_ 0 _ rfl; (with_reducible repeat (first | refine blk_drewN ?_ _ | refine blk_drew ?_ | refine blk_alloc ?_ _)); exact BK208.out⟩, ⟨by repeat (first | (with_reducible first | exact HB.out | apply below_alloc | apply pw_below_drewN | apply below_drew1 | refine below_set ?_ GE203.out | refine below_set ?_ GE204.out | refine below_set ?_ GE205.out | refine below_set ?_ GE208.out) | exact HB.out)⟩⟩
              · rw [if_neg c43] at H
                have c43b0 : (a0_1.toList == ([] : List UInt8)) = false := beq_eq_false_iff_ne.mpr c43
                have c43b1 : (a0_1.toList != ([] : List UInt8)) = true := bne_iff_ne.mpr c43
                have H' := Aside0.mk H
                clear H
                have hnb51 := NB204_203.out
                have hnc51 := NB203_204.out
                have hnb52 := NB204_205.out
                have hnc52 := NB205_204.out
                have hnb53 := NB204_208.out
                have hnc53 := NB208_204.out
                have hcz54_0 : w30.cell? ⟨gb204, 0, none⟩ = some (.string a1_0) := (blk_cell BK204.out 0).trans rfl
                have hcz54_1 : w30.cell? ⟨gb204, 1, none⟩ = some (.string a1_1) := (blk_cell BK204.out 1).trans rfl
                have hfz54_0 := blk_frozen BK204.out 0
                have hfz54_1 := blk_frozen BK204.out 1
                have hnb55 := NB203_205.out
                have hnc55 := NB205_203.out
                have hnb56 := NB203_208.out
                have hnc56 := NB208_203.out
                have hcz57_0 : w30.cell? ⟨gb203, 0, none⟩ = some (.string a0_0) := (blk_cell BK203.out 0).trans rfl
                have hcz57_1 : w30.cell? ⟨gb203, 1, none⟩ = some (.string a0_1) := (blk_cell BK203.out 1).trans rfl
                have hfz57_0 := blk_frozen BK203.out 0
                have hfz57_1 := blk_frozen BK203.out 1
                go_wp2
                go_meet
                case rel => exact ⟨_, ((Op.bytesLess a1_1.toList a0_1.toList)), (by first | rfl | (simp; done) | (simp [bne]; done) | (simp [*]; done)), H', ⟨by have := HJ2.out; first | omega | exact Nat.le_refl _⟩, ⟨by (with_reducible repeat (first | refine blk_drewN ?_ _ | refine blk_drew ?_ | refine blk_alloc ?_ _)); refine blk_far ?_ NB203_208.out _; (with_reducible repeat (first | refine blk_drewN ?_ _ | refine blk_drew ?_ | refine blk_alloc ?_ _)); refine blk_far ?_ NB203_208.out _; (with_reducible repeat (first | refine blk_drewN ?_ _ | refine blk_drew ?_ | refine blk_alloc ?_ _)); exact BK203.out⟩, ⟨by (with_reducible repeat (first | refine blk_drewN ?_ _ | refine blk_drew ?_ | refine blk_alloc ?_ _)); refine blk_far ?_ NB204_208.out _; (with_reducible repeat (first | refine blk_drewN ?_ _ | refine blk_drew ?_ | refine blk_alloc ?_ _)); refine blk_far ?_ NB204_208.out _; (with_reducible repeat (first | refine blk_drewN ?_ _ | refine blk_drew ?_ | refine blk_alloc ?_ _)); exact BK204.out⟩, ⟨by (with_reducible repeat (first | refine blk_drewN ?_ _ | refine blk_drew ?_ | refine blk_alloc ?_ _)); refine blk_far ?_ NB205_208.out _; (with_reducible repeat (first | refine blk_drewN ?_ _ | refine blk_drew ?_ | refine blk_alloc ?_ _)); refine blk_far ?_ NB205_208.out _; (with_reducible repeat (first | refine blk_drewN ?_ _ | refine blk_drew ?_ | refine blk_alloc ?_ _)); exact BK205.out⟩, ⟨by (with_reducible repeat (first | refine blk_drewN ?_ _ | refine blk_drew ?_ | refine blk_alloc ?_ _)); refine blk_put (cs := #[.string a0_0, .string (⟨#[]⟩ : ByteArray)]) ?_ 1 _ rfl; (with_reducible repeat (first | refine blk_drewN ?_ _ | refine blk_drew ?_ | refine blk_alloc ?_ _)); refine blk_put (cs := #[.string (⟨#[]⟩ : ByteArray), .string (⟨#[]⟩ : ByteArray)]) ?_ 0 _ rfl; (with_reducible repeat (first | refine blk_drewN ?_ _ | refine blk_drew ?_ | refine blk_alloc ?_ _)); exact BK208.out⟩, ⟨by repeat (first | (with_reducible first | exact HB.out | apply below_alloc | apply pw_below_drewN | apply below_drew1 | refine below_set ?_ GE203.out | refine below_set ?_ GE204.out | refine below_set ?_ GE205.out | refine below_set ?_ GE208.out) | exact HB.out)⟩⟩
          case rest =>
            clear HC26
            try clear c1
            try clear c2
            try clear p2
            try clear c3
            try clear c4
            try clear c5
            try clear c8
            try clear c10
            try clear c11
            try clear c14
            try clear c17
            try clear c18
            try clear c21
            try clear c22
            try clear c23
            try clear c25
            try clear c25b0
            try clear c27
            try clear c28
            try clear c29
            try clear c31
            try clear c32
            try clear c33
            try clear c35
            try clear c38
            try clear c38b0
            try clear c38b1
            try clear c39
            try clear c40
            try clear c41
            try clear c43
            try clear c43b0
            try clear c43b1
            try clear c44
            try clear c45
            try clear c46
            try clear c48
            try clear c49
            try clear c51
            try clear c52
            try clear c53
            try clear c55
            try clear c56
            try clear hcz12_0
            try clear hcz12_1
            try clear hcz15_0
            try clear hcz15_1
            try clear hcz19_0
            try clear hcz19_1
            try clear hcz24_0
            try clear hcz24_1
            try clear hcz29_0
            try clear hcz29_1
            try clear hcz34_0
            try clear hcz34_1
            try clear hcz36_0
            try clear hcz36_1
            try clear hcz37_0
            try clear hcz37_1
            try clear hcz42_0
            try clear hcz42_1
            try clear hcz47_0
            try clear hcz47_1
            try clear hcz50_0
            try clear hcz50_1
            try clear hcz54_0
            try clear hcz54_1
            try clear hcz57_0
            try clear hcz57_1
            try clear hfz12_0
            try clear hfz12_1
            try clear hfz15_0
            try clear hfz15_1
            try clear hfz19_0
            try clear hfz19_1
            try clear hfz24_0
            try clear hfz24_1
            try clear hfz29_0
            try clear hfz29_1
            try clear hfz34_0
            try clear hfz34_1
            try clear hfz36_0
            try clear hfz36_1
            try clear hfz37_0
            try clear hfz37_1
            try clear hfz42_0
            try clear hfz42_1
            try clear hfz47_0
            try clear hfz47_1
            try clear hfz50_0
            try clear hfz50_1
            try clear hfz54_0
            try clear hfz54_1
            try clear hfz57_0
            try clear hfz57_1
            try clear p2
            obtain ⟨kq, x39_25, rfl, HA, HJ25, BK203, BK204, BK205, BK208, HB⟩ := hcut
            cases kq with
            | zero => exact absurd HA.out (by simp [spec_IntervalMeet.j1])
            | succ kj25 =>
              have H := HA.out
              clear HA
              simp only [spec_IntervalMeet.j1] at H
              by_cases c58 : x39_25 = true
              · subst c58
                have H1 : ((spec_IntervalValid.f kj25 a0_0 a1_1).bind fun t209 => (if t209 = true then (some (a0_0, a1_1, true)) else (some ((⟨#[]⟩ : ByteArray), (⟨#[]⟩ : ByteArray), false)))) = some (r1, r2, r3) := by rw [if_pos rfl] at H; exact H
                clear H
                have H := H1
                clear H1
                replace H := Option.bind_eq_some_iff.mp H
                obtain ⟨t209, A590, H⟩ := H
                replace H : (if t209 = true then (some (a0_0, a1_1, true)) else (some ((⟨#[]⟩ : ByteArray), (⟨#[]⟩ : ByteArray), false))) = some (r1, r2, r3) := H
                have A59 := Aside0.mk A590
                clear A590
                by_cases c60 : t209 = true
                · subst c60
                  have H1 : (some (a0_0, a1_1, true)) = some (r1, r2, r3) := by rw [if_pos rfl] at H; exact H
                  clear H
                  have H := H1
                  clear H1
                  simp only [Option.some.injEq, Prod.mk.injEq] at H
                  obtain ⟨rfl, rfl, rfl⟩ := H
                  have hnb61 := NB204_203.out
                  have hnc61 := NB203_204.out
                  have hnb62 := NB204_205.out
                  have hnc62 := NB205_204.out
                  have hnb63 := NB204_208.out
                  have hnc63 := NB208_204.out
                  have hcz64_0 : wc.cell? ⟨gb204, 0, none⟩ = some (.string a1_0) := (blk_cell BK204.out 0).trans rfl
                  have hcz64_1 : wc.cell? ⟨gb204, 1, none⟩ = some (.string a1_1) := (blk_cell BK204.out 1).trans rfl
                  have hfz64_0 := blk_frozen BK204.out 0
                  have hfz64_1 := blk_frozen BK204.out 1
                  have hnb65 := NB208_203.out
                  have hnc65 := NB203_208.out
                  have hnb66 := NB208_205.out
                  have hnc66 := NB205_208.out
                  have hcz67_0 : wc.cell? ⟨gb208, 0, none⟩ = some (.string a0_0) := (blk_cell BK208.out 0).trans rfl
                  have hcz67_1 : wc.cell? ⟨gb208, 1, none⟩ = some (.string a0_1) := (blk_cell BK208.out 1).trans rfl
                  have hfz67_0 := blk_frozen BK208.out 0
                  have hfz67_1 := blk_frozen BK208.out 1
                  go_wp2_with (first | ((with_reducible refine gate_callee (f := 29) rfl ?_); refine goesL_ (some 44) rfl rfl Try.func29 (by kernel_rfl) rfl #[.agg #[.string a0_0, .string a1_1]] rfl (by (try simp only [List.map_toArray, List.map_cons, List.map_nil]); first | done | rfl | (simp only [List.length_drop, List.length_take]; rfl)) ?_; (with_reducible refine (spec_IntervalValid.calls kj25 a0_0 a1_1 true _ A59.out).mono ?_); rintro e w68 ⟨rfl, hb⟩; refine ⟨_, rfl, ?_⟩; have n0_ := Aside0.mk (blk_below (g := gb203) (o := .cells #[.string a0_0, .string a0_1] 35 (0, 0)) (by (with_reducible repeat (first | refine blk_drewN ?_ _ | refine blk_drew ?_ | refine blk_alloc ?_ _)); refine blk_far ?_ NB203_208.out _; (with_reducible repeat (first | refine blk_drewN ?_ _ | refine blk_drew ?_ | refine blk_alloc ?_ _)); exact BK203.out) hb); have n1_ := Aside0.mk (blk_below (g := gb204) (o := .cells #[.string a1_0, .string a1_1] 35 (0, 0)) (by (with_reducible repeat (first | refine blk_drewN ?_ _ | refine blk_drew ?_ | refine blk_alloc ?_ _)); refine blk_far ?_ NB204_208.out _; (with_reducible repeat (first | refine blk_drewN ?_ _ | refine blk_drew ?_ | refine blk_alloc ?_ _)); exact BK204.out) hb); have n2_ := Aside0.mk (blk_below (g := gb205) (o := .cells #[.string (⟨#[]⟩ : ByteArray), .string (⟨#[]⟩ : ByteArray)] 35 (0, 0)) (by (with_reducible repeat (first | refine blk_drewN ?_ _ | refine blk_drew ?_ | refine blk_alloc ?_ _)); refine blk_far ?_ NB205_208.out _; (with_reducible repeat (first | refine blk_drewN ?_ _ | refine blk_drew ?_ | refine blk_alloc ?_ _)); exact BK205.out) hb); have n3_ := Aside0.mk (blk_below (g := gb208) (o := .cells #[.string a0_0, .string a1_1] 35 (0, 0)) (by (with_reducible repeat (first | refine blk_drewN ?_ _ | refine blk_drew ?_ | refine blk_alloc ?_ _)); refine blk_put (cs := #[.string a0_0, .string a0_1]) ?_ 1 _ rfl; (with_reducible repeat (first | refine blk_drewN ?_ _ | refine blk_drew ?_ | refine blk_alloc ?_ _)); exact BK208.out) hb); have n4_ := Aside0.mk (below_step (by repeat (first | (with_reducible first | exact HB.out | apply below_alloc | apply pw_below_drewN | apply below_drew1 | refine below_set ?_ GE203.out | refine below_set ?_ GE204.out | refine below_set ?_ GE205.out | refine below_set ?_ GE208.out) | exact HB.out)) hb); clear BK203; clear BK204; clear BK205; clear BK208; clear HB; have BK203 := n0_; have BK204 := n1_; have BK205 := n2_; have BK208 := n3_; have HB := n4_; clear n0_ n1_ n2_ n3_ n4_; (try clear hb); (try clear hb2); (try clear hk); (try clear hi); have hcz69_0 : w68.cell? ⟨gb208, 0, none⟩ = some (.string a0_0) := (blk_cell BK208.out 0).trans rfl; have hcz69_1 : w68.cell? ⟨gb208, 1, none⟩ = some (.string a1_1) := (blk_cell BK208.out 1).trans rfl; have hfz69_0 := blk_frozen BK208.out 0; have hfz69_1 := blk_frozen BK208.out 1; have hnb70 := NB205_203.out; have hnc70 := NB203_205.out; have hcz71_0 : w68.cell? ⟨gb205, 0, none⟩ = some (.string (⟨#[]⟩ : ByteArray)) := (blk_cell BK205.out 0).trans rfl; have hcz71_1 : w68.cell? ⟨gb205, 1, none⟩ = some (.string (⟨#[]⟩ : ByteArray)) := (blk_cell BK205.out 1).trans rfl; have hfz71_0 := blk_frozen BK205.out 0; have hfz71_1 := blk_frozen BK205.out 1))
                  refine bodyPost_ret (results_ct rfl _ _ gb205 35 #[.string a0_0, .string a1_1] (0, 0) _ rfl (by (with_reducible repeat (first | refine blk_drewN ?_ _ | refine blk_drew ?_ | refine blk_alloc ?_ _)); refine blk_put (cs := #[.string a0_0, .string (⟨#[]⟩ : ByteArray)]) ?_ 1 _ rfl; (with_reducible repeat (first | refine blk_drewN ?_ _ | refine blk_drew ?_ | refine blk_alloc ?_ _)); refine blk_put (cs := #[.string (⟨#[]⟩ : ByteArray), .string (⟨#[]⟩ : ByteArray)]) ?_ 0 _ rfl; (with_reducible repeat (first | refine blk_drewN ?_ _ | refine blk_drew ?_ | refine blk_alloc ?_ _)); exact BK205.out) Try.underlying35 rfl (by kernel_rfl)) rfl ?_
                  exact ⟨by first | rfl | (simp only [u8_w_, w64_u8_]; done) | (simp only [u8_w_, w64_u8_]; rfl) | (simp [errW_none, errW_some] <;> rfl) | (simp [*, errW_none, errW_some] <;> rfl), by repeat (first | (with_reducible first | exact HB.out | apply below_alloc | apply pw_below_drewN | apply below_drew1 | refine below_set ?_ GE203.out | refine below_set ?_ GE204.out | refine below_set ?_ GE205.out | refine below_set ?_ GE208.out) | exact HB.out)⟩
                · replace c60 := Bool.eq_false_iff.mpr c60
                  subst c60
                  have H1 : (some ((⟨#[]⟩ : ByteArray), (⟨#[]⟩ : ByteArray), false)) = some (r1, r2, r3) := by rw [if_neg (show ¬ (false = true) by decide)] at H; exact H
                  clear H
                  have H := H1
                  clear H1
                  simp only [Option.some.injEq, Prod.mk.injEq] at H
                  obtain ⟨rfl, rfl, rfl⟩ := H
                  have hnb72 := NB204_203.out
                  have hnc72 := NB203_204.out
                  have hnb73 := NB204_205.out
                  have hnc73 := NB205_204.out
                  have hnb74 := NB204_208.out
                  have hnc74 := NB208_204.out
                  have hcz75_0 : wc.cell? ⟨gb204, 0, none⟩ = some (.string a1_0) := (blk_cell BK204.out 0).trans rfl
                  have hcz75_1 : wc.cell? ⟨gb204, 1, none⟩ = some (.string a1_1) := (blk_cell BK204.out 1).trans rfl
                  have hfz75_0 := blk_frozen BK204.out 0
                  have hfz75_1 := blk_frozen BK204.out 1
                  have hnb76 := NB208_203.out
                  have hnc76 := NB203_208.out
                  have hnb77 := NB208_205.out
                  have hnc77 := NB205_208.out
                  have hcz78_0 : wc.cell? ⟨gb208, 0, none⟩ = some (.string a0_0) := (blk_cell BK208.out 0).trans rfl
                  have hcz78_1 : wc.cell? ⟨gb208, 1, none⟩ = some (.string a0_1) := (blk_cell BK208.out 1).trans rfl
                  have hfz78_0 := blk_frozen BK208.out 0
                  have hfz78_1 := blk_frozen BK208.out 1
                  go_wp2_with (first | ((with_reducible refine gate_callee (f := 29) rfl ?_); refine goesL_ (some 44) rfl rfl Try.func29 (by kernel_rfl) rfl #[.agg #[.string a0_0, .string a1_1]] rfl (by (try simp only [List.map_toArray, List.map_cons, List.map_nil]); first | done | rfl | (simp only [List.length_drop, List.length_take]; rfl)) ?_; (with_reducible refine (spec_IntervalValid.calls kj25 a0_0 a1_1 false _ A59.out).mono ?_); rintro e w79 ⟨rfl, hb⟩; refine ⟨_, rfl, ?_⟩; have n0_ := Aside0.mk (blk_below (g := gb203) (o := .cells #[.string a0_0, .string a0_1] 35 (0, 0)) (by (with_reducible repeat (first | refine blk_drewN ?_ _ | refine blk_drew ?_ | refine blk_alloc ?_ _)); refine blk_far ?_ NB203_208.out _; (with_reducible repeat (first | refine blk_drewN ?_ _ | refine blk_drew ?_ | refine blk_alloc ?_ _)); exact BK203.out) hb); have n1_ := Aside0.mk (blk_below (g := gb204) (o := .cells #[.string a1_0, .string a1_1] 35 (0, 0)) (by (with_reducible repeat (first | refine blk_drewN ?_ _ | refine blk_drew ?_ | refine blk_alloc ?_ _)); refine blk_far ?_ NB204_208.out _; (with_reducible repeat (first | refine blk_drewN ?_ _ | refine blk_drew ?_ | refine blk_alloc ?_ _)); exact BK204.out) hb); have n2_ := Aside0.mk (blk_below (g := gb205) (o := .cells #[.string (⟨#[]⟩ : ByteArray), .string (⟨#[]⟩ : ByteArray)] 35 (0, 0)) (by (with_reducible repeat (first | refine blk_drewN ?_ _ | refine blk_drew ?_ | refine blk_alloc ?_ _)); refine blk_far ?_ NB205_208.out _; (with_reducible repeat (first | refine blk_drewN ?_ _ | refine blk_drew ?_ | refine blk_alloc ?_ _)); exact BK205.out) hb); have n3_ := Aside0.mk (blk_below (g := gb208) (o := .cells #[.string a0_0, .string a1_1] 35 (0, 0)) (by (with_reducible repeat (first | refine blk_drewN ?_ _ | refine blk_drew ?_ | refine blk_alloc ?_ _)); refine blk_put (cs := #[.string a0_0, .string a0_1]) ?_ 1 _ rfl; (with_reducible repeat (first | refine blk_drewN ?_ _ | refine blk_drew ?_ | refine blk_alloc ?_ _)); exact BK208.out) hb); have n4_ := Aside0.mk (below_step (by repeat (first | (with_reducible first | exact HB.out | apply below_alloc | apply pw_below_drewN | apply below_drew1 | refine below_set ?_ GE203.out | refine below_set ?_ GE204.out | refine below_set ?_ GE205.out | refine below_set ?_ GE208.out) | exact HB.out)) hb); clear BK203; clear BK204; clear BK205; clear BK208; clear HB; have BK203 := n0_; have BK204 := n1_; have BK205 := n2_; have BK208 := n3_; have HB := n4_; clear n0_ n1_ n2_ n3_ n4_; (try clear hb); (try clear hb2); (try clear hk); (try clear hi); have hnb80 := NB205_203.out; have hnc80 := NB203_205.out; have hcz81_0 : w79.cell? ⟨gb205, 0, none⟩ = some (.string (⟨#[]⟩ : ByteArray)) := (blk_cell BK205.out 0).trans rfl; have hcz81_1 : w79.cell? ⟨gb205, 1, none⟩ = some (.string (⟨#[]⟩ : ByteArray)) := (blk_cell BK205.out 1).trans rfl; have hfz81_0 := blk_frozen BK205.out 0; have hfz81_1 := blk_frozen BK205.out 1))
                  refine bodyPost_ret (results_ct rfl _ _ gb205 35 #[.string (⟨#[]⟩ : ByteArray), .string (⟨#[]⟩ : ByteArray)] (0, 0) _ rfl (by (with_reducible repeat (first | refine blk_drewN ?_ _ | refine blk_drew ?_ | refine blk_alloc ?_ _)); refine blk_put (cs := #[.string (⟨#[]⟩ : ByteArray), .string (⟨#[]⟩ : ByteArray)]) ?_ 1 _ rfl; (with_reducible repeat (first | refine blk_drewN ?_ _ | refine blk_drew ?_ | refine blk_alloc ?_ _)); refine blk_put (cs := #[.string (⟨#[]⟩ : ByteArray), .string (⟨#[]⟩ : ByteArray)]) ?_ 0 _ rfl; (with_reducible repeat (first | refine blk_drewN ?_ _ | refine blk_drew ?_ | refine blk_alloc ?_ _)); exact BK205.out) Try.underlying35 rfl (by kernel_rfl)) rfl ?_
                  exact ⟨by first | rfl | (simp only [u8_w_, w64_u8_]; done) | (simp only [u8_w_, w64_u8_]; rfl) | (simp [errW_none, errW_some] <;> rfl) | (simp [*, errW_none, errW_some] <;> rfl), by repeat (first | (with_reducible first | exact HB.out | apply below_alloc | apply pw_below_drewN | apply below_drew1 | refine below_set ?_ GE203.out | refine below_set ?_ GE204.out | refine below_set ?_ GE205.out | refine below_set ?_ GE208.out) | exact HB.out)⟩
              · replace c58 := Bool.eq_false_iff.mpr c58
                subst c58
                have H1 : ((spec_IntervalValid.f kj25 a0_0 a0_1).bind fun t210 => (if t210 = true then (some (a0_0, a0_1, true)) else (some ((⟨#[]⟩ : ByteArray), (⟨#[]⟩ : ByteArray), false)))) = some (r1, r2, r3) := by rw [if_neg (show ¬ (false = true) by decide)] at H; exact H
                clear H
                have H := H1
                clear H1
                replace H := Option.bind_eq_some_iff.mp H
                obtain ⟨t210, A820, H⟩ := H
                replace H : (if t210 = true then (some (a0_0, a0_1, true)) else (some ((⟨#[]⟩ : ByteArray), (⟨#[]⟩ : ByteArray), false))) = some (r1, r2, r3) := H
                have A82 := Aside0.mk A820
                clear A820
                by_cases c83 : t210 = true
                · subst c83
                  have H1 : (some (a0_0, a0_1, true)) = some (r1, r2, r3) := by rw [if_pos rfl] at H; exact H
                  clear H
                  have H := H1
                  clear H1
                  simp only [Option.some.injEq, Prod.mk.injEq] at H
                  obtain ⟨rfl, rfl, rfl⟩ := H
                  have hnb84 := NB208_203.out
                  have hnc84 := NB203_208.out
                  have hnb85 := NB208_204.out
                  have hnc85 := NB204_208.out
                  have hnb86 := NB208_205.out
                  have hnc86 := NB205_208.out
                  have hcz87_0 : wc.cell? ⟨gb208, 0, none⟩ = some (.string a0_0) := (blk_cell BK208.out 0).trans rfl
                  have hcz87_1 : wc.cell? ⟨gb208, 1, none⟩ = some (.string a0_1) := (blk_cell BK208.out 1).trans rfl
                  have hfz87_0 := blk_frozen BK208.out 0
                  have hfz87_1 := blk_frozen BK208.out 1
                  go_wp2_with (first | ((with_reducible refine gate_callee (f := 29) rfl ?_); refine goesL_ (some 44) rfl rfl Try.func29 (by kernel_rfl) rfl #[.agg #[.string a0_0, .string a0_1]] rfl (by (try simp only [List.map_toArray, List.map_cons, List.map_nil]); first | done | rfl | (simp only [List.length_drop, List.length_take]; rfl)) ?_; (with_reducible refine (spec_IntervalValid.calls kj25 a0_0 a0_1 true _ A82.out).mono ?_); rintro e w88 ⟨rfl, hb⟩; refine ⟨_, rfl, ?_⟩; have n0_ := Aside0.mk (blk_below (g := gb203) (o := .cells #[.string a0_0, .string a0_1] 35 (0, 0)) (by (with_reducible repeat (first | refine blk_drewN ?_ _ | refine blk_drew ?_ | refine blk_alloc ?_ _)); exact BK203.out) hb); have n1_ := Aside0.mk (blk_below (g := gb204) (o := .cells #[.string a1_0, .string a1_1] 35 (0, 0)) (by (with_reducible repeat (first | refine blk_drewN ?_ _ | refine blk_drew ?_ | refine blk_alloc ?_ _)); exact BK204.out) hb); have n2_ := Aside0.mk (blk_below (g := gb205) (o := .cells #[.string (⟨#[]⟩ : ByteArray), .string (⟨#[]⟩ : ByteArray)] 35 (0, 0)) (by (with_reducible repeat (first | refine blk_drewN ?_ _ | refine blk_drew ?_ | refine blk_alloc ?_ _)); exact BK205.out) hb); have n3_ := Aside0.mk (blk_below (g := gb208) (o := .cells #[.string a0_0, .string a0_1] 35 (0, 0)) (by (with_reducible repeat (first | refine blk_drewN ?_ _ | refine blk_drew ?_ | refine blk_alloc ?_ _)); exact BK208.out) hb); have n4_ := Aside0.mk (below_step (by repeat (first | (with_reducible first | exact HB.out | apply below_alloc | apply pw_below_drewN | apply below_drew1 | refine below_set ?_ GE203.out | refine below_set ?_ GE204.out | refine below_set ?_ GE205.out | refine below_set ?_ GE208.out) | exact HB.out)) hb); clear BK203; clear BK204; clear BK205; clear BK208; clear HB; have BK203 := n0_; have BK204 := n1_; have BK205 := n2_; have BK208 := n3_; have HB := n4_; clear n0_ n1_ n2_ n3_ n4_; (try clear hb); (try clear hb2); (try clear hk); (try clear hi); have hcz89_0 : w88.cell? ⟨gb208, 0, none⟩ = some (.string a0_0) := (blk_cell BK208.out 0).trans rfl; have hcz89_1 : w88.cell? ⟨gb208, 1, none⟩ = some (.string a0_1) := (blk_cell BK208.out 1).trans rfl; have hfz89_0 := blk_frozen BK208.out 0; have hfz89_1 := blk_frozen BK208.out 1; have hnb90 := NB205_203.out; have hnc90 := NB203_205.out; have hnb91 := NB205_204.out; have hnc91 := NB204_205.out; have hcz92_0 : w88.cell? ⟨gb205, 0, none⟩ = some (.string (⟨#[]⟩ : ByteArray)) := (blk_cell BK205.out 0).trans rfl; have hcz92_1 : w88.cell? ⟨gb205, 1, none⟩ = some (.string (⟨#[]⟩ : ByteArray)) := (blk_cell BK205.out 1).trans rfl; have hfz92_0 := blk_frozen BK205.out 0; have hfz92_1 := blk_frozen BK205.out 1))
                  refine bodyPost_ret (results_ct rfl _ _ gb205 35 #[.string a0_0, .string a0_1] (0, 0) _ rfl (by (with_reducible repeat (first | refine blk_drewN ?_ _ | refine blk_drew ?_ | refine blk_alloc ?_ _)); refine blk_put (cs := #[.string a0_0, .string (⟨#[]⟩ : ByteArray)]) ?_ 1 _ rfl; (with_reducible repeat (first | refine blk_drewN ?_ _ | refine blk_drew ?_ | refine blk_alloc ?_ _)); refine blk_put (cs := #[.string (⟨#[]⟩ : ByteArray), .string (⟨#[]⟩ : ByteArray)]) ?_ 0 _ rfl; (with_reducible repeat (first | refine blk_drewN ?_ _ | refine blk_drew ?_ | refine blk_alloc ?_ _)); exact BK205.out) Try.underlying35 rfl (by kernel_rfl)) rfl ?_
                  exact ⟨by first | rfl | (simp only [u8_w_, w64_u8_]; done) | (simp only [u8_w_, w64_u8_]; rfl) | (simp [errW_none, errW_some] <;> rfl) | (simp [*, errW_none, errW_some] <;> rfl), by repeat (first | (with_reducible first | exact HB.out | apply below_alloc | apply pw_below_drewN | apply below_drew1 | refine below_set ?_ GE203.out | refine below_set ?_ GE204.out | refine below_set ?_ GE205.out | refine below_set ?_ GE208.out) | exact HB.out)⟩
                · replace c83 := Bool.eq_false_iff.mpr c83
                  subst c83
                  have H1 : (some ((⟨#[]⟩ : ByteArray), (⟨#[]⟩ : ByteArray), false)) = some (r1, r2, r3) := by rw [if_neg (show ¬ (false = true) by decide)] at H; exact H
                  clear H
                  have H := H1
                  clear H1
                  simp only [Option.some.injEq, Prod.mk.injEq] at H
                  obtain ⟨rfl, rfl, rfl⟩ := H
                  have hnb93 := NB208_203.out
                  have hnc93 := NB203_208.out
                  have hnb94 := NB208_204.out
                  have hnc94 := NB204_208.out
                  have hnb95 := NB208_205.out
                  have hnc95 := NB205_208.out
                  have hcz96_0 : wc.cell? ⟨gb208, 0, none⟩ = some (.string a0_0) := (blk_cell BK208.out 0).trans rfl
                  have hcz96_1 : wc.cell? ⟨gb208, 1, none⟩ = some (.string a0_1) := (blk_cell BK208.out 1).trans rfl
                  have hfz96_0 := blk_frozen BK208.out 0
                  have hfz96_1 := blk_frozen BK208.out 1
                  go_wp2_with (first | ((with_reducible refine gate_callee (f := 29) rfl ?_); refine goesL_ (some 44) rfl rfl Try.func29 (by kernel_rfl) rfl #[.agg #[.string a0_0, .string a0_1]] rfl (by (try simp only [List.map_toArray, List.map_cons, List.map_nil]); first | done | rfl | (simp only [List.length_drop, List.length_take]; rfl)) ?_; (with_reducible refine (spec_IntervalValid.calls kj25 a0_0 a0_1 false _ A82.out).mono ?_); rintro e w97 ⟨rfl, hb⟩; refine ⟨_, rfl, ?_⟩; have n0_ := Aside0.mk (blk_below (g := gb203) (o := .cells #[.string a0_0, .string a0_1] 35 (0, 0)) (by (with_reducible repeat (first | refine blk_drewN ?_ _ | refine blk_drew ?_ | refine blk_alloc ?_ _)); exact BK203.out) hb); have n1_ := Aside0.mk (blk_below (g := gb204) (o := .cells #[.string a1_0, .string a1_1] 35 (0, 0)) (by (with_reducible repeat (first | refine blk_drewN ?_ _ | refine blk_drew ?_ | refine blk_alloc ?_ _)); exact BK204.out) hb); have n2_ := Aside0.mk (blk_below (g := gb205) (o := .cells #[.string (⟨#[]⟩ : ByteArray), .string (⟨#[]⟩ : ByteArray)] 35 (0, 0)) (by (with_reducible repeat (first | refine blk_drewN ?_ _ | refine blk_drew ?_ | refine blk_alloc ?_ _)); exact BK205.out) hb); have n3_ := Aside0.mk (blk_below (g := gb208) (o := .cells #[.string a0_0, .string a0_1] 35 (0, 0)) (by (with_reducible repeat (first | refine blk_drewN ?_ _ | refine blk_drew ?_ | refine blk_alloc ?_ _)); exact BK208.out) hb); have n4_ := Aside0.mk (below_step (by repeat (first | (with_reducible first | exact HB.out | apply below_alloc | apply pw_below_drewN | apply below_drew1 | refine below_set ?_ GE203.out | refine below_set ?_ GE204.out | refine below_set ?_ GE205.out | refine below_set ?_ GE208.out) | exact HB.out)) hb); clear BK203; clear BK204; clear BK205; clear BK208; clear HB; have BK203 := n0_; have BK204 := n1_; have BK205 := n2_; have BK208 := n3_; have HB := n4_; clear n0_ n1_ n2_ n3_ n4_; (try clear hb); (try clear hb2); (try clear hk); (try clear hi); have hnb98 := NB205_203.out; have hnc98 := NB203_205.out; have hnb99 := NB205_204.out; have hnc99 := NB204_205.out; have hcz100_0 : w97.cell? ⟨gb205, 0, none⟩ = some (.string (⟨#[]⟩ : ByteArray)) := (blk_cell BK205.out 0).trans rfl; have hcz100_1 : w97.cell? ⟨gb205, 1, none⟩ = some (.string (⟨#[]⟩ : ByteArray)) := (blk_cell BK205.out 1).trans rfl; have hfz100_0 := blk_frozen BK205.out 0; have hfz100_1 := blk_frozen BK205.out 1))
                  refine bodyPost_ret (results_ct rfl _ _ gb205 35 #[.string (⟨#[]⟩ : ByteArray), .string (⟨#[]⟩ : ByteArray)] (0, 0) _ rfl (by (with_reducible repeat (first | refine blk_drewN ?_ _ | refine blk_drew ?_ | refine blk_alloc ?_ _)); refine blk_put (cs := #[.string (⟨#[]⟩ : ByteArray), .string (⟨#[]⟩ : ByteArray)]) ?_ 1 _ rfl; (with_reducible repeat (first | refine blk_drewN ?_ _ | refine blk_drew ?_ | refine blk_alloc ?_ _)); refine blk_put (cs := #[.string (⟨#[]⟩ : ByteArray), .string (⟨#[]⟩ : ByteArray)]) ?_ 0 _ rfl; (with_reducible repeat (first | refine blk_drewN ?_ _ | refine blk_drew ?_ | refine blk_alloc ?_ _)); exact BK205.out) Try.underlying35 rfl (by kernel_rfl)) rfl ?_
                  exact ⟨by first | rfl | (simp only [u8_w_, w64_u8_]; done) | (simp only [u8_w_, w64_u8_]; rfl) | (simp [errW_none, errW_some] <;> rfl) | (simp [*, errW_none, errW_some] <;> rfl), by repeat (first | (with_reducible first | exact HB.out | apply below_alloc | apply pw_below_drewN | apply below_drew1 | refine below_set ?_ GE203.out | refine below_set ?_ GE204.out | refine below_set ?_ GE205.out | refine below_set ?_ GE208.out) | exact HB.out)⟩
        · rw [if_neg c25] at H
          have c25b0 : (Op.bytesLess a1_0.toList a0_0.toList) = false := by simpa using c25
          clear c25
          by_cases c101 : a1_0.toList = a0_0.toList
          · rw [if_pos c101] at H
            have c101b0 : (a1_0.toList == a0_0.toList) = true := beq_iff_eq.mpr c101
            have c101b1 : (a1_0.toList != a0_0.toList) = false := bne_eq_false_iff_eq.mpr c101
            clear c101
            have HC102 := Aside0.mk H
            clear H
            have hnb103 := NB203_204.out
            have hnc103 := NB204_203.out
            have hnb104 := NB203_205.out
            have hnc104 := NB205_203.out
            have hcz105_0 : wc.cell? ⟨gb203, 0, none⟩ = some (.string a0_0) := (blk_cell BK203.out 0).trans rfl
            have hcz105_1 : wc.cell? ⟨gb203, 1, none⟩ = some (.string a0_1) := (blk_cell BK203.out 1).trans rfl
            have hfz105_0 := blk_frozen BK203.out 0
            have hfz105_1 := blk_frozen BK203.out 1
            go_upto_region 6 with (first | ((with_reducible refine gate_dst (N := 6) rfl ?_); refine box_event ?hg (N := 6) ?hd (cs := #[.string (⟨#[]⟩ : ByteArray), .string (⟨#[]⟩ : ByteArray)]) (t := 35) ?hr ?_; (case hd => rfl); (case hg => rfl); (case hr => first | (go_simp; done) | (go_simp; rfl)); intro gb208 hg w106 hbox hb; have n0_ := Aside0.mk (blk_below (g := gb203) (o := .cells #[.string a0_0, .string a0_1] 35 (0, 0)) (by (with_reducible repeat (first | refine blk_drewN ?_ _ | refine blk_drew ?_ | refine blk_alloc ?_ _)); exact BK203.out) hb); have n1_ := Aside0.mk (blk_below (g := gb204) (o := .cells #[.string a1_0, .string a1_1] 35 (0, 0)) (by (with_reducible repeat (first | refine blk_drewN ?_ _ | refine blk_drew ?_ | refine blk_alloc ?_ _)); exact BK204.out) hb); have n2_ := Aside0.mk (blk_below (g := gb205) (o := .cells #[.string (⟨#[]⟩ : ByteArray), .string (⟨#[]⟩ : ByteArray)] 35 (0, 0)) (by (with_reducible repeat (first | refine blk_drewN ?_ _ | refine blk_drew ?_ | refine blk_alloc ?_ _)); exact BK205.out) hb); have n3_ := Aside0.mk (below_step (by repeat (first | (with_reducible first | exact HB.out | apply below_alloc | apply pw_below_drewN | apply below_drew1 | refine below_set ?_ GE203.out | refine below_set ?_ GE204.out | refine below_set ?_ GE205.out) | exact HB.out)) hb); have n4_ := Aside0.mk (hbox); have n5_ := Aside0.mk ((by rw [hg]; exact (below_size (by repeat (first | (with_reducible first | exact HB.out | apply below_alloc | apply pw_below_drewN | apply below_drew1 | refine below_set ?_ GE203.out | refine below_set ?_ GE204.out | refine below_set ?_ GE205.out) | exact HB.out))) : w.heap.size ≤ gb208)); have n6_ := Aside0.mk ((by rw [hg]; exact (below_size (by repeat (first | (with_reducible first | exact HB.out | apply below_alloc | apply pw_below_drewN | apply below_drew1 | refine below_set ?_ GE203.out | refine below_set ?_ GE204.out | refine below_set ?_ GE205.out) | exact HB.out))) : w.heap.size ≤ gb208)); have n7_ := Aside0.mk ((by rw [hg]; exact Nat.ne_of_lt (blk_lt (g := gb203) (o := .cells #[.string a0_0, .string a0_1] 35 (0, 0)) (by (with_reducible repeat (first | refine blk_drewN ?_ _ | refine blk_drew ?_ | refine blk_alloc ?_ _)); exact BK203.out)) : gb203 ≠ gb208)); have n8_ := Aside0.mk ((by rw [hg]; exact Nat.ne_of_gt (blk_lt (g := gb203) (o := .cells #[.string a0_0, .string a0_1] 35 (0, 0)) (by (with_reducible repeat (first | refine blk_drewN ?_ _ | refine blk_drew ?_ | refine blk_alloc ?_ _)); exact BK203.out)) : gb208 ≠ gb203)); have n9_ := Aside0.mk ((by rw [hg]; exact Nat.ne_of_lt (blk_lt (g := gb204) (o := .cells #[.string a1_0, .string a1_1] 35 (0, 0)) (by (with_reducible repeat (first | refine blk_drewN ?_ _ | refine blk_drew ?_ | refine blk_alloc ?_ _)); exact BK204.out)) : gb204 ≠ gb208)); have n10_ := Aside0.mk ((by rw [hg]; exact Nat.ne_of_gt (blk_lt (g := gb204) (o := .cells #[.string a1_0, .string a1_1] 35 (0, 0)) (by (with_reducible repeat (first | refine blk_drewN ?_ _ | refine blk_drew ?_ | refine blk_alloc ?_ _)); exact BK204.out)) : gb208 ≠ gb204)); have n11_ := Aside0.mk ((by rw [hg]; exact Nat.ne_of_lt (blk_lt (g := gb205) (o := .cells #[.string (⟨#[]⟩ : ByteArray), .string (⟨#[]⟩ : ByteArray)] 35 (0, 0)) (by (with_reducible repeat (first | refine blk_drewN ?_ _ | refine blk_drew ?_ | refine blk_alloc ?_ _)); exact BK205.out)) : gb205 ≠ gb208)); have n12_ := Aside0.mk ((by rw [hg]; exact Nat.ne_of_gt (blk_lt (g := gb205) (o := .cells #[.string (⟨#[]⟩ : ByteArray), .string (⟨#[]⟩ : ByteArray)] 35 (0, 0)) (by (with_reducible repeat (first | refine blk_drewN ?_ _ | refine blk_drew ?_ | refine blk_alloc ?_ _)); exact BK205.out)) : gb208 ≠ gb205)); clear BK203; clear BK204; clear BK205; clear HB; have BK203 := n0_; have BK204 := n1_; have BK205 := n2_; have HB := n3_; have BK208 := n4_; have GW208 := n5_; have GE208 := n6_; have NB203_208 := n7_; have NB208_203 := n8_; have NB204_208 := n9_; have NB208_204 := n10_; have NB205_208 := n11_; have NB208_205 := n12_; clear n0_ n1_ n2_ n3_ n4_ n5_ n6_ n7_ n8_ n9_ n10_ n11_ n12_; clear hb hbox hg; have hnb107 := NB208_203.out; have hnc107 := NB203_208.out; have hnb108 := NB208_204.out; have hnc108 := NB204_208.out; have hnb109 := NB208_205.out; have hnc109 := NB205_208.out; have hcz110_0 : w106.cell? ⟨gb208, 0, none⟩ = some (.string (⟨#[]⟩ : ByteArray)) := (blk_cell BK208.out 0).trans rfl; have hcz110_1 : w106.cell? ⟨gb208, 1, none⟩ = some (.string (⟨#[]⟩ : ByteArray)) := (blk_cell BK208.out 1).trans rfl; have hfz110_0 := blk_frozen BK208.out 0; have hfz110_1 := blk_frozen BK208.out 1; have hnb111 := NB204_205.out; have hnc111 := NB205_204.out; have hcz112_0 : w106.cell? ⟨gb204, 0, none⟩ = some (.string a1_0) := (blk_cell BK204.out 0).trans rfl; have hcz112_1 : w106.cell? ⟨gb204, 1, none⟩ = some (.string a1_1) := (blk_cell BK204.out 1).trans rfl; have hfz112_0 := blk_frozen BK204.out 0; have hfz112_1 := blk_frozen BK204.out 1; have hcz113_0 : w106.cell? ⟨gb203, 0, none⟩ = some (.string a0_0) := (blk_cell BK203.out 0).trans rfl; have hcz113_1 : w106.cell? ⟨gb203, 1, none⟩ = some (.string a0_1) := (blk_cell BK203.out 1).trans rfl; have hfz113_0 := blk_frozen BK203.out 0; have hfz113_1 := blk_frozen BK203.out 1))
            (try simp only [Act.put, List.setIfInBounds_toArray, List.set_cons_zero, List.set_cons_succ])
            go_cut [39] (fun v39 wc => ∃ (kq : Nat) (x39_101 : Bool), v39 = .bool x39_101 ∧ Aside0 (spec_IntervalMeet.j2 kq x39_101 a1_0 a1_1 a0_0 a0_1 = some (r1, r2, r3)) ∧ Aside0 (kq ≤ kj2) ∧ Aside0 (wc.heap[gb203]? = some (.cells #[.string a0_0, .string a0_1] 35 (0, 0))) ∧ Aside0 (wc.heap[gb204]? = some (.cells #[.string a1_0, .string a1_1] 35 (0, 0))) ∧ Aside0 (wc.heap[gb205]? = some (.cells #[.string (⟨#[]⟩ : ByteArray), .string (⟨#[]⟩ : ByteArray)] 35 (0, 0))) ∧ Aside0 (wc.heap[gb208]? = some (.cells #[.string a0_0, .string a0_1] 35 (0, 0))) ∧ Aside0 (Below w.heap.size w wc))
            case first =>
              have H := HC102.out
              clear HC102
              by_cases c114 : a1_1.toList = ([] : List UInt8)
              · rw [if_pos c114] at H
                have c114b0 : (a1_1.toList == ([] : List UInt8)) = true := beq_iff_eq.mpr c114
                have c114b1 : (a1_1.toList != ([] : List UInt8)) = false := bne_eq_false_iff_eq.mpr c114
                clear c114
                (first | rw [c114b0] | (simp only [i64_w, i32_w]; rw [c114b0]) | skip)
                have H' := Aside0.mk H
                clear H
                have hnb115 := NB204_203.out
                have hnc115 := NB203_204.out
                have hnb116 := NB204_205.out
                have hnc116 := NB205_204.out
                have hnb117 := NB204_208.out
                have hnc117 := NB208_204.out
                have hcz118_0 : w106.cell? ⟨gb204, 0, none⟩ = some (.string a1_0) := (blk_cell BK204.out 0).trans rfl
                have hcz118_1 : w106.cell? ⟨gb204, 1, none⟩ = some (.string a1_1) := (blk_cell BK204.out 1).trans rfl
                have hfz118_0 := blk_frozen BK204.out 0
                have hfz118_1 := blk_frozen BK204.out 1
                go_wp2
                go_meet
                case rel => exact ⟨_, (false), (by first | rfl | (simp; done) | (simp [bne]; done) | (simp [*]; done)), H', ⟨by have := HJ2.out; first | omega | exact Nat.le_refl _⟩, ⟨by (with_reducible repeat (first | refine blk_drewN ?_ _ | refine blk_drew ?_ | refine blk_alloc ?_ _)); refine blk_far ?_ NB203_208.out _; (with_reducible repeat (first | refine blk_drewN ?_ _ | refine blk_drew ?_ | refine blk_alloc ?_ _)); refine blk_far ?_ NB203_208.out _; (with_reducible repeat (first | refine blk_drewN ?_ _ | refine blk_drew ?_ | refine blk_alloc ?_ _)); exact BK203.out⟩, ⟨by (with_reducible repeat (first | refine blk_drewN ?_ _ | refine blk_drew ?_ | refine blk_alloc ?_ _)); refine blk_far ?_ NB204_208.out _; (with_reducible repeat (first | refine blk_drewN ?_ _ | refine blk_drew ?_ | refine blk_alloc ?_ _)); refine blk_far ?_ NB204_208.out _; (with_reducible repeat (first | refine blk_drewN ?_ _ | refine blk_drew ?_ | refine blk_alloc ?_ _)); exact BK204.out⟩, ⟨by (with_reducible repeat (first | refine blk_drewN ?_ _ | refine blk_drew ?_ | refine blk_alloc ?_ _)); refine blk_far ?_ NB205_208.out _; (with_reducible repeat (first | refine blk_drewN ?_ _ | refine blk_drew ?_ | refine blk_alloc ?_ _)); refine blk_far ?_ NB205_208.out _; (with_reducible repeat (first | refine blk_drewN ?_ _ | refine blk_drew ?_ | refine blk_alloc ?_ _)); exact BK205.out⟩, ⟨by (with_reducible repeat (first | refine blk_drewN ?_ _ | refine blk_drew ?_ | refine blk_alloc ?_ _)); refine blk_put (cs := #[.string a0_0, .string (⟨#[]⟩ : ByteArray)]) ?_ 1 _ rfl; (with_reducible repeat (first | refine blk_drewN ?_ _ | refine blk_drew ?_ | refine blk_alloc ?_ _)); refine blk_put (cs := #[.string (⟨#[]⟩ : ByteArray), .string (⟨#[]⟩ : ByteArray)]) ?_ 0 _ rfl; (with_reducible repeat (first | refine blk_drewN ?_ _ | refine blk_drew ?_ | refine blk_alloc ?_ _)); exact BK208.out⟩, ⟨by repeat (first | (with_reducible first | exact HB.out | apply below_alloc | apply pw_below_drewN | apply below_drew1 | refine below_set ?_ GE203.out | refine below_set ?_ GE204.out | refine below_set ?_ GE205.out | refine below_set ?_ GE208.out) | exact HB.out)⟩⟩
              · rw [if_neg c114] at H
                have c114b0 : (a1_1.toList == ([] : List UInt8)) = false := beq_eq_false_iff_ne.mpr c114
                have c114b1 : (a1_1.toList != ([] : List UInt8)) = true := bne_iff_ne.mpr c114
                (first | rw [c114b0] | (simp only [i64_w, i32_w]; rw [c114b0]) | skip)
                by_cases c119 : a0_1.toList = ([] : List UInt8)
                · rw [if_pos c119] at H
                  have c119b0 : (a0_1.toList == ([] : List UInt8)) = true := beq_iff_eq.mpr c119
                  have c119b1 : (a0_1.toList != ([] : List UInt8)) = false := bne_eq_false_iff_eq.mpr c119
                  clear c119
                  have H' := Aside0.mk H
                  clear H
                  have hnb120 := NB204_203.out
                  have hnc120 := NB203_204.out
                  have hnb121 := NB204_205.out
                  have hnc121 := NB205_204.out
                  have hnb122 := NB204_208.out
                  have hnc122 := NB208_204.out
                  have hcz123_0 : w106.cell? ⟨gb204, 0, none⟩ = some (.string a1_0) := (blk_cell BK204.out 0).trans rfl
                  have hcz123_1 : w106.cell? ⟨gb204, 1, none⟩ = some (.string a1_1) := (blk_cell BK204.out 1).trans rfl
                  have hfz123_0 := blk_frozen BK204.out 0
                  have hfz123_1 := blk_frozen BK204.out 1
                  have hnb124 := NB203_205.out
                  have hnc124 := NB205_203.out
                  have hnb125 := NB203_208.out
                  have hnc125 := NB208_203.out
                  have hcz126_0 : w106.cell? ⟨gb203, 0, none⟩ = some (.string a0_0) := (blk_cell BK203.out 0).trans rfl
                  have hcz126_1 : w106.cell? ⟨gb203, 1, none⟩ = some (.string a0_1) := (blk_cell BK203.out 1).trans rfl
                  have hfz126_0 := blk_frozen BK203.out 0
                  have hfz126_1 := blk_frozen BK203.out 1
                  go_wp2
                  go_meet
                  case rel => exact ⟨_, (true), (by first | rfl | (simp; done) | (simp [bne]; done) | (simp [*]; done)), H', ⟨by have := HJ2.out; first | omega | exact Nat.le_refl _⟩, ⟨by (with_reducible repeat (first | refine blk_drewN ?_ _ | refine blk_drew ?_ | refine blk_alloc ?_ _)); refine blk_far ?_ NB203_208.out _; (with_reducible repeat (first | refine blk_drewN ?_ _ | refine blk_drew ?_ | refine blk_alloc ?_ _)); refine blk_far ?_ NB203_208.out _; (with_reducible repeat (first | refine blk_drewN ?_ _ | refine blk_drew ?_ | refine blk_alloc ?_ _)); exact BK203.out⟩, ⟨by (with_reducible repeat (first | refine blk_drewN ?_ _ | refine blk_drew ?_ | refine blk_alloc ?_ _)); refine blk_far ?_ NB204_208.out _; (with_reducible repeat (first | refine blk_drewN ?_ _ | refine blk_drew ?_ | refine blk_alloc ?_ _)); refine blk_far ?_ NB204_208.out _; (with_reducible repeat (first | refine blk_drewN ?_ _ | refine blk_drew ?_ | refine blk_alloc ?_ _)); exact BK204.out⟩, ⟨by (with_reducible repeat (first | refine blk_drewN ?_ _ | refine blk_drew ?_ | refine blk_alloc ?_ _)); refine blk_far ?_ NB205_208.out _; (with_reducible repeat (first | refine blk_drewN ?_ _ | refine blk_drew ?_ | refine blk_alloc ?_ _)); refine blk_far ?_ NB205_208.out _; (with_reducible repeat (first | refine blk_drewN ?_ _ | refine blk_drew ?_ | refine blk_alloc ?_ _)); exact BK205.out⟩, ⟨by (with_reducible repeat (first | refine blk_drewN ?_ _ | refine blk_drew ?_ | refine blk_alloc ?_ _)); refine blk_put (cs := #[.string a0_0, .string (⟨#[]⟩ : ByteArray)]) ?_ 1 _ rfl; (with_reducible repeat (first | refine blk_drewN ?_ _ | refine blk_drew ?_ | refine blk_alloc ?_ _)); refine blk_put (cs := #[.string (⟨#[]⟩ : ByteArray), .string (⟨#[]⟩ : ByteArray)]) ?_ 0 _ rfl; (with_reducible repeat (first | refine blk_drewN ?_ _ | refine blk_drew ?_ | refine blk_alloc ?_ _)); exact BK208.out⟩, ⟨by repeat (first | (with_reducible first | exact HB.out | apply below_alloc | apply pw_below_drewN | apply below_drew1 | refine below_set ?_ GE203.out | refine below_set ?_ GE204.out | refine below_set ?_ GE205.out | refine below_set ?_ GE208.out) | exact HB.out)⟩⟩
                · rw [if_neg c119] at H
                  have c119b0 : (a0_1.toList == ([] : List UInt8)) = false := beq_eq_false_iff_ne.mpr c119
                  have c119b1 : (a0_1.toList != ([] : List UInt8)) = true := bne_iff_ne.mpr c119
                  have H' := Aside0.mk H
                  clear H
                  have hnb127 := NB204_203.out
                  have hnc127 := NB203_204.out
                  have hnb128 := NB204_205.out
                  have hnc128 := NB205_204.out
                  have hnb129 := NB204_208.out
                  have hnc129 := NB208_204.out
                  have hcz130_0 : w106.cell? ⟨gb204, 0, none⟩ = some (.string a1_0) := (blk_cell BK204.out 0).trans rfl
                  have hcz130_1 : w106.cell? ⟨gb204, 1, none⟩ = some (.string a1_1) := (blk_cell BK204.out 1).trans rfl
                  have hfz130_0 := blk_frozen BK204.out 0
                  have hfz130_1 := blk_frozen BK204.out 1
                  have hnb131 := NB203_205.out
                  have hnc131 := NB205_203.out
                  have hnb132 := NB203_208.out
                  have hnc132 := NB208_203.out
                  have hcz133_0 : w106.cell? ⟨gb203, 0, none⟩ = some (.string a0_0) := (blk_cell BK203.out 0).trans rfl
                  have hcz133_1 : w106.cell? ⟨gb203, 1, none⟩ = some (.string a0_1) := (blk_cell BK203.out 1).trans rfl
                  have hfz133_0 := blk_frozen BK203.out 0
                  have hfz133_1 := blk_frozen BK203.out 1
                  go_wp2
                  go_meet
                  case rel => exact ⟨_, ((Op.bytesLess a1_1.toList a0_1.toList)), (by first | rfl | (simp; done) | (simp [bne]; done) | (simp [*]; done)), H', ⟨by have := HJ2.out; first | omega | exact Nat.le_refl _⟩, ⟨by (with_reducible repeat (first | refine blk_drewN ?_ _ | refine blk_drew ?_ | refine blk_alloc ?_ _)); refine blk_far ?_ NB203_208.out _; (with_reducible repeat (first | refine blk_drewN ?_ _ | refine blk_drew ?_ | refine blk_alloc ?_ _)); refine blk_far ?_ NB203_208.out _; (with_reducible repeat (first | refine blk_drewN ?_ _ | refine blk_drew ?_ | refine blk_alloc ?_ _)); exact BK203.out⟩, ⟨by (with_reducible repeat (first | refine blk_drewN ?_ _ | refine blk_drew ?_ | refine blk_alloc ?_ _)); refine blk_far ?_ NB204_208.out _; (with_reducible repeat (first | refine blk_drewN ?_ _ | refine blk_drew ?_ | refine blk_alloc ?_ _)); refine blk_far ?_ NB204_208.out _; (with_reducible repeat (first | refine blk_drewN ?_ _ | refine blk_drew ?_ | refine blk_alloc ?_ _)); exact BK204.out⟩, ⟨by (with_reducible repeat (first | refine blk_drewN ?_ _ | refine blk_drew ?_ | refine blk_alloc ?_ _)); refine blk_far ?_ NB205_208.out _; (with_reducible repeat (first | refine blk_drewN ?_ _ | refine blk_drew ?_ | refine blk_alloc ?_ _)); refine blk_far ?_ NB205_208.out _; (with_reducible repeat (first | refine blk_drewN ?_ _ | refine blk_drew ?_ | refine blk_alloc ?_ _)); exact BK205.out⟩, ⟨by (with_reducible repeat (first | refine blk_drewN ?_ _ | refine blk_drew ?_ | refine blk_alloc ?_ _)); refine blk_put (cs := #[.string a0_0, .string (⟨#[]⟩ : ByteArray)]) ?_ 1 _ rfl; (with_reducible repeat (first | refine blk_drewN ?_ _ | refine blk_drew ?_ | refine blk_alloc ?_ _)); refine blk_put (cs := #[.string (⟨#[]⟩ : ByteArray), .string (⟨#[]⟩ : ByteArray)]) ?_ 0 _ rfl; (with_reducible repeat (first | refine blk_drewN ?_ _ | refine blk_drew ?_ | refine blk_alloc ?_ _)); exact BK208.out⟩, ⟨by repeat (first | (with_reducible first | exact HB.out | apply below_alloc | apply pw_below_drewN | apply below_drew1 | refine below_set ?_ GE203.out | refine below_set ?_ GE204.out | refine below_set ?_ GE205.out | refine below_set ?_ GE208.out) | exact HB.out)⟩⟩
            case rest =>
              clear HC102
              try clear c1
              try clear c2
              try clear p2
              try clear c3
              try clear c4
              try clear c5
              try clear c6
              try clear c7
              try clear c8
              try clear c9
              try clear c10
              try clear c11
              try clear c12
              try clear c13
              try clear c14
              try clear c17
              try clear c18
              try clear c21
              try clear c22
              try clear c23
              try clear c25
              try clear c25b0
              try clear c27
              try clear c28
              try clear c29
              try clear c31
              try clear c32
              try clear c33
              try clear c35
              try clear c38
              try clear c38b0
              try clear c38b1
              try clear c39
              try clear c40
              try clear c41
              try clear c43
              try clear c43b0
              try clear c43b1
              try clear c44
              try clear c45
              try clear c46
              try clear c48
              try clear c49
              try clear c51
              try clear c52
              try clear c53
              try clear c55
              try clear c56
              try clear c58
              try clear c60
              try clear c61
              try clear c62
              try clear c63
              try clear c65
              try clear c66
              try clear c70
              try clear c72
              try clear c73
              try clear c74
              try clear c76
              try clear c77
              try clear c80
              try clear c83
              try clear c84
              try clear c85
              try clear c86
              try clear c90
              try clear c91
              try clear c93
              try clear c94
              try clear c95
              try clear c98
              try clear c99
              try clear c101
              try clear c101b0
              try clear c101b1
              try clear c103
              try clear c104
              try clear c107
              try clear c108
              try clear c109
              try clear c111
              try clear c114
              try clear c114b0
              try clear c114b1
              try clear c115
              try clear c116
              try clear c117
              try clear c119
              try clear c119b0
              try clear c119b1
              try clear c120
              try clear c121
              try clear c122
              try clear c124
              try clear c125
              try clear c127
              try clear c128
              try clear c129
              try clear c131
              try clear c132
              try clear hcz100_0
              try clear hcz100_1
              try clear hcz105_0
              try clear hcz105_1
              try clear hcz110_0
              try clear hcz110_1
              try clear hcz112_0
              try clear hcz112_1
              try clear hcz113_0
              try clear hcz113_1
              try clear hcz118_0
              try clear hcz118_1
              try clear hcz123_0
              try clear hcz123_1
              try clear hcz126_0
              try clear hcz126_1
              try clear hcz12_0
              try clear hcz12_1
              try clear hcz130_0
              try clear hcz130_1
              try clear hcz133_0
              try clear hcz133_1
              try clear hcz15_0
              try clear hcz15_1
              try clear hcz19_0
              try clear hcz19_1
              try clear hcz24_0
              try clear hcz24_1
              try clear hcz29_0
              try clear hcz29_1
              try clear hcz34_0
              try clear hcz34_1
              try clear hcz36_0
              try clear hcz36_1
              try clear hcz37_0
              try clear hcz37_1
              try clear hcz42_0
              try clear hcz42_1
              try clear hcz47_0
              try clear hcz47_1
              try clear hcz50_0
              try clear hcz50_1
              try clear hcz54_0
              try clear hcz54_1
              try clear hcz57_0
              try clear hcz57_1
              try clear hcz64_0
              try clear hcz64_1
              try clear hcz67_0
              try clear hcz67_1
              try clear hcz69_0
              try clear hcz69_1
              try clear hcz71_0
              try clear hcz71_1
              try clear hcz75_0
              try clear hcz75_1
              try clear hcz78_0
              try clear hcz78_1
              try clear hcz81_0
              try clear hcz81_1
              try clear hcz87_0
              try clear hcz87_1
              try clear hcz89_0
              try clear hcz89_1
              try clear hcz92_0
              try clear hcz92_1
              try clear hcz96_0
              try clear hcz96_1
              try clear hfz100_0
              try clear hfz100_1
              try clear hfz105_0
              try clear hfz105_1
              try clear hfz110_0
              try clear hfz110_1
              try clear hfz112_0
              try clear hfz112_1
              try clear hfz113_0
              try clear hfz113_1
              try clear hfz118_0
              try clear hfz118_1
              try clear hfz123_0
              try clear hfz123_1
              try clear hfz126_0
              try clear hfz126_1
              try clear hfz12_0
              try clear hfz12_1
              try clear hfz130_0
              try clear hfz130_1
              try clear hfz133_0
              try clear hfz133_1
              try clear hfz15_0
              try clear hfz15_1
              try clear hfz19_0
              try clear hfz19_1
              try clear hfz24_0
              try clear hfz24_1
              try clear hfz29_0
              try clear hfz29_1
              try clear hfz34_0
              try clear hfz34_1
              try clear hfz36_0
              try clear hfz36_1
              try clear hfz37_0
              try clear hfz37_1
              try clear hfz42_0
              try clear hfz42_1
              try clear hfz47_0
              try clear hfz47_1
              try clear hfz50_0
              try clear hfz50_1
              try clear hfz54_0
              try clear hfz54_1
              try clear hfz57_0
              try clear hfz57_1
              try clear hfz64_0
              try clear hfz64_1
              try clear hfz67_0
              try clear hfz67_1
              try clear hfz69_0
              try clear hfz69_1
              try clear hfz71_0
              try clear hfz71_1
              try clear hfz75_0
              try clear hfz75_1
              try clear hfz78_0
              try clear hfz78_1
              try clear hfz81_0
              try clear hfz81_1
              try clear hfz87_0
              try clear hfz87_1
              try clear hfz89_0
              try clear hfz89_1
              try clear hfz92_0
              try clear hfz92_1
              try clear hfz96_0
              try clear hfz96_1
              try clear p2
              obtain ⟨kq, x39_101, rfl, HA, HJ101, BK203, BK204, BK205, BK208, HB⟩ := hcut
              cases kq with
              | zero => exact absurd HA.out (by simp [spec_IntervalMeet.j2])
              | succ kj101 =>
                have H := HA.out
                clear HA
                simp only [spec_IntervalMeet.j2] at H
                by_cases c134 : x39_101 = true
                · subst c134
                  have H1 : ((spec_IntervalValid.f kj101 a0_0 a1_1).bind fun t211 => (if t211 = true then (some (a0_0, a1_1, true)) else (some ((⟨#[]⟩ : ByteArray), (⟨#[]⟩ : ByteArray), false)))) = some (r1, r2, r3) := by rw [if_pos rfl] at H; exact H
                  clear H
                  have H := H1
                  clear H1
                  replace H := Option.bind_eq_some_iff.mp H
                  obtain ⟨t211, A1350, H⟩ := H
                  replace H : (if t211 = true then (some (a0_0, a1_1, true)) else (some ((⟨#[]⟩ : ByteArray), (⟨#[]⟩ : ByteArray), false))) = some (r1, r2, r3) := H
                  have A135 := Aside0.mk A1350
                  clear A1350
                  by_cases c136 : t211 = true
                  · subst c136
                    have H1 : (some (a0_0, a1_1, true)) = some (r1, r2, r3) := by rw [if_pos rfl] at H; exact H
                    clear H
                    have H := H1
                    clear H1
                    simp only [Option.some.injEq, Prod.mk.injEq] at H
                    obtain ⟨rfl, rfl, rfl⟩ := H
                    have hnb137 := NB204_203.out
                    have hnc137 := NB203_204.out
                    have hnb138 := NB204_205.out
                    have hnc138 := NB205_204.out
                    have hnb139 := NB204_208.out
                    have hnc139 := NB208_204.out
                    have hcz140_0 : wc.cell? ⟨gb204, 0, none⟩ = some (.string a1_0) := (blk_cell BK204.out 0).trans rfl
                    have hcz140_1 : wc.cell? ⟨gb204, 1, none⟩ = some (.string a1_1) := (blk_cell BK204.out 1).trans rfl
                    have hfz140_0 := blk_frozen BK204.out 0
                    have hfz140_1 := blk_frozen BK204.out 1
                    have hnb141 := NB208_203.out
                    have hnc141 := NB203_208.out
                    have hnb142 := NB208_205.out
                    have hnc142 := NB205_208.out
                    have hcz143_0 : wc.cell? ⟨gb208, 0, none⟩ = some (.string a0_0) := (blk_cell BK208.out 0).trans rfl
                    have hcz143_1 : wc.cell? ⟨gb208, 1, none⟩ = some (.string a0_1) := (blk_cell BK208.out 1).trans rfl
                    have hfz143_0 := blk_frozen BK208.out 0
                    have hfz143_1 := blk_frozen BK208.out 1
                    go_wp2_with (first | ((with_reducible refine gate_callee (f := 29) rfl ?_); refine goesL_ (some 44) rfl rfl Try.func29 (by kernel_rfl) rfl #[.agg #[.string a0_0, .string a1_1]] rfl (by (try simp only [List.map_toArray, List.map_cons, List.map_nil]); first | done | rfl | (simp only [List.length_drop, List.length_take]; rfl)) ?_; (with_reducible refine (spec_IntervalValid.calls kj101 a0_0 a1_1 true _ A135.out).mono ?_); rintro e w144 ⟨rfl, hb⟩; refine ⟨_, rfl, ?_⟩; have n0_ := Aside0.mk (blk_below (g := gb203) (o := .cells #[.string a0_0, .string a0_1] 35 (0, 0)) (by (with_reducible repeat (first | refine blk_drewN ?_ _ | refine blk_drew ?_ | refine blk_alloc ?_ _)); refine blk_far ?_ NB203_208.out _; (with_reducible repeat (first | refine blk_drewN ?_ _ | refine blk_drew ?_ | refine blk_alloc ?_ _)); exact BK203.out) hb); have n1_ := Aside0.mk (blk_below (g := gb204) (o := .cells #[.string a1_0, .string a1_1] 35 (0, 0)) (by (with_reducible repeat (first | refine blk_drewN ?_ _ | refine blk_drew ?_ | refine blk_alloc ?_ _)); refine blk_far ?_ NB204_208.out _; (with_reducible repeat (first | refine blk_drewN ?_ _ | refine blk_drew ?_ | refine blk_alloc ?_ _)); exact BK204.out) hb); have n2_ := Aside0.mk (blk_below (g := gb205) (o := .cells #[.string (⟨#[]⟩ : ByteArray), .string (⟨#[]⟩ : ByteArray)] 35 (0, 0)) (by (with_reducible repeat (first | refine blk_drewN ?_ _ | refine blk_drew ?_ | refine blk_alloc ?_ _)); refine blk_far ?_ NB205_208.out _; (with_reducible repeat (first | refine blk_drewN ?_ _ | refine blk_drew ?_ | refine blk_alloc ?_ _)); exact BK205.out) hb); have n3_ := Aside0.mk (blk_below (g := gb208) (o := .cells #[.string a0_0, .string a1_1] 35 (0, 0)) (by (with_reducible repeat (first | refine blk_drewN ?_ _ | refine blk_drew ?_ | refine blk_alloc ?_ _)); refine blk_put (cs := #[.string a0_0, .string a0_1]) ?_ 1 _ rfl; (with_reducible repeat (first | refine blk_drewN ?_ _ | refine blk_drew ?_ | refine blk_alloc ?_ _)); exact BK208.out) hb); have n4_ := Aside0.mk (below_step (by repeat (first | (with_reducible first | exact HB.out | apply below_alloc | apply pw_below_drewN | apply below_drew1 | refine below_set ?_ GE203.out | refine below_set ?_ GE204.out | refine below_set ?_ GE205.out | refine below_set ?_ GE208.out) | exact HB.out)) hb); clear BK203; clear BK204; clear BK205; clear BK208; clear HB; have BK203 := n0_; have BK204 := n1_; have BK205 := n2_; have BK208 := n3_; have HB := n4_; clear n0_ n1_ n2_ n3_ n4_; (try clear hb); (try clear hb2); (try clear hk); (try clear hi); have hcz145_0 : w144.cell? ⟨gb208, 0, none⟩ = some (.string a0_0) := (blk_cell BK208.out 0).trans rfl; have hcz145_1 : w144.cell? ⟨gb208, 1, none⟩ = some (.string a1_1) := (blk_cell BK208.out 1).trans rfl; have hfz145_0 := blk_frozen BK208.out 0; have hfz145_1 := blk_frozen BK208.out 1; have hnb146 := NB205_203.out; have hnc146 := NB203_205.out; have hcz147_0 : w144.cell? ⟨gb205, 0, none⟩ = some (.string (⟨#[]⟩ : ByteArray)) := (blk_cell BK205.out 0).trans rfl; have hcz147_1 : w144.cell? ⟨gb205, 1, none⟩ = some (.string (⟨#[]⟩ : ByteArray)) := (blk_cell BK205.out 1).trans rfl; have hfz147_0 := blk_frozen BK205.out 0; have hfz147_1 := blk_frozen BK205.out 1))
                    refine bodyPost_ret (results_ct rfl _ _ gb205 35 #[.string a0_0, .string a1_1] (0, 0) _ rfl (by (with_reducible repeat (first | refine blk_drewN ?_ _ | refine blk_drew ?_ | refine blk_alloc ?_ _)); refine blk_put (cs := #[.string a0_0, .string (⟨#[]⟩ : ByteArray)]) ?_ 1 _ rfl; (with_reducible repeat (first | refine blk_drewN ?_ _ | refine blk_drew ?_ | refine blk_alloc ?_ _)); refine blk_put (cs := #[.string (⟨#[]⟩ : ByteArray), .string (⟨#[]⟩ : ByteArray)]) ?_ 0 _ rfl; (with_reducible repeat (first | refine blk_drewN ?_ _ | refine blk_drew ?_ | refine blk_alloc ?_ _)); exact BK205.out) Try.underlying35 rfl (by kernel_rfl)) rfl ?_
                    exact ⟨by first | rfl | (simp only [u8_w_, w64_u8_]; done) | (simp only [u8_w_, w64_u8_]; rfl) | (simp [errW_none, errW_some] <;> rfl) | (simp [*, errW_none, errW_some] <;> rfl), by repeat (first | (with_reducible first | exact HB.out | apply below_alloc | apply pw_below_drewN | apply below_drew1 | refine below_set ?_ GE203.out | refine below_set ?_ GE204.out | refine below_set ?_ GE205.out | refine below_set ?_ GE208.out) | exact HB.out)⟩
                  · replace c136 := Bool.eq_false_iff.mpr c136
                    subst c136
                    have H1 : (some ((⟨#[]⟩ : ByteArray), (⟨#[]⟩ : ByteArray), false)) = some (r1, r2, r3) := by rw [if_neg (show ¬ (false = true) by decide)] at H; exact H
                    clear H
                    have H := H1
                    clear H1
                    simp only [Option.some.injEq, Prod.mk.injEq] at H
                    obtain ⟨rfl, rfl, rfl⟩ := H
                    have hnb148 := NB204_203.out
                    have hnc148 := NB203_204.out
                    have hnb149 := NB204_205.out
                    have hnc149 := NB205_204.out
                    have hnb150 := NB204_208.out
                    have hnc150 := NB208_204.out
                    have hcz151_0 : wc.cell? ⟨gb204, 0, none⟩ = some (.string a1_0) := (blk_cell BK204.out 0).trans rfl
                    have hcz151_1 : wc.cell? ⟨gb204, 1, none⟩ = some (.string a1_1) := (blk_cell BK204.out 1).trans rfl
                    have hfz151_0 := blk_frozen BK204.out 0
                    have hfz151_1 := blk_frozen BK204.out 1
                    have hnb152 := NB208_203.out
                    have hnc152 := NB203_208.out
                    have hnb153 := NB208_205.out
                    have hnc153 := NB205_208.out
                    have hcz154_0 : wc.cell? ⟨gb208, 0, none⟩ = some (.string a0_0) := (blk_cell BK208.out 0).trans rfl
                    have hcz154_1 : wc.cell? ⟨gb208, 1, none⟩ = some (.string a0_1) := (blk_cell BK208.out 1).trans rfl
                    have hfz154_0 := blk_frozen BK208.out 0
                    have hfz154_1 := blk_frozen BK208.out 1
                    go_wp2_with (first | ((with_reducible refine gate_callee (f := 29) rfl ?_); refine goesL_ (some 44) rfl rfl Try.func29 (by kernel_rfl) rfl #[.agg #[.string a0_0, .string a1_1]] rfl (by (try simp only [List.map_toArray, List.map_cons, List.map_nil]); first | done | rfl | (simp only [List.length_drop, List.length_take]; rfl)) ?_; (with_reducible refine (spec_IntervalValid.calls kj101 a0_0 a1_1 false _ A135.out).mono ?_); rintro e w155 ⟨rfl, hb⟩; refine ⟨_, rfl, ?_⟩; have n0_ := Aside0.mk (blk_below (g := gb203) (o := .cells #[.string a0_0, .string a0_1] 35 (0, 0)) (by (with_reducible repeat (first | refine blk_drewN ?_ _ | refine blk_drew ?_ | refine blk_alloc ?_ _)); refine blk_far ?_ NB203_208.out _; (with_reducible repeat (first | refine blk_drewN ?_ _ | refine blk_drew ?_ | refine blk_alloc ?_ _)); exact BK203.out) hb); have n1_ := Aside0.mk (blk_below (g := gb204) (o := .cells #[.string a1_0, .string a1_1] 35 (0, 0)) (by (with_reducible repeat (first | refine blk_drewN ?_ _ | refine blk_drew ?_ | refine blk_alloc ?_ _)); refine blk_far ?_ NB204_208.out _; (with_reducible repeat (first | refine blk_drewN ?_ _ | refine blk_drew ?_ | refine blk_alloc ?_ _)); exact BK204.out) hb); have n2_ := Aside0.mk (blk_below (g := gb205) (o := .cells #[.string (⟨#[]⟩ : ByteArray), .string (⟨#[]⟩ : ByteArray)] 35 (0, 0)) (by (with_reducible repeat (first | refine blk_drewN ?_ _ | refine blk_drew ?_ | refine blk_alloc ?_ _)); refine blk_far ?_ NB205_208.out _; (with_reducible repeat (first | refine blk_drewN ?_ _ | refine blk_drew ?_ | refine blk_alloc ?_ _)); exact BK205.out) hb); have n3_ := Aside0.mk (blk_below (g := gb208) (o := .cells #[.string a0_0, .string a1_1] 35 (0, 0)) (by (with_reducible repeat (first | refine blk_drewN ?_ _ | refine blk_drew ?_ | refine blk_alloc ?_ _)); refine blk_put (cs := #[.string a0_0, .string a0_1]) ?_ 1 _ rfl; (with_reducible repeat (first | refine blk_drewN ?_ _ | refine blk_drew ?_ | refine blk_alloc ?_ _)); exact BK208.out) hb); have n4_ := Aside0.mk (below_step (by repeat (first | (with_reducible first | exact HB.out | apply below_alloc | apply pw_below_drewN | apply below_drew1 | refine below_set ?_ GE203.out | refine below_set ?_ GE204.out | refine below_set ?_ GE205.out | refine below_set ?_ GE208.out) | exact HB.out)) hb); clear BK203; clear BK204; clear BK205; clear BK208; clear HB; have BK203 := n0_; have BK204 := n1_; have BK205 := n2_; have BK208 := n3_; have HB := n4_; clear n0_ n1_ n2_ n3_ n4_; (try clear hb); (try clear hb2); (try clear hk); (try clear hi); have hnb156 := NB205_203.out; have hnc156 := NB203_205.out; have hcz157_0 : w155.cell? ⟨gb205, 0, none⟩ = some (.string (⟨#[]⟩ : ByteArray)) := (blk_cell BK205.out 0).trans rfl; have hcz157_1 : w155.cell? ⟨gb205, 1, none⟩ = some (.string (⟨#[]⟩ : ByteArray)) := (blk_cell BK205.out 1).trans rfl; have hfz157_0 := blk_frozen BK205.out 0; have hfz157_1 := blk_frozen BK205.out 1))
                    refine bodyPost_ret (results_ct rfl _ _ gb205 35 #[.string (⟨#[]⟩ : ByteArray), .string (⟨#[]⟩ : ByteArray)] (0, 0) _ rfl (by (with_reducible repeat (first | refine blk_drewN ?_ _ | refine blk_drew ?_ | refine blk_alloc ?_ _)); refine blk_put (cs := #[.string (⟨#[]⟩ : ByteArray), .string (⟨#[]⟩ : ByteArray)]) ?_ 1 _ rfl; (with_reducible repeat (first | refine blk_drewN ?_ _ | refine blk_drew ?_ | refine blk_alloc ?_ _)); refine blk_put (cs := #[.string (⟨#[]⟩ : ByteArray), .string (⟨#[]⟩ : ByteArray)]) ?_ 0 _ rfl; (with_reducible repeat (first | refine blk_drewN ?_ _ | refine blk_drew ?_ | refine blk_alloc ?_ _)); exact BK205.out) Try.underlying35 rfl (by kernel_rfl)) rfl ?_
                    exact ⟨by first | rfl | (simp only [u8_w_, w64_u8_]; done) | (simp only [u8_w_, w64_u8_]; rfl) | (simp [errW_none, errW_some] <;> rfl) | (simp [*, errW_none, errW_some] <;> rfl), by repeat (first | (with_reducible first | exact HB.out | apply below_alloc | apply pw_below_drewN | apply below_drew1 | refine below_set ?_ GE203.out | refine below_set ?_ GE204.out | refine below_set ?_ GE205.out | refine below_set ?_ GE208.out) | exact HB.out)⟩
                · replace c134 := Bool.eq_false_iff.mpr c134
                  subst c134
                  have H1 : ((spec_IntervalValid.f kj101 a0_0 a0_1).bind fun t212 => (if t212 = true then (some (a0_0, a0_1, true)) else (some ((⟨#[]⟩ : ByteArray), (⟨#[]⟩ : ByteArray), false)))) = some (r1, r2, r3) := by rw [if_neg (show ¬ (false = true) by decide)] at H; exact H
                  clear H
                  have H := H1
                  clear H1
                  replace H := Option.bind_eq_some_iff.mp H
                  obtain ⟨t212, A1580, H⟩ := H
                  replace H : (if t212 = true then (some (a0_0, a0_1, true)) else (some ((⟨#[]⟩ : ByteArray), (⟨#[]⟩ : ByteArray), false))) = some (r1, r2, r3) := H
                  have A158 := Aside0.mk A1580
                  clear A1580
                  by_cases c159 : t212 = true
                  · subst c159
                    have H1 : (some (a0_0, a0_1, true)) = some (r1, r2, r3) := by rw [if_pos rfl] at H; exact H
                    clear H
                    have H := H1
                    clear H1
                    simp only [Option.some.injEq, Prod.mk.injEq] at H
                    obtain ⟨rfl, rfl, rfl⟩ := H
                    have hnb160 := NB208_203.out
                    have hnc160 := NB203_208.out
                    have hnb161 := NB208_204.out
                    have hnc161 := NB204_208.out
                    have hnb162 := NB208_205.out
                    have hnc162 := NB205_208.out
                    have hcz163_0 : wc.cell? ⟨gb208, 0, none⟩ = some (.string a0_0) := (blk_cell BK208.out 0).trans rfl
                    have hcz163_1 : wc.cell? ⟨gb208, 1, none⟩ = some (.string a0_1) := (blk_cell BK208.out 1).trans rfl
                    have hfz163_0 := blk_frozen BK208.out 0
                    have hfz163_1 := blk_frozen BK208.out 1
                    go_wp2_with (first | ((with_reducible refine gate_callee (f := 29) rfl ?_); refine goesL_ (some 44) rfl rfl Try.func29 (by kernel_rfl) rfl #[.agg #[.string a0_0, .string a0_1]] rfl (by (try simp only [List.map_toArray, List.map_cons, List.map_nil]); first | done | rfl | (simp only [List.length_drop, List.length_take]; rfl)) ?_; (with_reducible refine (spec_IntervalValid.calls kj101 a0_0 a0_1 true _ A158.out).mono ?_); rintro e w164 ⟨rfl, hb⟩; refine ⟨_, rfl, ?_⟩; have n0_ := Aside0.mk (blk_below (g := gb203) (o := .cells #[.string a0_0, .string a0_1] 35 (0, 0)) (by (with_reducible repeat (first | refine blk_drewN ?_ _ | refine blk_drew ?_ | refine blk_alloc ?_ _)); exact BK203.out) hb); have n1_ := Aside0.mk (blk_below (g := gb204) (o := .cells #[.string a1_0, .string a1_1] 35 (0, 0)) (by (with_reducible repeat (first | refine blk_drewN ?_ _ | refine blk_drew ?_ | refine blk_alloc ?_ _)); exact BK204.out) hb); have n2_ := Aside0.mk (blk_below (g := gb205) (o := .cells #[.string (⟨#[]⟩ : ByteArray), .string (⟨#[]⟩ : ByteArray)] 35 (0, 0)) (by (with_reducible repeat (first | refine blk_drewN ?_ _ | refine blk_drew ?_ | refine blk_alloc ?_ _)); exact BK205.out) hb); have n3_ := Aside0.mk (blk_below (g := gb208) (o := .cells #[.string a0_0, .string a0_1] 35 (0, 0)) (by (with_reducible repeat (first | refine blk_drewN ?_ _ | refine blk_drew ?_ | refine blk_alloc ?_ _)); exact BK208.out) hb); have n4_ := Aside0.mk (below_step (by repeat (first | (with_reducible first | exact HB.out | apply below_alloc | apply pw_below_drewN | apply below_drew1 | refine below_set ?_ GE203.out | refine below_set ?_ GE204.out | refine below_set ?_ GE205.out | refine below_set ?_ GE208.out) | exact HB.out)) hb); clear BK203; clear BK204; clear BK205; clear BK208; clear HB; have BK203 := n0_; have BK204 := n1_; have BK205 := n2_; have BK208 := n3_; have HB := n4_; clear n0_ n1_ n2_ n3_ n4_; (try clear hb); (try clear hb2); (try clear hk); (try clear hi); have hcz165_0 : w164.cell? ⟨gb208, 0, none⟩ = some (.string a0_0) := (blk_cell BK208.out 0).trans rfl; have hcz165_1 : w164.cell? ⟨gb208, 1, none⟩ = some (.string a0_1) := (blk_cell BK208.out 1).trans rfl; have hfz165_0 := blk_frozen BK208.out 0; have hfz165_1 := blk_frozen BK208.out 1; have hnb166 := NB205_203.out; have hnc166 := NB203_205.out; have hnb167 := NB205_204.out; have hnc167 := NB204_205.out; have hcz168_0 : w164.cell? ⟨gb205, 0, none⟩ = some (.string (⟨#[]⟩ : ByteArray)) := (blk_cell BK205.out 0).trans rfl; have hcz168_1 : w164.cell? ⟨gb205, 1, none⟩ = some (.string (⟨#[]⟩ : ByteArray)) := (blk_cell BK205.out 1).trans rfl; have hfz168_0 := blk_frozen BK205.out 0; have hfz168_1 := blk_frozen BK205.out 1))
                    refine bodyPost_ret (results_ct rfl _ _ gb205 35 #[.string a0_0, .string a0_1] (0, 0) _ rfl (by (with_reducible repeat (first | refine blk_drewN ?_ _ | refine blk_drew ?_ | refine blk_alloc ?_ _)); refine blk_put (cs := #[.string a0_0, .string (⟨#[]⟩ : ByteArray)]) ?_ 1 _ rfl; (with_reducible repeat (first | refine blk_drewN ?_ _ | refine blk_drew ?_ | refine blk_alloc ?_ _)); refine blk_put (cs := #[.string (⟨#[]⟩ : ByteArray), .string (⟨#[]⟩ : ByteArray)]) ?_ 0 _ rfl; (with_reducible repeat (first | refine blk_drewN ?_ _ | refine blk_drew ?_ | refine blk_alloc ?_ _)); exact BK205.out) Try.underlying35 rfl (by kernel_rfl)) rfl ?_
                    exact ⟨by first | rfl | (simp only [u8_w_, w64_u8_]; done) | (simp only [u8_w_, w64_u8_]; rfl) | (simp [errW_none, errW_some] <;> rfl) | (simp [*, errW_none, errW_some] <;> rfl), by repeat (first | (with_reducible first | exact HB.out | apply below_alloc | apply pw_below_drewN | apply below_drew1 | refine below_set ?_ GE203.out | refine below_set ?_ GE204.out | refine below_set ?_ GE205.out | refine below_set ?_ GE208.out) | exact HB.out)⟩
                  · replace c159 := Bool.eq_false_iff.mpr c159
                    subst c159
                    have H1 : (some ((⟨#[]⟩ : ByteArray), (⟨#[]⟩ : ByteArray), false)) = some (r1, r2, r3) := by rw [if_neg (show ¬ (false = true) by decide)] at H; exact H
                    clear H
                    have H := H1
                    clear H1
                    simp only [Option.some.injEq, Prod.mk.injEq] at H
                    obtain ⟨rfl, rfl, rfl⟩ := H
                    have hnb169 := NB208_203.out
                    have hnc169 := NB203_208.out
                    have hnb170 := NB208_204.out
                    have hnc170 := NB204_208.out
                    have hnb171 := NB208_205.out
                    have hnc171 := NB205_208.out
                    have hcz172_0 : wc.cell? ⟨gb208, 0, none⟩ = some (.string a0_0) := (blk_cell BK208.out 0).trans rfl
                    have hcz172_1 : wc.cell? ⟨gb208, 1, none⟩ = some (.string a0_1) := (blk_cell BK208.out 1).trans rfl
                    have hfz172_0 := blk_frozen BK208.out 0
                    have hfz172_1 := blk_frozen BK208.out 1
                    go_wp2_with (first | ((with_reducible refine gate_callee (f := 29) rfl ?_); refine goesL_ (some 44) rfl rfl Try.func29 (by kernel_rfl) rfl #[.agg #[.string a0_0, .string a0_1]] rfl (by (try simp only [List.map_toArray, List.map_cons, List.map_nil]); first | done | rfl | (simp only [List.length_drop, List.length_take]; rfl)) ?_; (with_reducible refine (spec_IntervalValid.calls kj101 a0_0 a0_1 false _ A158.out).mono ?_); rintro e w173 ⟨rfl, hb⟩; refine ⟨_, rfl, ?_⟩; have n0_ := Aside0.mk (blk_below (g := gb203) (o := .cells #[.string a0_0, .string a0_1] 35 (0, 0)) (by (with_reducible repeat (first | refine blk_drewN ?_ _ | refine blk_drew ?_ | refine blk_alloc ?_ _)); exact BK203.out) hb); have n1_ := Aside0.mk (blk_below (g := gb204) (o := .cells #[.string a1_0, .string a1_1] 35 (0, 0)) (by (with_reducible repeat (first | refine blk_drewN ?_ _ | refine blk_drew ?_ | refine blk_alloc ?_ _)); exact BK204.out) hb); have n2_ := Aside0.mk (blk_below (g := gb205) (o := .cells #[.string (⟨#[]⟩ : ByteArray), .string (⟨#[]⟩ : ByteArray)] 35 (0, 0)) (by (with_reducible repeat (first | refine blk_drewN ?_ _ | refine blk_drew ?_ | refine blk_alloc ?_ _)); exact BK205.out) hb); have n3_ := Aside0.mk (blk_below (g := gb208) (o := .cells #[.string a0_0, .string a0_1] 35 (0, 0)) (by (with_reducible repeat (first | refine blk_drewN ?_ _ | refine blk_drew ?_ | refine blk_alloc ?_ _)); exact BK208.out) hb); have n4_ := Aside0.mk (below_step (by repeat (first | (with_reducible first | exact HB.out | apply below_alloc | apply pw_below_drewN | apply below_drew1 | refine below_set ?_ GE203.out | refine below_set ?_ GE204.out | refine below_set ?_ GE205.out | refine below_set ?_ GE208.out) | exact HB.out)) hb); clear BK203; clear BK204; clear BK205; clear BK208; clear HB; have BK203 := n0_; have BK204 := n1_; have BK205 := n2_; have BK208 := n3_; have HB := n4_; clear n0_ n1_ n2_ n3_ n4_; (try clear hb); (try clear hb2); (try clear hk); (try clear hi); have hnb174 := NB205_203.out; have hnc174 := NB203_205.out; have hnb175 := NB205_204.out; have hnc175 := NB204_205.out; have hcz176_0 : w173.cell? ⟨gb205, 0, none⟩ = some (.string (⟨#[]⟩ : ByteArray)) := (blk_cell BK205.out 0).trans rfl; have hcz176_1 : w173.cell? ⟨gb205, 1, none⟩ = some (.string (⟨#[]⟩ : ByteArray)) := (blk_cell BK205.out 1).trans rfl; have hfz176_0 := blk_frozen BK205.out 0; have hfz176_1 := blk_frozen BK205.out 1))
                    refine bodyPost_ret (results_ct rfl _ _ gb205 35 #[.string (⟨#[]⟩ : ByteArray), .string (⟨#[]⟩ : ByteArray)] (0, 0) _ rfl (by (with_reducible repeat (first | refine blk_drewN ?_ _ | refine blk_drew ?_ | refine blk_alloc ?_ _)); refine blk_put (cs := #[.string (⟨#[]⟩ : ByteArray), .string (⟨#[]⟩ : ByteArray)]) ?_ 1 _ rfl; (with_reducible repeat (first | refine blk_drewN ?_ _ | refine blk_drew ?_ | refine blk_alloc ?_ _)); refine blk_put (cs := #[.string (⟨#[]⟩ : ByteArray), .string (⟨#[]⟩ : ByteArray)]) ?_ 0 _ rfl; (with_reducible repeat (first | refine blk_drewN ?_ _ | refine blk_drew ?_ | refine blk_alloc ?_ _)); exact BK205.out) Try.underlying35 rfl (by kernel_rfl)) rfl ?_
                    exact ⟨by first | rfl | (simp only [u8_w_, w64_u8_]; done) | (simp only [u8_w_, w64_u8_]; rfl) | (simp [errW_none, errW_some] <;> rfl) | (simp [*, errW_none, errW_some] <;> rfl), by repeat (first | (with_reducible first | exact HB.out | apply below_alloc | apply pw_below_drewN | apply below_drew1 | refine below_set ?_ GE203.out | refine below_set ?_ GE204.out | refine below_set ?_ GE205.out | refine below_set ?_ GE208.out) | exact HB.out)⟩
          · rw [if_neg c101] at H
            have c101b0 : (a1_0.toList == a0_0.toList) = false := beq_eq_false_iff_ne.mpr c101
            have c101b1 : (a1_0.toList != a0_0.toList) = true := bne_iff_ne.mpr c101
            have HC177 := Aside0.mk H
            clear H
            have hnb178 := NB203_204.out
            have hnc178 := NB204_203.out
            have hnb179 := NB203_205.out
            have hnc179 := NB205_203.out
            have hcz180_0 : wc.cell? ⟨gb203, 0, none⟩ = some (.string a0_0) := (blk_cell BK203.out 0).trans rfl
            have hcz180_1 : wc.cell? ⟨gb203, 1, none⟩ = some (.string a0_1) := (blk_cell BK203.out 1).trans rfl
            have hfz180_0 := blk_frozen BK203.out 0
            have hfz180_1 := blk_frozen BK203.out 1
            go_upto_region 6 with (first | ((with_reducible refine gate_dst (N := 6) rfl ?_); refine box_event ?hg (N := 6) ?hd (cs := #[.string (⟨#[]⟩ : ByteArray), .string (⟨#[]⟩ : ByteArray)]) (t := 35) ?hr ?_; (case hd => rfl); (case hg => rfl); (case hr => first | (go_simp; done) | (go_simp; rfl)); intro gb208 hg w181 hbox hb; have n0_ := Aside0.mk (blk_below (g := gb203) (o := .cells #[.string a0_0, .string a0_1] 35 (0, 0)) (by (with_reducible repeat (first | refine blk_drewN ?_ _ | refine blk_drew ?_ | refine blk_alloc ?_ _)); exact BK203.out) hb); have n1_ := Aside0.mk (blk_below (g := gb204) (o := .cells #[.string a1_0, .string a1_1] 35 (0, 0)) (by (with_reducible repeat (first | refine blk_drewN ?_ _ | refine blk_drew ?_ | refine blk_alloc ?_ _)); exact BK204.out) hb); have n2_ := Aside0.mk (blk_below (g := gb205) (o := .cells #[.string (⟨#[]⟩ : ByteArray), .string (⟨#[]⟩ : ByteArray)] 35 (0, 0)) (by (with_reducible repeat (first | refine blk_drewN ?_ _ | refine blk_drew ?_ | refine blk_alloc ?_ _)); exact BK205.out) hb); have n3_ := Aside0.mk (below_step (by repeat (first | (with_reducible first | exact HB.out | apply below_alloc | apply pw_below_drewN | apply below_drew1 | refine below_set ?_ GE203.out | refine below_set ?_ GE204.out | refine below_set ?_ GE205.out) | exact HB.out)) hb); have n4_ := Aside0.mk (hbox); have n5_ := Aside0.mk ((by rw [hg]; exact (below_size (by repeat (first | (with_reducible first | exact HB.out | apply below_alloc | apply pw_below_drewN | apply below_drew1 | refine below_set ?_ GE203.out | refine below_set ?_ GE204.out | refine below_set ?_ GE205.out) | exact HB.out))) : w.heap.size ≤ gb208)); have n6_ := Aside0.mk ((by rw [hg]; exact (below_size (by repeat (first | (with_reducible first | exact HB.out | apply below_alloc | apply pw_below_drewN | apply below_drew1 | refine below_set ?_ GE203.out | refine below_set ?_ GE204.out | refine below_set ?_ GE205.out) | exact HB.out))) : w.heap.size ≤ gb208)); have n7_ := Aside0.mk ((by rw [hg]; exact Nat.ne_of_lt (blk_lt (g := gb203) (o := .cells #[.string a0_0, .string a0_1] 35 (0, 0)) (by (with_reducible repeat (first | refine blk_drewN ?_ _ | refine blk_drew ?_ | refine blk_alloc ?_ _)); exact BK203.out)) : gb203 ≠ gb208)); have n8_ := Aside0.mk ((by rw [hg]; exact Nat.ne_of_gt (blk_lt (g := gb203) (o := .cells #[.string a0_0, .string a0_1] 35 (0, 0)) (by (with_reducible repeat (first | refine blk_drewN ?_ _ | refine blk_drew ?_ | refine blk_alloc ?_ _)); exact BK203.out)) : gb208 ≠ gb203)); have n9_ := Aside0.mk ((by rw [hg]; exact Nat.ne_of_lt (blk_lt (g := gb204) (o := .cells #[.string a1_0, .string a1_1] 35 (0, 0)) (by (with_reducible repeat (first | refine blk_drewN ?_ _ | refine blk_drew ?_ | refine blk_alloc ?_ _)); exact BK204.out)) : gb204 ≠ gb208)); have n10_ := Aside0.mk ((by rw [hg]; exact Nat.ne_of_gt (blk_lt (g := gb204) (o := .cells #[.string a1_0, .string a1_1] 35 (0, 0)) (by (with_reducible repeat (first | refine blk_drewN ?_ _ | refine blk_drew ?_ | refine blk_alloc ?_ _)); exact BK204.out)) : gb208 ≠ gb204)); have n11_ := Aside0.mk ((by rw [hg]; exact Nat.ne_of_lt (blk_lt (g := gb205) (o := .cells #[.string (⟨#[]⟩ : ByteArray), .string (⟨#[]⟩ : ByteArray)] 35 (0, 0)) (by (with_reducible repeat (first | refine blk_drewN ?_ _ | refine blk_drew ?_ | refine blk_alloc ?_ _)); exact BK205.out)) : gb205 ≠ gb208)); have n12_ := Aside0.mk ((by rw [hg]; exact Nat.ne_of_gt (blk_lt (g := gb205) (o := .cells #[.string (⟨#[]⟩ : ByteArray), .string (⟨#[]⟩ : ByteArray)] 35 (0, 0)) (by (with_reducible repeat (first | refine blk_drewN ?_ _ | refine blk_drew ?_ | refine blk_alloc ?_ _)); exact BK205.out)) : gb208 ≠ gb205)); clear BK203; clear BK204; clear BK205; clear HB; have BK203 := n0_; have BK204 := n1_; have BK205 := n2_; have HB := n3_; have BK208 := n4_; have GW208 := n5_; have GE208 := n6_; have NB203_208 := n7_; have NB208_203 := n8_; have NB204_208 := n9_; have NB208_204 := n10_; have NB205_208 := n11_; have NB208_205 := n12_; clear n0_ n1_ n2_ n3_ n4_ n5_ n6_ n7_ n8_ n9_ n10_ n11_ n12_; clear hb hbox hg; have hnb182 := NB208_203.out; have hnc182 := NB203_208.out; have hnb183 := NB208_204.out; have hnc183 := NB204_208.out; have hnb184 := NB208_205.out; have hnc184 := NB205_208.out; have hcz185_0 : w181.cell? ⟨gb208, 0, none⟩ = some (.string (⟨#[]⟩ : ByteArray)) := (blk_cell BK208.out 0).trans rfl; have hcz185_1 : w181.cell? ⟨gb208, 1, none⟩ = some (.string (⟨#[]⟩ : ByteArray)) := (blk_cell BK208.out 1).trans rfl; have hfz185_0 := blk_frozen BK208.out 0; have hfz185_1 := blk_frozen BK208.out 1; have hnb186 := NB204_205.out; have hnc186 := NB205_204.out; have hcz187_0 : w181.cell? ⟨gb204, 0, none⟩ = some (.string a1_0) := (blk_cell BK204.out 0).trans rfl; have hcz187_1 : w181.cell? ⟨gb204, 1, none⟩ = some (.string a1_1) := (blk_cell BK204.out 1).trans rfl; have hfz187_0 := blk_frozen BK204.out 0; have hfz187_1 := blk_frozen BK204.out 1; have hcz188_0 : w181.cell? ⟨gb203, 0, none⟩ = some (.string a0_0) := (blk_cell BK203.out 0).trans rfl; have hcz188_1 : w181.cell? ⟨gb203, 1, none⟩ = some (.string a0_1) := (blk_cell BK203.out 1).trans rfl; have hfz188_0 := blk_frozen BK203.out 0; have hfz188_1 := blk_frozen BK203.out 1))
            (try simp only [Act.put, List.setIfInBounds_toArray, List.set_cons_zero, List.set_cons_succ])
            go_cut [39] (fun v39 wc => ∃ (kq : Nat) (x39_176 : Bool), v39 = .bool x39_176 ∧ Aside0 (spec_IntervalMeet.j3 kq x39_176 a1_0 a1_1 a1_0 a0_1 = some (r1, r2, r3)) ∧ Aside0 (kq ≤ kj2) ∧ Aside0 (wc.heap[gb203]? = some (.cells #[.string a0_0, .string a0_1] 35 (0, 0))) ∧ Aside0 (wc.heap[gb204]? = some (.cells #[.string a1_0, .string a1_1] 35 (0, 0))) ∧ Aside0 (wc.heap[gb205]? = some (.cells #[.string (⟨#[]⟩ : ByteArray), .string (⟨#[]⟩ : ByteArray)] 35 (0, 0))) ∧ Aside0 (wc.heap[gb208]? = some (.cells #[.string a1_0, .string a0_1] 35 (0, 0))) ∧ Aside0 (Below w.heap.size w wc))
            case first =>
              have H := HC177.out
              clear HC177
              by_cases c189 : a1_1.toList = ([] : List UInt8)
              · rw [if_pos c189] at H
                have c189b0 : (a1_1.toList == ([] : List UInt8)) = true := beq_iff_eq.mpr c189
                have c189b1 : (a1_1.toList != ([] : List UInt8)) = false := bne_eq_false_iff_eq.mpr c189
                clear c189
                (first | rw [c189b0] | (simp only [i64_w, i32_w]; rw [c189b0]) | skip)
                have H' := Aside0.mk H
                clear H
                have hnb190 := NB204_203.out
                have hnc190 := NB203_204.out
                have hnb191 := NB204_205.out
                have hnc191 := NB205_204.out
                have hnb192 := NB204_208.out
                have hnc192 := NB208_204.out
                have hcz193_0 : w181.cell? ⟨gb204, 0, none⟩ = some (.string a1_0) := (blk_cell BK204.out 0).trans rfl
                have hcz193_1 : w181.cell? ⟨gb204, 1, none⟩ = some (.string a1_1) := (blk_cell BK204.out 1).trans rfl
                have hfz193_0 := blk_frozen BK204.out 0
                have hfz193_1 := blk_frozen BK204.out 1
                go_wp2
                go_meet
                case rel => exact ⟨_, (false), (by first | rfl | (simp; done) | (simp [bne]; done) | (simp [*]; done)), H', ⟨by have := HJ2.out; first | omega | exact Nat.le_refl _⟩, ⟨by (with_reducible repeat (first | refine blk_drewN ?_ _ | refine blk_drew ?_ | refine blk_alloc ?_ _)); refine blk_far ?_ NB203_208.out _; (with_reducible repeat (first | refine blk_drewN ?_ _ | refine blk_drew ?_ | refine blk_alloc ?_ _)); refine blk_far ?_ NB203_208.out _; (with_reducible repeat (first | refine blk_drewN ?_ _ | refine blk_drew ?_ | refine blk_alloc ?_ _)); refine blk_far ?_ NB203_208.out _; (with_reducible repeat (first | refine blk_drewN ?_ _ | refine blk_drew ?_ | refine blk_alloc ?_ _)); exact BK203.out⟩, ⟨by (with_reducible repeat (first | refine blk_drewN ?_ _ | refine blk_drew ?_ | refine blk_alloc ?_ _)); refine blk_far ?_ NB204_208.out _; (with_reducible repeat (first | refine blk_drewN ?_ _ | refine blk_drew ?_ | refine blk_alloc ?_ _)); refine blk_far ?_ NB204_208.out _; (with_reducible repeat (first | refine blk_drewN ?_ _ | refine blk_drew ?_ | refine blk_alloc ?_ _)); refine blk_far ?_ NB204_208.out _; (with_reducible repeat (first | refine blk_drewN ?_ _ | refine blk_drew ?_ | refine blk_alloc ?_ _)); exact BK204.out⟩, ⟨by (with_reducible repeat (first | refine blk_drewN ?_ _ | refine blk_drew ?_ | refine blk_alloc ?_ _)); refine blk_far ?_ NB205_208.out _; (with_reducible repeat (first | refine blk_drewN ?_ _ | refine blk_drew ?_ | refine blk_alloc ?_ _)); refine blk_far ?_ NB205_208.out _; (with_reducible repeat (first | refine blk_drewN ?_ _ | refine blk_drew ?_ | refine blk_alloc ?_ _)); refine blk_far ?_ NB205_208.out _; (with_reducible repeat (first | refine blk_drewN ?_ _ | refine blk_drew ?_ | refine blk_alloc ?_ _)); exact BK205.out⟩, ⟨by (with_reducible repeat (first | refine blk_drewN ?_ _ | refine blk_drew ?_ | refine blk_alloc ?_ _)); refine blk_put (cs := #[.string a0_0, .string a0_1]) ?_ 0 _ rfl; (with_reducible repeat (first | refine blk_drewN ?_ _ | refine blk_drew ?_ | refine blk_alloc ?_ _)); refine blk_put (cs := #[.string a0_0, .string (⟨#[]⟩ : ByteArray)]) ?_ 1 _ rfl; (with_reducible repeat (first | refine blk_drewN ?_ _ | refine blk_drew ?_ | refine blk_alloc ?_ _)); refine blk_put (cs := #[.string (⟨#[]⟩ : ByteArray), .string (⟨#[]⟩ : ByteArray)]) ?_ 0 _ rfl; (with_reducible repeat (first | refine blk_drewN ?_ _ | refine blk_drew ?_ | refine blk_alloc ?_ _)); exact BK208.out⟩, ⟨by repeat (first | (with_reducible first | exact HB.out | apply below_alloc | apply pw_below_drewN | apply below_drew1 | refine below_set ?_ GE203.out | refine below_set ?_ GE204.out | refine below_set ?_ GE205.out | refine below_set ?_ GE208.out) | exact HB.out)⟩⟩
              · rw [if_neg c189] at H
                have c189b0 : (a1_1.toList == ([] : List UInt8)) = false := beq_eq_false_iff_ne.mpr c189
                have c189b1 : (a1_1.toList != ([] : List UInt8)) = true := bne_iff_ne.mpr c189
                (first | rw [c189b0] | (simp only [i64_w, i32_w]; rw [c189b0]) | skip)
                by_cases c194 : a0_1.toList = ([] : List UInt8)
                · rw [if_pos c194] at H
                  have c194b0 : (a0_1.toList == ([] : List UInt8)) = true := beq_iff_eq.mpr c194
                  have c194b1 : (a0_1.toList != ([] : List UInt8)) = false := bne_eq_false_iff_eq.mpr c194
                  clear c194
                  have H' := Aside0.mk H
                  clear H
                  have hnb195 := NB204_203.out
                  have hnc195 := NB203_204.out
                  have hnb196 := NB204_205.out
                  have hnc196 := NB205_204.out
                  have hnb197 := NB204_208.out
                  have hnc197 := NB208_204.out
                  have hcz198_0 : w181.cell? ⟨gb204, 0, none⟩ = some (.string a1_0) := (blk_cell BK204.out 0).trans rfl
                  have hcz198_1 : w181.cell? ⟨gb204, 1, none⟩ = some (.string a1_1) := (blk_cell BK204.out 1).trans rfl
                  have hfz198_0 := blk_frozen BK204.out 0
                  have hfz198_1 := blk_frozen BK204.out 1
                  have hnb199 := NB203_205.out
                  have hnc199 := NB205_203.out
                  have hnb200 := NB203_208.out
                  have hnc200 := NB208_203.out
                  have hcz201_0 : w181.cell? ⟨gb203, 0, none⟩ = some (.string a0_0) := (blk_cell BK203.out 0).trans rfl
                  have hcz201_1 : w181.cell? ⟨gb203, 1, none⟩ = some (.string a0_1) := (blk_cell BK203.out 1).trans rfl
                  have hfz201_0 := blk_frozen BK203.out 0
                  have hfz201_1 := blk_frozen BK203.out 1
                  go_wp2
                  go_meet
                  case rel => exact ⟨_, (true), (by first | rfl | (simp; done) | (simp [bne]; done) | (simp [*]; done)), H', ⟨by have := HJ2.out; first | omega | exact Nat.le_refl _⟩, ⟨by (with_reducible repeat (first | refine blk_drewN ?_ _ | refine blk_drew ?_ | refine blk_alloc ?_ _)); refine blk_far ?_ NB203_208.out _; (with_reducible repeat (first | refine blk_drewN ?_ _ | refine blk_drew ?_ | refine blk_alloc ?_ _)); refine blk_far ?_ NB203_208.out _; (with_reducible repeat (first | refine blk_drewN ?_ _ | refine blk_drew ?_ | refine blk_alloc ?_ _)); refine blk_far ?_ NB203_208.out _; (with_reducible repeat (first | refine blk_drewN ?_ _ | refine blk_drew ?_ | refine blk_alloc ?_ _)); exact BK203.out⟩, ⟨by (with_reducible repeat (first | refine blk_drewN ?_ _ | refine blk_drew ?_ | refine blk_alloc ?_ _)); refine blk_far ?_ NB204_208.out _; (with_reducible repeat (first | refine blk_drewN ?_ _ | refine blk_drew ?_ | refine blk_alloc ?_ _)); refine blk_far ?_ NB204_208.out _; (with_reducible repeat (first | refine blk_drewN ?_ _ | refine blk_drew ?_ | refine blk_alloc ?_ _)); refine blk_far ?_ NB204_208.out _; (with_reducible repeat (first | refine blk_drewN ?_ _ | refine blk_drew ?_ | refine blk_alloc ?_ _)); exact BK204.out⟩, ⟨by (with_reducible repeat (first | refine blk_drewN ?_ _ | refine blk_drew ?_ | refine blk_alloc ?_ _)); refine blk_far ?_ NB205_208.out _; (with_reducible repeat (first | refine blk_drewN ?_ _ | refine blk_drew ?_ | refine blk_alloc ?_ _)); refine blk_far ?_ NB205_208.out _; (with_reducible repeat (first | refine blk_drewN ?_ _ | refine blk_drew ?_ | refine blk_alloc ?_ _)); refine blk_far ?_ NB205_208.out _; (with_reducible repeat (first | refine blk_drewN ?_ _ | refine blk_drew ?_ | refine blk_alloc ?_ _)); exact BK205.out⟩, ⟨by (with_reducible repeat (first | refine blk_drewN ?_ _ | refine blk_drew ?_ | refine blk_alloc ?_ _)); refine blk_put (cs := #[.string a0_0, .string a0_1]) ?_ 0 _ rfl; (with_reducible repeat (first | refine blk_drewN ?_ _ | refine blk_drew ?_ | refine blk_alloc ?_ _)); refine blk_put (cs := #[.string a0_0, .string (⟨#[]⟩ : ByteArray)]) ?_ 1 _ rfl; (with_reducible repeat (first | refine blk_drewN ?_ _ | refine blk_drew ?_ | refine blk_alloc ?_ _)); refine blk_put (cs := #[.string (⟨#[]⟩ : ByteArray), .string (⟨#[]⟩ : ByteArray)]) ?_ 0 _ rfl; (with_reducible repeat (first | refine blk_drewN ?_ _ | refine blk_drew ?_ | refine blk_alloc ?_ _)); exact BK208.out⟩, ⟨by repeat (first | (with_reducible first | exact HB.out | apply below_alloc | apply pw_below_drewN | apply below_drew1 | refine below_set ?_ GE203.out | refine below_set ?_ GE204.out | refine below_set ?_ GE205.out | refine below_set ?_ GE208.out) | exact HB.out)⟩⟩
                · rw [if_neg c194] at H
                  have c194b0 : (a0_1.toList == ([] : List UInt8)) = false := beq_eq_false_iff_ne.mpr c194
                  have c194b1 : (a0_1.toList != ([] : List UInt8)) = true := bne_iff_ne.mpr c194
                  have H' := Aside0.mk H
                  clear H
                  have hnb202 := NB204_203.out
                  have hnc202 := NB203_204.out
                  have hnb203 := NB204_205.out
                  have hnc203 := NB205_204.out
                  have hnb204 := NB204_208.out
                  have hnc204 := NB208_204.out
                  have hcz205_0 : w181.cell? ⟨gb204, 0, none⟩ = some (.string a1_0) := (blk_cell BK204.out 0).trans rfl
                  have hcz205_1 : w181.cell? ⟨gb204, 1, none⟩ = some (.string a1_1) := (blk_cell BK204.out 1).trans rfl
                  have hfz205_0 := blk_frozen BK204.out 0
                  have hfz205_1 := blk_frozen BK204.out 1
                  have hnb206 := NB203_205.out
                  have hnc206 := NB205_203.out
                  have hnb207 := NB203_208.out
                  have hnc207 := NB208_203.out
                  have hcz208_0 : w181.cell? ⟨gb203, 0, none⟩ = some (.string a0_0) := (blk_cell BK203.out 0).trans rfl
                  have hcz208_1 : w181.cell? ⟨gb203, 1, none⟩ = some (.string a0_1) := (blk_cell BK203.out 1).trans rfl
                  have hfz208_0 := blk_frozen BK203.out 0
                  have hfz208_1 := blk_frozen BK203.out 1
                  go_wp2
                  go_meet
                  case rel => exact ⟨_, ((Op.bytesLess a1_1.toList a0_1.toList)), (by first | rfl | (simp; done) | (simp [bne]; done) | (simp [*]; done)), H', ⟨by have := HJ2.out; first | omega | exact Nat.le_refl _⟩, ⟨by (with_reducible repeat (first | refine blk_drewN ?_ _ | refine blk_drew ?_ | refine blk_alloc ?_ _)); refine blk_far ?_ NB203_208.out _; (with_reducible repeat (first | refine blk_drewN ?_ _ | refine blk_drew ?_ | refine blk_alloc ?_ _)); refine blk_far ?_ NB203_208.out _; (with_reducible repeat (first | refine blk_drewN ?_ _ | refine blk_drew ?_ | refine blk_alloc ?_ _)); refine blk_far ?_ NB203_208.out _; (with_reducible repeat (first | refine blk_drewN ?_ _ | refine blk_drew ?_ | refine blk_alloc ?_ _)); exact BK203.out⟩, ⟨by (with_reducible repeat (first | refine blk_drewN ?_ _ | refine blk_drew ?_ | refine blk_alloc ?_ _)); refine blk_far ?_ NB204_208.out _; (with_reducible repeat (first | refine blk_drewN ?_ _ | refine blk_drew ?_ | refine blk_alloc ?_ _)); refine blk_far ?_ NB204_208.out _; (with_reducible repeat (first | refine blk_drewN ?_ _ | refine blk_drew ?_ | refine blk_alloc ?_ _)); refine blk_far ?_ NB204_208.out _; (with_reducible repeat (first | refine blk_drewN ?_ _ | refine blk_drew ?_ | refine blk_alloc ?_ _)); exact BK204.out⟩, ⟨by (with_reducible repeat (first | refine blk_drewN ?_ _ | refine blk_drew ?_ | refine blk_alloc ?_ _)); refine blk_far ?_ NB205_208.out _; (with_reducible repeat (first | refine blk_drewN ?_ _ | refine blk_drew ?_ | refine blk_alloc ?_ _)); refine blk_far ?_ NB205_208.out _; (with_reducible repeat (first | refine blk_drewN ?_ _ | refine blk_drew ?_ | refine blk_alloc ?_ _)); refine blk_far ?_ NB205_208.out _; (with_reducible repeat (first | refine blk_drewN ?_ _ | refine blk_drew ?_ | refine blk_alloc ?_ _)); exact BK205.out⟩, ⟨by (with_reducible repeat (first | refine blk_drewN ?_ _ | refine blk_drew ?_ | refine blk_alloc ?_ _)); refine blk_put (cs := #[.string a0_0, .string a0_1]) ?_ 0 _ rfl; (with_reducible repeat (first | refine blk_drewN ?_ _ | refine blk_drew ?_ | refine blk_alloc ?_ _)); refine blk_put (cs := #[.string a0_0, .string (⟨#[]⟩ : ByteArray)]) ?_ 1 _ rfl; (with_reducible repeat (first | refine blk_drewN ?_ _ | refine blk_drew ?_ | refine blk_alloc ?_ _)); refine blk_put (cs := #[.string (⟨#[]⟩ : ByteArray), .string (⟨#[]⟩ : ByteArray)]) ?_ 0 _ rfl; (with_reducible repeat (first | refine blk_drewN ?_ _ | refine blk_drew ?_ | refine blk_alloc ?_ _)); exact BK208.out⟩, ⟨by repeat (first | (with_reducible first | exact HB.out | apply below_alloc | apply pw_below_drewN | apply below_drew1 | refine below_set ?_ GE203.out | refine below_set ?_ GE204.out | refine below_set ?_ GE205.out | refine below_set ?_ GE208.out) | exact HB.out)⟩⟩
            case rest =>
              clear HC177
              try clear c1
              try clear c2
              try clear p2
              try clear c3
              try clear c4
              try clear c5
              try clear c6
              try clear c7
              try clear c8
              try clear c9
              try clear c10
              try clear c11
              try clear c12
              try clear c13
              try clear c14
              try clear c15
              try clear c16
              try clear c17
              try clear c18
              try clear c19
              try clear c20
              try clear c21
              try clear c22
              try clear c23
              try clear c25
              try clear c25b0
              try clear c27
              try clear c28
              try clear c29
              try clear c31
              try clear c32
              try clear c33
              try clear c35
              try clear c38
              try clear c38b0
              try clear c38b1
              try clear c39
              try clear c40
              try clear c41
              try clear c43
              try clear c43b0
              try clear c43b1
              try clear c44
              try clear c45
              try clear c46
              try clear c48
              try clear c49
              try clear c51
              try clear c52
              try clear c53
              try clear c55
              try clear c56
              try clear c58
              try clear c60
              try clear c61
              try clear c62
              try clear c63
              try clear c65
              try clear c66
              try clear c70
              try clear c72
              try clear c73
              try clear c74
              try clear c76
              try clear c77
              try clear c80
              try clear c83
              try clear c84
              try clear c85
              try clear c86
              try clear c90
              try clear c91
              try clear c93
              try clear c94
              try clear c95
              try clear c98
              try clear c99
              try clear c101
              try clear c101b0
              try clear c101b1
              try clear c103
              try clear c104
              try clear c107
              try clear c108
              try clear c109
              try clear c111
              try clear c114
              try clear c114b0
              try clear c114b1
              try clear c115
              try clear c116
              try clear c117
              try clear c119
              try clear c119b0
              try clear c119b1
              try clear c120
              try clear c121
              try clear c122
              try clear c124
              try clear c125
              try clear c127
              try clear c128
              try clear c129
              try clear c131
              try clear c132
              try clear c134
              try clear c136
              try clear c137
              try clear c138
              try clear c139
              try clear c141
              try clear c142
              try clear c146
              try clear c148
              try clear c149
              try clear c150
              try clear c152
              try clear c153
              try clear c156
              try clear c159
              try clear c160
              try clear c161
              try clear c162
              try clear c166
              try clear c167
              try clear c169
              try clear c170
              try clear c171
              try clear c174
              try clear c175
              try clear c178
              try clear c179
              try clear c182
              try clear c183
              try clear c184
              try clear c186
              try clear c189
              try clear c189b0
              try clear c189b1
              try clear c190
              try clear c191
              try clear c192
              try clear c194
              try clear c194b0
              try clear c194b1
              try clear c195
              try clear c196
              try clear c197
              try clear c199
              try clear c200
              try clear c202
              try clear c203
              try clear c204
              try clear c206
              try clear c207
              try clear hcz100_0
              try clear hcz100_1
              try clear hcz105_0
              try clear hcz105_1
              try clear hcz110_0
              try clear hcz110_1
              try clear hcz112_0
              try clear hcz112_1
              try clear hcz113_0
              try clear hcz113_1
              try clear hcz118_0
              try clear hcz118_1
              try clear hcz123_0
              try clear hcz123_1
              try clear hcz126_0
              try clear hcz126_1
              try clear hcz12_0
              try clear hcz12_1
              try clear hcz130_0
              try clear hcz130_1
              try clear hcz133_0
              try clear hcz133_1
              try clear hcz140_0
              try clear hcz140_1
              try clear hcz143_0
              try clear hcz143_1
              try clear hcz145_0
              try clear hcz145_1
              try clear hcz147_0
              try clear hcz147_1
              try clear hcz151_0
              try clear hcz151_1
              try clear hcz154_0
              try clear hcz154_1
              try clear hcz157_0
              try clear hcz157_1
              try clear hcz15_0
              try clear hcz15_1
              try clear hcz163_0
              try clear hcz163_1
              try clear hcz165_0
              try clear hcz165_1
              try clear hcz168_0
              try clear hcz168_1
              try clear hcz172_0
              try clear hcz172_1
              try clear hcz176_0
              try clear hcz176_1
              try clear hcz180_0
              try clear hcz180_1
              try clear hcz185_0
              try clear hcz185_1
              try clear hcz187_0
              try clear hcz187_1
              try clear hcz188_0
              try clear hcz188_1
              try clear hcz193_0
              try clear hcz193_1
              try clear hcz198_0
              try clear hcz198_1
              try clear hcz19_0
              try clear hcz19_1
              try clear hcz201_0
              try clear hcz201_1
              try clear hcz205_0
              try clear hcz205_1
              try clear hcz208_0
              try clear hcz208_1
              try clear hcz24_0
              try clear hcz24_1
              try clear hcz29_0
              try clear hcz29_1
              try clear hcz34_0
              try clear hcz34_1
              try clear hcz36_0
              try clear hcz36_1
              try clear hcz37_0
              try clear hcz37_1
              try clear hcz42_0
              try clear hcz42_1
              try clear hcz47_0
              try clear hcz47_1
              try clear hcz50_0
              try clear hcz50_1
              try clear hcz54_0
              try clear hcz54_1
              try clear hcz57_0
              try clear hcz57_1
              try clear hcz64_0
              try clear hcz64_1
              try clear hcz67_0
              try clear hcz67_1
              try clear hcz69_0
              try clear hcz69_1
              try clear hcz71_0
              try clear hcz71_1
              try clear hcz75_0
              try clear hcz75_1
              try clear hcz78_0
              try clear hcz78_1
              try clear hcz81_0
              try clear hcz81_1
              try clear hcz87_0
              try clear hcz87_1
              try clear hcz89_0
              try clear hcz89_1
              try clear hcz92_0
              try clear hcz92_1
              try clear hcz96_0
              try clear hcz96_1
              try clear hfz100_0
              try clear hfz100_1
              try clear hfz105_0
              try clear hfz105_1
              try clear hfz110_0
              try clear hfz110_1
              try clear hfz112_0
              try clear hfz112_1
              try clear hfz113_0
              try clear hfz113_1
              try clear hfz118_0
              try clear hfz118_1
              try clear hfz123_0
              try clear hfz123_1
              try clear hfz126_0
              try clear hfz126_1
              try clear hfz12_0
              try clear hfz12_1
              try clear hfz130_0
              try clear hfz130_1
              try clear hfz133_0
              try clear hfz133_1
              try clear hfz140_0
              try clear hfz140_1
              try clear hfz143_0
              try clear hfz143_1
              try clear hfz145_0
              try clear hfz145_1
              try clear hfz147_0
              try clear hfz147_1
              try clear hfz151_0
              try clear hfz151_1
              try clear hfz154_0
              try clear hfz154_1
              try clear hfz157_0
              try clear hfz157_1
              try clear hfz15_0
              try clear hfz15_1
              try clear hfz163_0
              try clear hfz163_1
              try clear hfz165_0
              try clear hfz165_1
              try clear hfz168_0
              try clear hfz168_1
              try clear hfz172_0
              try clear hfz172_1
              try clear hfz176_0
              try clear hfz176_1
              try clear hfz180_0
              try clear hfz180_1
              try clear hfz185_0
              try clear hfz185_1
              try clear hfz187_0
              try clear hfz187_1
              try clear hfz188_0
              try clear hfz188_1
              try clear hfz193_0
              try clear hfz193_1
              try clear hfz198_0
              try clear hfz198_1
              try clear hfz19_0
              try clear hfz19_1
              try clear hfz201_0
              try clear hfz201_1
              try clear hfz205_0
              try clear hfz205_1
              try clear hfz208_0
              try clear hfz208_1
              try clear hfz24_0
              try clear hfz24_1
              try clear hfz29_0
              try clear hfz29_1
              try clear hfz34_0
              try clear hfz34_1
              try clear hfz36_0
              try clear hfz36_1
              try clear hfz37_0
              try clear hfz37_1
              try clear hfz42_0
              try clear hfz42_1
              try clear hfz47_0
              try clear hfz47_1
              try clear hfz50_0
              try clear hfz50_1
              try clear hfz54_0
              try clear hfz54_1
              try clear hfz57_0
              try clear hfz57_1
              try clear hfz64_0
              try clear hfz64_1
              try clear hfz67_0
              try clear hfz67_1
              try clear hfz69_0
              try clear hfz69_1
              try clear hfz71_0
              try clear hfz71_1
              try clear hfz75_0
              try clear hfz75_1
              try clear hfz78_0
              try clear hfz78_1
              try clear hfz81_0
              try clear hfz81_1
              try clear hfz87_0
              try clear hfz87_1
              try clear hfz89_0
              try clear hfz89_1
              try clear hfz92_0
              try clear hfz92_1
              try clear hfz96_0
              try clear hfz96_1
              try clear p2
              obtain ⟨kq, x39_176, rfl, HA, HJ176, BK203, BK204, BK205, BK208, HB⟩ := hcut
              cases kq with
              | zero => exact absurd HA.out (by simp [spec_IntervalMeet.j3])
              | succ kj176 =>
                have H := HA.out
                clear HA
                simp only [spec_IntervalMeet.j3] at H
                by_cases c209 : x39_176 = true
                · subst c209
                  have H1 : ((spec_IntervalValid.f kj176 a1_0 a1_1).bind fun t213 => (if t213 = true then (some (a1_0, a1_1, true)) else (some ((⟨#[]⟩ : ByteArray), (⟨#[]⟩ : ByteArray), false)))) = some (r1, r2, r3) := by rw [if_pos rfl] at H; exact H
                  clear H
                  have H := H1
                  clear H1
                  replace H := Option.bind_eq_some_iff.mp H
                  obtain ⟨t213, A2100, H⟩ := H
                  replace H : (if t213 = true then (some (a1_0, a1_1, true)) else (some ((⟨#[]⟩ : ByteArray), (⟨#[]⟩ : ByteArray), false))) = some (r1, r2, r3) := H
                  have A210 := Aside0.mk A2100
                  clear A2100
                  by_cases c211 : t213 = true
                  · subst c211
                    have H1 : (some (a1_0, a1_1, true)) = some (r1, r2, r3) := by rw [if_pos rfl] at H; exact H
                    clear H
                    have H := H1
                    clear H1
                    simp only [Option.some.injEq, Prod.mk.injEq] at H
                    obtain ⟨rfl, rfl, rfl⟩ := H
                    have hnb212 := NB204_203.out
                    have hnc212 := NB203_204.out
                    have hnb213 := NB204_205.out
                    have hnc213 := NB205_204.out
                    have hnb214 := NB204_208.out
                    have hnc214 := NB208_204.out
                    have hcz215_0 : wc.cell? ⟨gb204, 0, none⟩ = some (.string a1_0) := (blk_cell BK204.out 0).trans rfl
                    have hcz215_1 : wc.cell? ⟨gb204, 1, none⟩ = some (.string a1_1) := (blk_cell BK204.out 1).trans rfl
                    have hfz215_0 := blk_frozen BK204.out 0
                    have hfz215_1 := blk_frozen BK204.out 1
                    have hnb216 := NB208_203.out
                    have hnc216 := NB203_208.out
                    have hnb217 := NB208_205.out
                    have hnc217 := NB205_208.out
                    have hcz218_0 : wc.cell? ⟨gb208, 0, none⟩ = some (.string a1_0) := (blk_cell BK208.out 0).trans rfl
                    have hcz218_1 : wc.cell? ⟨gb208, 1, none⟩ = some (.string a0_1) := (blk_cell BK208.out 1).trans rfl
                    have hfz218_0 := blk_frozen BK208.out 0
                    have hfz218_1 := blk_frozen BK208.out 1
                    go_wp2_with (first | ((with_reducible refine gate_callee (f := 29) rfl ?_); refine goesL_ (some 44) rfl rfl Try.func29 (by kernel_rfl) rfl #[.agg #[.string a1_0, .string a1_1]] rfl (by (try simp only [List.map_toArray, List.map_cons, List.map_nil]); first | done | rfl | (simp only [List.length_drop, List.length_take]; rfl)) ?_; (with_reducible refine (spec_IntervalValid.calls kj176 a1_0 a1_1 true _ A210.out).mono ?_); rintro e w219 ⟨rfl, hb⟩; refine ⟨_, rfl, ?_⟩; have n0_ := Aside0.mk (blk_below (g := gb203) (o := .cells #[.string a0_0, .string a0_1] 35 (0, 0)) (by (with_reducible repeat (first | refine blk_drewN ?_ _ | refine blk_drew ?_ | refine blk_alloc ?_ _)); refine blk_far ?_ NB203_208.out _; (with_reducible repeat (first | refine blk_drewN ?_ _ | refine blk_drew ?_ | refine blk_alloc ?_ _)); exact BK203.out) hb); have n1_ := Aside0.mk (blk_below (g := gb204) (o := .cells #[.string a1_0, .string a1_1] 35 (0, 0)) (by (with_reducible repeat (first | refine blk_drewN ?_ _ | refine blk_drew ?_ | refine blk_alloc ?_ _)); refine blk_far ?_ NB204_208.out _; (with_reducible repeat (first | refine blk_drewN ?_ _ | refine blk_drew ?_ | refine blk_alloc ?_ _)); exact BK204.out) hb); have n2_ := Aside0.mk (blk_below (g := gb205) (o := .cells #[.string (⟨#[]⟩ : ByteArray), .string (⟨#[]⟩ : ByteArray)] 35 (0, 0)) (by (with_reducible repeat (first | refine blk_drewN ?_ _ | refine blk_drew ?_ | refine blk_alloc ?_ _)); refine blk_far ?_ NB205_208.out _; (with_reducible repeat (first | refine blk_drewN ?_ _ | refine blk_drew ?_ | refine blk_alloc ?_ _)); exact BK205.out) hb); have n3_ := Aside0.mk (blk_below (g := gb208) (o := .cells #[.string a1_0, .string a1_1] 35 (0, 0)) (by (with_reducible repeat (first | refine blk_drewN ?_ _ | refine blk_drew ?_ | refine blk_alloc ?_ _)); refine blk_put (cs := #[.string a1_0, .string a0_1]) ?_ 1 _ rfl; (with_reducible repeat (first | refine blk_drewN ?_ _ | refine blk_drew ?_ | refine blk_alloc ?_ _)); exact BK208.out) hb); have n4_ := Aside0.mk (below_step (by repeat (first | (with_reducible first | exact HB.out | apply below_alloc | apply pw_below_drewN | apply below_drew1 | refine below_set ?_ GE203.out | refine below_set ?_ GE204.out | refine below_set ?_ GE205.out | refine below_set ?_ GE208.out) | exact HB.out)) hb); clear BK203; clear BK204; clear BK205; clear BK208; clear HB; have BK203 := n0_; have BK204 := n1_; have BK205 := n2_; have BK208 := n3_; have HB := n4_; clear n0_ n1_ n2_ n3_ n4_; (try clear hb); (try clear hb2); (try clear hk); (try clear hi); have hcz220_0 : w219.cell? ⟨gb208, 0, none⟩ = some (.string a1_0) := (blk_cell BK208.out 0).trans rfl; have hcz220_1 : w219.cell? ⟨gb208, 1, none⟩ = some (.string a1_1) := (blk_cell BK208.out 1).trans rfl; have hfz220_0 := blk_frozen BK208.out 0; have hfz220_1 := blk_frozen BK208.out 1; have hnb221 := NB205_203.out; have hnc221 := NB203_205.out; have hcz222_0 : w219.cell? ⟨gb205, 0, none⟩ = some (.string (⟨#[]⟩ : ByteArray)) := (blk_cell BK205.out 0).trans rfl; have hcz222_1 : w219.cell? ⟨gb205, 1, none⟩ = some (.string (⟨#[]⟩ : ByteArray)) := (blk_cell BK205.out 1).trans rfl; have hfz222_0 := blk_frozen BK205.out 0; have hfz222_1 := blk_frozen BK205.out 1))
                    refine bodyPost_ret (results_ct rfl _ _ gb205 35 #[.string a1_0, .string a1_1] (0, 0) _ rfl (by (with_reducible repeat (first | refine blk_drewN ?_ _ | refine blk_drew ?_ | refine blk_alloc ?_ _)); refine blk_put (cs := #[.string a1_0, .string (⟨#[]⟩ : ByteArray)]) ?_ 1 _ rfl; (with_reducible repeat (first | refine blk_drewN ?_ _ | refine blk_drew ?_ | refine blk_alloc ?_ _)); refine blk_put (cs := #[.string (⟨#[]⟩ : ByteArray), .string (⟨#[]⟩ : ByteArray)]) ?_ 0 _ rfl; (with_reducible repeat (first | refine blk_drewN ?_ _ | refine blk_drew ?_ | refine blk_alloc ?_ _)); exact BK205.out) Try.underlying35 rfl (by kernel_rfl)) rfl ?_
                    exact ⟨by first | rfl | (simp only [u8_w_, w64_u8_]; done) | (simp only [u8_w_, w64_u8_]; rfl) | (simp [errW_none, errW_some] <;> rfl) | (simp [*, errW_none, errW_some] <;> rfl), by repeat (first | (with_reducible first | exact HB.out | apply below_alloc | apply pw_below_drewN | apply below_drew1 | refine below_set ?_ GE203.out | refine below_set ?_ GE204.out | refine below_set ?_ GE205.out | refine below_set ?_ GE208.out) | exact HB.out)⟩
                  · replace c211 := Bool.eq_false_iff.mpr c211
                    subst c211
                    have H1 : (some ((⟨#[]⟩ : ByteArray), (⟨#[]⟩ : ByteArray), false)) = some (r1, r2, r3) := by rw [if_neg (show ¬ (false = true) by decide)] at H; exact H
                    clear H
                    have H := H1
                    clear H1
                    simp only [Option.some.injEq, Prod.mk.injEq] at H
                    obtain ⟨rfl, rfl, rfl⟩ := H
                    have hnb223 := NB204_203.out
                    have hnc223 := NB203_204.out
                    have hnb224 := NB204_205.out
                    have hnc224 := NB205_204.out
                    have hnb225 := NB204_208.out
                    have hnc225 := NB208_204.out
                    have hcz226_0 : wc.cell? ⟨gb204, 0, none⟩ = some (.string a1_0) := (blk_cell BK204.out 0).trans rfl
                    have hcz226_1 : wc.cell? ⟨gb204, 1, none⟩ = some (.string a1_1) := (blk_cell BK204.out 1).trans rfl
                    have hfz226_0 := blk_frozen BK204.out 0
                    have hfz226_1 := blk_frozen BK204.out 1
                    have hnb227 := NB208_203.out
                    have hnc227 := NB203_208.out
                    have hnb228 := NB208_205.out
                    have hnc228 := NB205_208.out
                    have hcz229_0 : wc.cell? ⟨gb208, 0, none⟩ = some (.string a1_0) := (blk_cell BK208.out 0).trans rfl
                    have hcz229_1 : wc.cell? ⟨gb208, 1, none⟩ = some (.string a0_1) := (blk_cell BK208.out 1).trans rfl
                    have hfz229_0 := blk_frozen BK208.out 0
                    have hfz229_1 := blk_frozen BK208.out 1
                    go_wp2_with (first | ((with_reducible refine gate_callee (f := 29) rfl ?_); refine goesL_ (some 44) rfl rfl Try.func29 (by kernel_rfl) rfl #[.agg #[.string a1_0, .string a1_1]] rfl (by (try simp only [List.map_toArray, List.map_cons, List.map_nil]); first | done | rfl | (simp only [List.length_drop, List.length_take]; rfl)) ?_; (with_reducible refine (spec_IntervalValid.calls kj176 a1_0 a1_1 false _ A210.out).mono ?_); rintro e w230 ⟨rfl, hb⟩; refine ⟨_, rfl, ?_⟩; have n0_ := Aside0.mk (blk_below (g := gb203) (o := .cells #[.string a0_0, .string a0_1] 35 (0, 0)) (by (with_reducible repeat (first | refine blk_drewN ?_ _ | refine blk_drew ?_ | refine blk_alloc ?_ _)); refine blk_far ?_ NB203_208.out _; (with_reducible repeat (first | refine blk_drewN ?_ _ | refine blk_drew ?_ | refine blk_alloc ?_ _)); exact BK203.out) hb); have n1_ := Aside0.mk (blk_below (g := gb204) (o := .cells #[.string a1_0, .string a1_1] 35 (0, 0)) (by (with_reducible repeat (first | refine blk_drewN ?_ _ | refine blk_drew ?_ | refine blk_alloc ?_ _)); refine blk_far ?_ NB204_208.out _; (with_reducible repeat (first | refine blk_drewN ?_ _ | refine blk_drew ?_ | refine blk_alloc ?_ _)); exact BK204.out) hb); have n2_ := Aside0.mk (blk_below (g := gb205) (o := .cells #[.string (⟨#[]⟩ : ByteArray), .string (⟨#[]⟩ : ByteArray)] 35 (0, 0)) (by (with_reducible repeat (first | refine blk_drewN ?_ _ | refine blk_drew ?_ | refine blk_alloc ?_ _)); refine blk_far ?_ NB205_208.out _; (with_reducible repeat (first | refine blk_drewN ?_ _ | refine blk_drew ?_ | refine blk_alloc ?_ _)); exact BK205.out) hb); have n3_ := Aside0.mk (blk_below (g := gb208) (o := .cells #[.string a1_0, .string a1_1] 35 (0, 0)) (by (with_reducible repeat (first | refine blk_drewN ?_ _ | refine blk_drew ?_ | refine blk_alloc ?_ _)); refine blk_put (cs := #[.string a1_0, .string a0_1]) ?_ 1 _ rfl; (with_reducible repeat (first | refine blk_drewN ?_ _ | refine blk_drew ?_ | refine blk_alloc ?_ _)); exact BK208.out) hb); have n4_ := Aside0.mk (below_step (by repeat (first | (with_reducible first | exact HB.out | apply below_alloc | apply pw_below_drewN | apply below_drew1 | refine below_set ?_ GE203.out | refine below_set ?_ GE204.out | refine below_set ?_ GE205.out | refine below_set ?_ GE208.out) | exact HB.out)) hb); clear BK203; clear BK204; clear BK205; clear BK208; clear HB; have BK203 := n0_; have BK204 := n1_; have BK205 := n2_; have BK208 := n3_; have HB := n4_; clear n0_ n1_ n2_ n3_ n4_; (try clear hb); (try clear hb2); (try clear hk); (try clear hi); have hnb231 := NB205_203.out; have hnc231 := NB203_205.out; have hcz232_0 : w230.cell? ⟨gb205, 0, none⟩ = some (.string (⟨#[]⟩ : ByteArray)) := (blk_cell BK205.out 0).trans rfl; have hcz232_1 : w230.cell? ⟨gb205, 1, none⟩ = some (.string (⟨#[]⟩ : ByteArray)) := (blk_cell BK205.out 1).trans rfl; have hfz232_0 := blk_frozen BK205.out 0; have hfz232_1 := blk_frozen BK205.out 1))
                    refine bodyPost_ret (results_ct rfl _ _ gb205 35 #[.string (⟨#[]⟩ : ByteArray), .string (⟨#[]⟩ : ByteArray)] (0, 0) _ rfl (by (with_reducible repeat (first | refine blk_drewN ?_ _ | refine blk_drew ?_ | refine blk_alloc ?_ _)); refine blk_put (cs := #[.string (⟨#[]⟩ : ByteArray), .string (⟨#[]⟩ : ByteArray)]) ?_ 1 _ rfl; (with_reducible repeat (first | refine blk_drewN ?_ _ | refine blk_drew ?_ | refine blk_alloc ?_ _)); refine blk_put (cs := #[.string (⟨#[]⟩ : ByteArray), .string (⟨#[]⟩ : ByteArray)]) ?_ 0 _ rfl; (with_reducible repeat (first | refine blk_drewN ?_ _ | refine blk_drew ?_ | refine blk_alloc ?_ _)); exact BK205.out) Try.underlying35 rfl (by kernel_rfl)) rfl ?_
                    exact ⟨by first | rfl | (simp only [u8_w_, w64_u8_]; done) | (simp only [u8_w_, w64_u8_]; rfl) | (simp [errW_none, errW_some] <;> rfl) | (simp [*, errW_none, errW_some] <;> rfl), by repeat (first | (with_reducible first | exact HB.out | apply below_alloc | apply pw_below_drewN | apply below_drew1 | refine below_set ?_ GE203.out | refine below_set ?_ GE204.out | refine below_set ?_ GE205.out | refine below_set ?_ GE208.out) | exact HB.out)⟩
                · replace c209 := Bool.eq_false_iff.mpr c209
                  subst c209
                  have H1 : ((spec_IntervalValid.f kj176 a1_0 a0_1).bind fun t214 => (if t214 = true then (some (a1_0, a0_1, true)) else (some ((⟨#[]⟩ : ByteArray), (⟨#[]⟩ : ByteArray), false)))) = some (r1, r2, r3) := by rw [if_neg (show ¬ (false = true) by decide)] at H; exact H
                  clear H
                  have H := H1
                  clear H1
                  replace H := Option.bind_eq_some_iff.mp H
                  obtain ⟨t214, A2330, H⟩ := H
                  replace H : (if t214 = true then (some (a1_0, a0_1, true)) else (some ((⟨#[]⟩ : ByteArray), (⟨#[]⟩ : ByteArray), false))) = some (r1, r2, r3) := H
                  have A233 := Aside0.mk A2330
                  clear A2330
                  by_cases c234 : t214 = true
                  · subst c234
                    have H1 : (some (a1_0, a0_1, true)) = some (r1, r2, r3) := by rw [if_pos rfl] at H; exact H
                    clear H
                    have H := H1
                    clear H1
                    simp only [Option.some.injEq, Prod.mk.injEq] at H
                    obtain ⟨rfl, rfl, rfl⟩ := H
                    have hnb235 := NB208_203.out
                    have hnc235 := NB203_208.out
                    have hnb236 := NB208_204.out
                    have hnc236 := NB204_208.out
                    have hnb237 := NB208_205.out
                    have hnc237 := NB205_208.out
                    have hcz238_0 : wc.cell? ⟨gb208, 0, none⟩ = some (.string a1_0) := (blk_cell BK208.out 0).trans rfl
                    have hcz238_1 : wc.cell? ⟨gb208, 1, none⟩ = some (.string a0_1) := (blk_cell BK208.out 1).trans rfl
                    have hfz238_0 := blk_frozen BK208.out 0
                    have hfz238_1 := blk_frozen BK208.out 1
                    go_wp2_with (first | ((with_reducible refine gate_callee (f := 29) rfl ?_); refine goesL_ (some 44) rfl rfl Try.func29 (by kernel_rfl) rfl #[.agg #[.string a1_0, .string a0_1]] rfl (by (try simp only [List.map_toArray, List.map_cons, List.map_nil]); first | done | rfl | (simp only [List.length_drop, List.length_take]; rfl)) ?_; (with_reducible refine (spec_IntervalValid.calls kj176 a1_0 a0_1 true _ A233.out).mono ?_); rintro e w239 ⟨rfl, hb⟩; refine ⟨_, rfl, ?_⟩; have n0_ := Aside0.mk (blk_below (g := gb203) (o := .cells #[.string a0_0, .string a0_1] 35 (0, 0)) (by (with_reducible repeat (first | refine blk_drewN ?_ _ | refine blk_drew ?_ | refine blk_alloc ?_ _)); exact BK203.out) hb); have n1_ := Aside0.mk (blk_below (g := gb204) (o := .cells #[.string a1_0, .string a1_1] 35 (0, 0)) (by (with_reducible repeat (first | refine blk_drewN ?_ _ | refine blk_drew ?_ | refine blk_alloc ?_ _)); exact BK204.out) hb); have n2_ := Aside0.mk (blk_below (g := gb205) (o := .cells #[.string (⟨#[]⟩ : ByteArray), .string (⟨#[]⟩ : ByteArray)] 35 (0, 0)) (by (with_reducible repeat (first | refine blk_drewN ?_ _ | refine blk_drew ?_ | refine blk_alloc ?_ _)); exact BK205.out) hb); have n3_ := Aside0.mk (blk_below (g := gb208) (o := .cells #[.string a1_0, .string a0_1] 35 (0, 0)) (by (with_reducible repeat (first | refine blk_drewN ?_ _ | refine blk_drew ?_ | refine blk_alloc ?_ _)); exact BK208.out) hb); have n4_ := Aside0.mk (below_step (by repeat (first | (with_reducible first | exact HB.out | apply below_alloc | apply pw_below_drewN | apply below_drew1 | refine below_set ?_ GE203.out | refine below_set ?_ GE204.out | refine below_set ?_ GE205.out | refine below_set ?_ GE208.out) | exact HB.out)) hb); clear BK203; clear BK204; clear BK205; clear BK208; clear HB; have BK203 := n0_; have BK204 := n1_; have BK205 := n2_; have BK208 := n3_; have HB := n4_; clear n0_ n1_ n2_ n3_ n4_; (try clear hb); (try clear hb2); (try clear hk); (try clear hi); have hcz240_0 : w239.cell? ⟨gb208, 0, none⟩ = some (.string a1_0) := (blk_cell BK208.out 0).trans rfl; have hcz240_1 : w239.cell? ⟨gb208, 1, none⟩ = some (.string a0_1) := (blk_cell BK208.out 1).trans rfl; have hfz240_0 := blk_frozen BK208.out 0; have hfz240_1 := blk_frozen BK208.out 1; have hnb241 := NB205_203.out; have hnc241 := NB203_205.out; have hnb242 := NB205_204.out; have hnc242 := NB204_205.out; have hcz243_0 : w239.cell? ⟨gb205, 0, none⟩ = some (.string (⟨#[]⟩ : ByteArray)) := (blk_cell BK205.out 0).trans rfl; have hcz243_1 : w239.cell? ⟨gb205, 1, none⟩ = some (.string (⟨#[]⟩ : ByteArray)) := (blk_cell BK205.out 1).trans rfl; have hfz243_0 := blk_frozen BK205.out 0; have hfz243_1 := blk_frozen BK205.out 1))
                    refine bodyPost_ret (results_ct rfl _ _ gb205 35 #[.string a1_0, .string a0_1] (0, 0) _ rfl (by (with_reducible repeat (first | refine blk_drewN ?_ _ | refine blk_drew ?_ | refine blk_alloc ?_ _)); refine blk_put (cs := #[.string a1_0, .string (⟨#[]⟩ : ByteArray)]) ?_ 1 _ rfl; (with_reducible repeat (first | refine blk_drewN ?_ _ | refine blk_drew ?_ | refine blk_alloc ?_ _)); refine blk_put (cs := #[.string (⟨#[]⟩ : ByteArray), .string (⟨#[]⟩ : ByteArray)]) ?_ 0 _ rfl; (with_reducible repeat (first | refine blk_drewN ?_ _ | refine blk_drew ?_ | refine blk_alloc ?_ _)); exact BK205.out) Try.underlying35 rfl (by kernel_rfl)) rfl ?_
                    exact ⟨by first | rfl | (simp only [u8_w_, w64_u8_]; done) | (simp only [u8_w_, w64_u8_]; rfl) | (simp [errW_none, errW_some] <;> rfl) | (simp [*, errW_none, errW_some] <;> rfl), by repeat (first | (with_reducible first | exact HB.out | apply below_alloc | apply pw_below_drewN | apply below_drew1 | refine below_set ?_ GE203.out | refine below_set ?_ GE204.out | refine below_set ?_ GE205.out | refine below_set ?_ GE208.out) | exact HB.out)⟩
                  · replace c234 := Bool.eq_false_iff.mpr c234
                    subst c234
                    have H1 : (some ((⟨#[]⟩ : ByteArray), (⟨#[]⟩ : ByteArray), false)) = some (r1, r2, r3) := by rw [if_neg (show ¬ (false = true) by decide)] at H; exact H
                    clear H
                    have H := H1
                    clear H1
                    simp only [Option.some.injEq, Prod.mk.injEq] at H
                    obtain ⟨rfl, rfl, rfl⟩ := H
                    have hnb244 := NB208_203.out
                    have hnc244 := NB203_208.out
                    have hnb245 := NB208_204.out
                    have hnc245 := NB204_208.out
                    have hnb246 := NB208_205.out
                    have hnc246 := NB205_208.out
                    have hcz247_0 : wc.cell? ⟨gb208, 0, none⟩ = some (.string a1_0) := (blk_cell BK208.out 0).trans rfl
                    have hcz247_1 : wc.cell? ⟨gb208, 1, none⟩ = some (.string a0_1) := (blk_cell BK208.out 1).trans rfl
                    have hfz247_0 := blk_frozen BK208.out 0
                    have hfz247_1 := blk_frozen BK208.out 1
                    go_wp2_with (first | ((with_reducible refine gate_callee (f := 29) rfl ?_); refine goesL_ (some 44) rfl rfl Try.func29 (by kernel_rfl) rfl #[.agg #[.string a1_0, .string a0_1]] rfl (by (try simp only [List.map_toArray, List.map_cons, List.map_nil]); first | done | rfl | (simp only [List.length_drop, List.length_take]; rfl)) ?_; (with_reducible refine (spec_IntervalValid.calls kj176 a1_0 a0_1 false _ A233.out).mono ?_); rintro e w248 ⟨rfl, hb⟩; refine ⟨_, rfl, ?_⟩; have n0_ := Aside0.mk (blk_below (g := gb203) (o := .cells #[.string a0_0, .string a0_1] 35 (0, 0)) (by (with_reducible repeat (first | refine blk_drewN ?_ _ | refine blk_drew ?_ | refine blk_alloc ?_ _)); exact BK203.out) hb); have n1_ := Aside0.mk (blk_below (g := gb204) (o := .cells #[.string a1_0, .string a1_1] 35 (0, 0)) (by (with_reducible repeat (first | refine blk_drewN ?_ _ | refine blk_drew ?_ | refine blk_alloc ?_ _)); exact BK204.out) hb); have n2_ := Aside0.mk (blk_below (g := gb205) (o := .cells #[.string (⟨#[]⟩ : ByteArray), .string (⟨#[]⟩ : ByteArray)] 35 (0, 0)) (by (with_reducible repeat (first | refine blk_drewN ?_ _ | refine blk_drew ?_ | refine blk_alloc ?_ _)); exact BK205.out) hb); have n3_ := Aside0.mk (blk_below (g := gb208) (o := .cells #[.string a1_0, .string a0_1] 35 (0, 0)) (by (with_reducible repeat (first | refine blk_drewN ?_ _ | refine blk_drew ?_ | refine blk_alloc ?_ _)); exact BK208.out) hb); have n4_ := Aside0.mk (below_step (by repeat (first | (with_reducible first | exact HB.out | apply below_alloc | apply pw_below_drewN | apply below_drew1 | refine below_set ?_ GE203.out | refine below_set ?_ GE204.out | refine below_set ?_ GE205.out | refine below_set ?_ GE208.out) | exact HB.out)) hb); clear BK203; clear BK204; clear BK205; clear BK208; clear HB; have BK203 := n0_; have BK204 := n1_; have BK205 := n2_; have BK208 := n3_; have HB := n4_; clear n0_ n1_ n2_ n3_ n4_; (try clear hb); (try clear hb2); (try clear hk); (try clear hi); have hnb249 := NB205_203.out; have hnc249 := NB203_205.out; have hnb250 := NB205_204.out; have hnc250 := NB204_205.out; have hcz251_0 : w248.cell? ⟨gb205, 0, none⟩ = some (.string (⟨#[]⟩ : ByteArray)) := (blk_cell BK205.out 0).trans rfl; have hcz251_1 : w248.cell? ⟨gb205, 1, none⟩ = some (.string (⟨#[]⟩ : ByteArray)) := (blk_cell BK205.out 1).trans rfl; have hfz251_0 := blk_frozen BK205.out 0; have hfz251_1 := blk_frozen BK205.out 1))
                    refine bodyPost_ret (results_ct rfl _ _ gb205 35 #[.string (⟨#[]⟩ : ByteArray), .string (⟨#[]⟩ : ByteArray)] (0, 0) _ rfl (by (with_reducible repeat (first | refine blk_drewN ?_ _ | refine blk_drew ?_ | refine blk_alloc ?_ _)); refine blk_put (cs := #[.string (⟨#[]⟩ : ByteArray), .string (⟨#[]⟩ : ByteArray)]) ?_ 1 _ rfl; (with_reducible repeat (first | refine blk_drewN ?_ _ | refine blk_drew ?_ | refine blk_alloc ?_ _)); refine blk_put (cs := #[.string (⟨#[]⟩ : ByteArray), .string (⟨#[]⟩ : ByteArray)]) ?_ 0 _ rfl; (with_reducible repeat (first | refine blk_drewN ?_ _ | refine blk_drew ?_ | refine blk_alloc ?_ _)); exact BK205.out) Try.underlying35 rfl (by kernel_rfl)) rfl ?_
                    exact ⟨by first | rfl | (simp only [u8_w_, w64_u8_]; done) | (simp only [u8_w_, w64_u8_]; rfl) | (simp [errW_none, errW_some] <;> rfl) | (simp [*, errW_none, errW_some] <;> rfl), by repeat (first | (with_reducible first | exact HB.out | apply below_alloc | apply pw_below_drewN | apply below_drew1 | refine below_set ?_ GE203.out | refine below_set ?_ GE204.out | refine below_set ?_ GE205.out | refine below_set ?_ GE208.out) | exact HB.out)⟩

end Go.Proofs.Ytgpffbijmohfjaa.PFnIntervalMeet
