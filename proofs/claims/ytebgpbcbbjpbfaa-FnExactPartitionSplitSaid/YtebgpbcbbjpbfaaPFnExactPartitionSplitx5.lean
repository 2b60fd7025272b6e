-- Written for this claim by a program of this session (wip/myprint in the proofs' repo)
import Derived.Test.YtebgpbcbbjpbfaaPFnExactPartitionSplitx0
import Derived.Test.YtebgpbcbbjpbfaaPFnExactPartitionSplitx4
import Derived.Test.YtebgpbcbbjpbfaaWZip
namespace Go.Proofs.Ytebgpbcbbjpbfaa.PFnExactPartitionSplit
open Go.RowKit Go.Proofs.YtebgpbcbbjpbfaaW.PrintWords Go.Proofs.YtebgpbcbbjpbfaaW.PrintLast Go.Proofs.YtebgpbcbbjpbfaaW.PrintMore
attribute [local go_sem] max2_int min2_int max_two min_two max_three min_three max_four min_four max2_strs min2_strs   -- for this text's walks alone
set_option linter.unusedVariables false
set_option linter.unusedSimpArgs false

/-! ### impl_IntervalValid: function 101 -/
def impl_IntervalValid.f (k : Nat) (a0_0 : ByteArray) (a0_1 : ByteArray) : Option (Bool) := if a0_0.toList = ([] : List UInt8) then (if a0_1.toList = ([] : List UInt8) then (some true) else ((impl_KeyValid.f k a0_1).bind fun t192 => (if t192 = true then ((impl_lowestKey.f a0_0 a0_1).bind fun t193 => (some (Op.bytesLess t193.toList a0_1.toList))) else (some false)))) else ((impl_KeyValid.f k a0_0).bind fun t194 => (if t194 = true then (if a0_1.toList = ([] : List UInt8) then (some true) else ((impl_KeyValid.f k a0_1).bind fun t195 => (if t195 = true then ((impl_lowestKey.f a0_0 a0_1).bind fun t196 => (some (Op.bytesLess t196.toList a0_1.toList))) else (some false)))) else (some false)))
theorem impl_IntervalValid.mono : ∀ a0 a1 k, LeO (impl_IntervalValid.f k a0 a1) (impl_IntervalValid.f (k + 1) a0 a1) := by
 intro a0 a1 k
 unfold impl_IntervalValid.f
 repeat' first
   | (with_reducible exact impl_KeyValid.mono _ _)
   | (with_reducible exact LeO.refl _)
   | (with_reducible exact LeO.none _)
   | (with_reducible refine LeO.ite ?_ ?_)
   | (with_reducible refine LeO.bind ?_ (fun _ => ?_))
   | exact impl_KeyValid.mono _ _
   | exact LeO.none _
   | refine LeO.ite ?_ ?_
   | refine LeO.bind ?_ (fun _ => ?_)
def impl_IntervalValid.T3 : Bool × List (List Nat × List Nat) := (true, [([], []), ([0], [0]), ([1], [1]), ([2], [2]), ([3], [3]), ([4, 3, 3], [3, 4]), ([3], [3]), ([6, 3], [3, 6]), ([5, 7, 3], [3, 5, 7]), ([3, 8], [3, 8]), ([9, 5, 0, 1, 2, 3, 4, 5, 6, 7, 8, 9], [9])])
def impl_IntervalValid.B3 : List Nat := [0, 1, 3, 7, 15, 31, 15, 79, 255, 511, 1023]
theorem impl_IntervalValid.tab3 : rtab .any (opsOf Try.f101 3) = impl_IntervalValid.T3 := by kernel_rfl
theorem impl_IntervalValid.bits3 : waitsOk impl_IntervalValid.T3.2 impl_IntervalValid.B3 = true := by kernel_rfl
set_option maxHeartbeats 8000000 in
set_option maxRecDepth 100000 in
theorem impl_IntervalValid.calls (k : Nat) (a0_0 : ByteArray) (a0_1 : ByteArray) (r : Bool) (w : World) (h : impl_IntervalValid.f k a0_0 a0_1 = some r) :
  Calls Try.prog 101 #[.agg #[.string a0_0, .string a0_1]] w fun e w' => e = .returned (.bool r) ∧ Below w.heap.size w w' := by
 have hu76 := Try.underlying76
 have HB := Aside0.mk (Below.refl w.heap.size w)
 have H : (if a0_0.toList = ([] : List UInt8) then (if a0_1.toList = ([] : List UInt8) then (some true) else ((impl_KeyValid.f k a0_1).bind fun t192 => (if t192 = true then ((impl_lowestKey.f a0_0 a0_1).bind fun t193 => (some (Op.bytesLess t193.toList a0_1.toList))) else (some false)))) else ((impl_KeyValid.f k a0_0).bind fun t194 => (if t194 = true then (if a0_1.toList = ([] : List UInt8) then (some true) else ((impl_KeyValid.f k a0_1).bind fun t195 => (if t195 = true then ((impl_lowestKey.f a0_0 a0_1).bind fun t196 => (some (Op.bytesLess t196.toList a0_1.toList))) else (some false)))) else (some false)))) = some r := h
 clear h
 by_cases c2 : a0_0.toList = ([] : List UInt8)
 ·rw [if_pos c2] at H
  have c2b0 : (a0_0.toList == ([] : List UInt8)) = true := beq_iff_eq.mpr c2
  have c2b1 : (a0_0.toList != ([] : List UInt8)) = false := bne_eq_false_iff_eq.mpr c2
  clear c2
  by_cases c3 : a0_1.toList = ([] : List UInt8)
  ·rw [if_pos c3] at H
   have c3b0 : (a0_1.toList == ([] : List UInt8)) = true := beq_iff_eq.mpr c3
   have c3b1 : (a0_1.toList != ([] : List UInt8)) = false := bne_eq_false_iff_eq.mpr c3
   clear c3
   obtain rfl := Option.some.inj H
   go_enter Try.func101, Try.ntmps101
   try go_wp2_with (first | ((with_reducible refine gate_dst (N := 1) rfl ?_); refine box_event ?hg (N := 1) ?hd (cs := #[.string a0_0, .string a0_1]) (t := 76) ?hr ?_; (case hd => rfl); (case hg => rfl); (case hr => first | (go_simp; done) | (go_simp; rfl)); intro gb191 hg w4 hbox hb; have n0_ := Aside0.mk (below_step (by exact hopb HB.out) hb); have n1_ := Aside0.mk (hbox); have n2_ := Aside0.mk ((by rw [hg]; exact (below_size (by exact hopb HB.out)) : w.heap.size ≤ gb191)); have n3_ := n2_; clear HB; have HB := n0_; have BK191 := n1_; have GW191 := n2_; have GE191 := n3_; clear n0_ n1_ n2_ n3_; clear hb hbox hg; have hcz5_0 : w4.cell? ⟨gb191, 0, none⟩ = some (.string a0_0) := (blk_cell BK191.out 0).trans rfl; have hcz5_1 : w4.cell? ⟨gb191, 1, none⟩ = some (.string a0_1) := (blk_cell BK191.out 1).trans rfl; have hfz5_0 := blk_frozen BK191.out 0; have hfz5_1 := blk_frozen BK191.out 1))
   have n0_ := Aside0.mk (blk_drew BK191.out)
   have n1_ := Aside0.mk (below_drew1 HB.out)
   clear BK191
   clear HB
   have BK191 := n0_
   have HB := n1_
   clear n0_ n1_
   refine start_ (n := 11) (S := fun w' => w'.cell? ⟨gb191, 0, none⟩ = some (.string a0_0) ∧ w'.cell? ⟨gb191, 1, none⟩ = some (.string a0_1)) (ds := []) #[false, false, false, false, false, false, false, false, false, false, false] (by kernel_rfl) rfl rfl ⟨(blk_cell BK191.out 0).trans rfl, (blk_cell BK191.out 1).trans rfl⟩ (fun hHeld => ?_); refine with_tabW impl_IntervalValid.tab3 impl_IntervalValid.bits3 (fun HT_ HW_ => ?_)
   generalize w4.drew = w6 at BK191 HB hHeld ⊢
   refine pure_ (i := 0) (N := some 23) (v := ?_) (a' := ?_) #[true, false, false, false, false, false, false, false, false, false, false] rfl rfl (any_of HT_.out (by kernel_rfl)) (fun _ _ _ h => h) (Or.inl ⟨by rfl, ?_⟩) ?_ ?_
   rotate_left
   ·intro w'
    go_simp
    with_reducible rfl
   rotate_left
   ·simp only [Act.put, lT, lZ, lS, i64_w, i32_w]
    rfl
   refine take_ (i := 1) (N := some 24) (v := ?_) (a' := ?_) #[true, true, false, false, false, false, false, false, false, false, false] rfl rfl (take_ofW HT_.out HW_.out (by kernel_rfl)) (fun _ _ _ h => h) (Or.inl ⟨by rfl, ?_⟩) hHeld ?_ ?_
   rotate_left
   ·rintro w' ⟨s0, s1⟩
    go_simp
    with_reducible rfl
   rotate_left
   ·simp only [Act.put, lT, lZ, lS, i64_w, i32_w]
    rfl
   refine pure_ (i := 2) (N := some 25) (v := ?_) (a' := ?_) #[true, true, true, false, false, false, false, false, false, false, false] rfl rfl (any_of HT_.out (by kernel_rfl)) (fun _ _ _ h => h) (Or.inl ⟨by rfl, ?_⟩) ?_ ?_
   rotate_left
   ·intro w'
    go_simp
    with_reducible rfl
   rotate_left
   ·simp only [Act.put, lT, lZ, lS, i64_w, i32_w]
    rfl
   refine pure_ (i := 3) (N := some 26) (v := ?_) (a' := ?_) #[true, true, true, true, false, false, false, false, false, false, false] rfl rfl (any_of HT_.out (by kernel_rfl)) (fun _ _ _ h => h) (Or.inl ⟨by rfl, ?_⟩) ?_ ?_
   rotate_left
   ·intro w'
    go_simp
    with_reducible rfl
   rotate_left
   ·simp only [Act.put, lT, lZ, lS, i64_w, i32_w]
    rfl
   refine pure_ (i := 4) (N := some 27) (v := undef) (a' := ?_) #[true, true, true, true, true, false, false, false, false, false, false] rfl rfl (any_of HT_.out (by kernel_rfl)) (fun _ _ _ h => h) (Or.inr ⟨by rfl, rfl⟩) ?_ ?_
   rotate_left
   ·simp only [Act.put, lT, lZ, lS, i64_w, i32_w]
    rfl
   refine pure_ (i := 5) (N := some 28) (v := undef) (a' := ?_) #[true, true, true, true, true, true, false, false, false, false, false] rfl rfl (any_of HT_.out (by kernel_rfl)) (fun _ _ _ h => h) (Or.inr ⟨by rfl, rfl⟩) ?_ ?_
   rotate_left
   ·simp only [Act.put, lT, lZ, lS, i64_w, i32_w]
    rfl
   refine pure_ (i := 6) (N := some 29) (v := undef) (a' := ?_) #[true, true, true, true, true, true, true, false, false, false, false] rfl rfl (any_of HT_.out (by kernel_rfl)) (fun _ _ _ h => h) (Or.inr ⟨by rfl, rfl⟩) ?_ ?_
   rotate_left
   ·simp only [Act.put, lT, lZ, lS, i64_w, i32_w]
    rfl
   refine pure_ (i := 7) (N := some 30) (v := undef) (a' := ?_) #[true, true, true, true, true, true, true, true, false, false, false] rfl rfl (any_of HT_.out (by kernel_rfl)) (fun _ _ _ h => h) (Or.inr ⟨by rfl, rfl⟩) ?_ ?_
   rotate_left
   ·simp only [Act.put, lT, lZ, lS, i64_w, i32_w]
    rfl
   refine pure_ (i := 8) (N := some 31) (v := undef) (a' := ?_) #[true, true, true, true, true, true, true, true, true, false, false] rfl rfl (any_of HT_.out (by kernel_rfl)) (fun _ _ _ h => h) (Or.inr ⟨by rfl, rfl⟩) ?_ ?_
   rotate_left
   ·simp only [Act.put, lT, lZ, lS, i64_w, i32_w]
    rfl
   refine pure_ (i := 9) (N := some 32) (v := ?_) (a' := ?_) #[true, true, true, true, true, true, true, true, true, true, false] rfl rfl (any_of HT_.out (by kernel_rfl)) (fun _ _ _ h => h) (Or.inl ⟨by rfl, ?_⟩) ?_ ?_
   rotate_left
   ·intro w'
    go_simp
    with_reducible rfl
   rotate_left
   ·simp only [Act.put, lT, lZ, lS, i64_w, i32_w]
    rfl
   refine pure_ (i := 10) (N := some 2) (v := ?_) (a' := ?_) #[true, true, true, true, true, true, true, true, true, true, true] rfl rfl (any_of HT_.out (by kernel_rfl)) (fun _ _ _ h => h) (Or.inl ⟨by rfl, ?_⟩) ?_ ?_
   rotate_left
   ·intro w'
    go_simp
    with_reducible rfl
   rotate_left
   ·simp only [Act.put, lT, lZ, lS, i64_w, i32_w]
    rfl
   refine done_ (done_of HT_.out (by kernel_rfl)) ?_
   try go_wp2
   go_ret
   exact ⟨by first | rfl | (simp only [u8_w_, w64_u8_] <;> rfl) | (simp [errW_none, errW_some] <;> rfl) | (simp [*, errW_none, errW_some] <;> rfl), by repeat (first | (with_reducible first | exact HB.out | apply bA | apply bN | apply bD | refine bS ?_ GE191.out) | exact HB.out)⟩
  ·rw [if_neg c3] at H
   have c3b0 : (a0_1.toList == ([] : List UInt8)) = false := beq_eq_false_iff_ne.mpr c3
   have c3b1 : (a0_1.toList != ([] : List UInt8)) = true := bne_iff_ne.mpr c3
   replace H := Option.bind_eq_some_iff.mp H
   obtain ⟨t192, A70, H⟩ := H
   replace H : (if t192 = true then ((impl_lowestKey.f a0_0 a0_1).bind fun t193 => (some (Op.bytesLess t193.toList a0_1.toList))) else (some false)) = some r := H
   have A7 := Aside0.mk A70
   clear A70
   by_cases c8 : t192 = true
   ·subst c8
    have H1 : ((impl_lowestKey.f a0_0 a0_1).bind fun t193 => (some (Op.bytesLess t193.toList a0_1.toList))) = some r := by rw [if_pos rfl] at H; exact H
    clear H
    have H := H1
    clear H1
    replace H := Option.bind_eq_some_iff.mp H
    obtain ⟨t193, A90, H⟩ := H
    replace H : (some (Op.bytesLess t193.toList a0_1.toList)) = some r := H
    have A9 := Aside0.mk A90
    clear A90
    obtain rfl := Option.some.inj H
    go_enter Try.func101, Try.ntmps101
    try go_wp2_with (first | ((with_reducible refine gate_dst (N := 1) rfl ?_); refine box_event ?hg (N := 1) ?hd (cs := #[.string a0_0, .string a0_1]) (t := 76) ?hr ?_; (case hd => rfl); (case hg => rfl); (case hr => first | (go_simp; done) | (go_simp; rfl)); intro gb191 hg w10 hbox hb; have n0_ := Aside0.mk (below_step (by exact hopb HB.out) hb); have n1_ := Aside0.mk (hbox); have n2_ := Aside0.mk ((by rw [hg]; exact (below_size (by exact hopb HB.out)) : w.heap.size ≤ gb191)); have n3_ := n2_; clear HB; have HB := n0_; have BK191 := n1_; have GW191 := n2_; have GE191 := n3_; clear n0_ n1_ n2_ n3_; clear hb hbox hg; have hcz11_0 : w10.cell? ⟨gb191, 0, none⟩ = some (.string a0_0) := (blk_cell BK191.out 0).trans rfl; have hcz11_1 : w10.cell? ⟨gb191, 1, none⟩ = some (.string a0_1) := (blk_cell BK191.out 1).trans rfl; have hfz11_0 := blk_frozen BK191.out 0; have hfz11_1 := blk_frozen BK191.out 1) | (go_at_call 50; (with_reducible refine (impl_KeyValid.calls k a0_1 true _ A7.out).mono ?_); rintro e w' ⟨rfl, ⟨nd, rfl⟩⟩))
    (try (rw [drewN_self w10]; generalize hq_ : World.drewN w10 _ = w10; have n0_ : Aside0 (w10.heap[gb191]? = some (.cells #[.string a0_0, .string a0_1] 76 (0, 0))) := ⟨by rw [← hq_]; exact (by exact hop BK191.out)⟩; have n1_ : Aside0 (Below w.heap.size w w10) := ⟨by rw [← hq_]; exact (by repeat (first | (with_reducible first | exact HB.out | apply bA | apply bN | apply bD | refine bS ?_ GE191.out) | exact HB.out))⟩; clear BK191 HB hq_; have BK191 := n0_; have HB := n1_; clear n0_ n1_))
    have n0_ := Aside0.mk (blk_drew BK191.out)
    have n1_ := Aside0.mk (below_drew1 HB.out)
    clear BK191
    clear HB
    have BK191 := n0_
    have HB := n1_
    clear n0_ n1_
    refine start_ (n := 11) (S := fun w' => w'.cell? ⟨gb191, 0, none⟩ = some (.string a0_0) ∧ w'.cell? ⟨gb191, 1, none⟩ = some (.string a0_1)) (ds := []) #[false, false, false, false, false, false, false, false, false, false, false] (by kernel_rfl) rfl rfl ⟨(blk_cell BK191.out 0).trans rfl, (blk_cell BK191.out 1).trans rfl⟩ (fun hHeld => ?_); refine with_tabW impl_IntervalValid.tab3 impl_IntervalValid.bits3 (fun HT_ HW_ => ?_)
    generalize w10.drew = w12 at BK191 HB hHeld ⊢
    refine pure_ (i := 0) (N := some 23) (v := ?_) (a' := ?_) #[true, false, false, false, false, false, false, false, false, false, false] rfl rfl (any_of HT_.out (by kernel_rfl)) (fun _ _ _ h => h) (Or.inl ⟨by rfl, ?_⟩) ?_ ?_
    rotate_left
    ·intro w'
     go_simp
     with_reducible rfl
    rotate_left
    ·simp only [Act.put, lT, lZ, lS, i64_w, i32_w]
     rfl
    refine take_ (i := 1) (N := some 24) (v := ?_) (a' := ?_) #[true, true, false, false, false, false, false, false, false, false, false] rfl rfl (take_ofW HT_.out HW_.out (by kernel_rfl)) (fun _ _ _ h => h) (Or.inl ⟨by rfl, ?_⟩) hHeld ?_ ?_
    rotate_left
    ·rintro w' ⟨s0, s1⟩
     go_simp
     with_reducible rfl
    rotate_left
    ·simp only [Act.put, lT, lZ, lS, i64_w, i32_w]
     rfl
    refine pure_ (i := 2) (N := some 25) (v := ?_) (a' := ?_) #[true, true, true, false, false, false, false, false, false, false, false] rfl rfl (any_of HT_.out (by kernel_rfl)) (fun _ _ _ h => h) (Or.inl ⟨by rfl, ?_⟩) ?_ ?_
    rotate_left
    ·intro w'
     go_simp
     with_reducible rfl
    rotate_left
    ·simp only [Act.put, lT, lZ, lS, i64_w, i32_w]
     rfl
    refine pure_ (i := 3) (N := some 26) (v := ?_) (a' := ?_) #[true, true, true, true, false, false, false, false, false, false, false] rfl rfl (any_of HT_.out (by kernel_rfl)) (fun _ _ _ h => h) (Or.inl ⟨by rfl, ?_⟩) ?_ ?_
    rotate_left
    ·intro w'
     go_simp
     with_reducible rfl
    rotate_left
    ·simp only [Act.put, lT, lZ, lS, i64_w, i32_w]
     rfl
    refine pure_ (i := 6) (N := some 29) (v := ?_) (a' := ?_) #[true, true, true, true, false, false, true, false, false, false, false] rfl rfl (any_of HT_.out (by kernel_rfl)) (fun _ _ _ h => h) (Or.inl ⟨by rfl, ?_⟩) ?_ ?_
    rotate_left
    ·intro w'
     go_simp
     with_reducible rfl
    rotate_left
    ·simp only [Act.put, lT, lZ, lS, i64_w, i32_w]
     rfl
    refine take_ (i := 4) (N := some 27) (v := ?_) (a' := ?_) #[true, true, true, true, true, false, true, false, false, false, false] rfl rfl (take_ofW HT_.out HW_.out (by kernel_rfl)) (fun _ _ _ h => h) (Or.inl ⟨by rfl, ?_⟩) hHeld ?_ ?_
    rotate_left
    ·rintro w' ⟨s0, s1⟩
     go_simp
     with_reducible rfl
    rotate_left
    ·simp only [Act.put, lT, lZ, lS, i64_w, i32_w]
     rfl
    refine take_ (i := 7) (N := some 30) (v := ?_) (a' := ?_) #[true, true, true, true, true, false, true, true, false, false, false] rfl rfl (take_ofW HT_.out HW_.out (by kernel_rfl)) (fun _ _ _ h => h) (Or.inl ⟨by rfl, ?_⟩) hHeld ?_ ?_
    rotate_left
    ·rintro w' ⟨s0, s1⟩
     go_simp
     with_reducible rfl
    rotate_left
    ·simp only [Act.put, lT, lZ, lS, i64_w, i32_w]
     rfl
    refine one_ (i := 5) (N := some 28) #[true, true, true, true, true, true, true, true, false, false, false] rfl rfl (one_of HT_.out (by kernel_rfl)) (by decide) (fun K hK => ?_)
    refine goes_ Try.func113 (by kernel_rfl) rfl #[.agg #[.string a0_0, .string a0_1]] (by rfl) rfl rfl (by (try simp only [List.map_toArray, List.map_cons, List.map_nil]); first | done | rfl | (simp only [List.length_drop, List.length_take]; rfl)) ?_
    with_reducible refine (impl_lowestKey.calls a0_0 a0_1 t193 _ A9.out).mono ?_
    rintro e w13 ⟨rfl, hb⟩
    refine ⟨_, rfl, ?_⟩
    have n0_ := Aside0.mk (blk_below (hop BK191.out) hb)
    have n1_ := Aside0.mk (below_step (by repeat (first | (with_reducible first | exact HB.out | apply bA | apply bN | apply bD | refine bS ?_ GE191.out) | exact HB.out)) hb)
    clear BK191
    clear HB
    have BK191 := n0_
    have HB := n1_
    clear n0_ n1_
    (try clear hb)
    (try clear hb2)
    (try clear hk)
    (try clear hi)
    refine hK.out _ _ ⟨(blk_cell BK191.out 0).trans rfl, (blk_cell BK191.out 1).trans rfl⟩ (fun hHeld => ?_)
    clear hK K
    refine norm_ (a' := ?_) ?_ ?_
    rotate_left
    ·show Act.put _ (some 28) _ = _
     simp only [Act.put, lT, lZ, lS, i64_w, i32_w]
     rfl
    refine pure_ (i := 8) (N := some 31) (v := ?_) (a' := ?_) #[true, true, true, true, true, true, true, true, true, false, false] rfl rfl (any_of HT_.out (by kernel_rfl)) (fun _ _ _ h => h) (Or.inl ⟨by rfl, ?_⟩) ?_ ?_
    rotate_left
    ·intro w'
     go_simp
     with_reducible rfl
    rotate_left
    ·simp only [Act.put, lT, lZ, lS, i64_w, i32_w]
     rfl
    refine pure_ (i := 9) (N := some 32) (v := ?_) (a' := ?_) #[true, true, true, true, true, true, true, true, true, true, false] rfl rfl (any_of HT_.out (by kernel_rfl)) (fun _ _ _ h => h) (Or.inl ⟨by rfl, ?_⟩) ?_ ?_
    rotate_left
    ·intro w'
     go_simp
     with_reducible rfl
    rotate_left
    ·simp only [Act.put, lT, lZ, lS, i64_w, i32_w]
     rfl
    refine pure_ (i := 10) (N := some 2) (v := ?_) (a' := ?_) #[true, true, true, true, true, true, true, true, true, true, true] rfl rfl (any_of HT_.out (by kernel_rfl)) (fun _ _ _ h => h) (Or.inl ⟨by rfl, ?_⟩) ?_ ?_
    rotate_left
    ·intro w'
     go_simp
     with_reducible rfl
    rotate_left
    ·simp only [Act.put, lT, lZ, lS, i64_w, i32_w]
     rfl
    refine done_ (done_of HT_.out (by kernel_rfl)) ?_
    try go_wp2
    go_ret
    exact ⟨by first | rfl | (simp only [u8_w_, w64_u8_] <;> rfl) | (simp [errW_none, errW_some] <;> rfl) | (simp [*, errW_none, errW_some] <;> rfl), by repeat (first | (with_reducible first | exact HB.out | apply bA | apply bN | apply bD | refine bS ?_ GE191.out) | exact HB.out)⟩
   ·replace c8 := Bool.eq_false_iff.mpr c8
    subst c8
    have H1 : (some false) = some r := by rw [if_neg (show ¬ (false = true) by decide)] at H; exact H
    clear H
    have H := H1
    clear H1
    obtain rfl := Option.some.inj H
    go_enter Try.func101, Try.ntmps101
    go_wp2_with (first | ((with_reducible refine gate_dst (N := 1) rfl ?_); refine box_event ?hg (N := 1) ?hd (cs := #[.string a0_0, .string a0_1]) (t := 76) ?hr ?_; (case hd => rfl); (case hg => rfl); (case hr => first | (go_simp; done) | (go_simp; rfl)); intro gb191 hg w14 hbox hb; have n0_ := Aside0.mk (below_step (by exact hopb HB.out) hb); have n1_ := Aside0.mk (hbox); have n2_ := Aside0.mk ((by rw [hg]; exact (below_size (by exact hopb HB.out)) : w.heap.size ≤ gb191)); have n3_ := n2_; clear HB; have HB := n0_; have BK191 := n1_; have GW191 := n2_; have GE191 := n3_; clear n0_ n1_ n2_ n3_; clear hb hbox hg; have hcz15_0 : w14.cell? ⟨gb191, 0, none⟩ = some (.string a0_0) := (blk_cell BK191.out 0).trans rfl; have hcz15_1 : w14.cell? ⟨gb191, 1, none⟩ = some (.string a0_1) := (blk_cell BK191.out 1).trans rfl; have hfz15_0 := blk_frozen BK191.out 0; have hfz15_1 := blk_frozen BK191.out 1) | (go_at_call 50; (with_reducible refine (impl_KeyValid.calls k a0_1 false _ A7.out).mono ?_); rintro e w' ⟨rfl, ⟨nd, rfl⟩⟩))
    go_ret
    exact ⟨by first | rfl | (simp only [u8_w_, w64_u8_] <;> rfl) | (simp [errW_none, errW_some] <;> rfl) | (simp [*, errW_none, errW_some] <;> rfl), by repeat (first | (with_reducible first | exact HB.out | apply bA | apply bN | apply bD | refine bS ?_ GE191.out) | exact HB.out)⟩
 ·rw [if_neg c2] at H
  have c2b0 : (a0_0.toList == ([] : List UInt8)) = false := beq_eq_false_iff_ne.mpr c2
  have c2b1 : (a0_0.toList != ([] : List UInt8)) = true := bne_iff_ne.mpr c2
  replace H := Option.bind_eq_some_iff.mp H
  obtain ⟨t194, A160, H⟩ := H
  replace H : (if t194 = true then (if a0_1.toList = ([] : List UInt8) then (some true) else ((impl_KeyValid.f k a0_1).bind fun t195 => (if t195 = true then ((impl_lowestKey.f a0_0 a0_1).bind fun t196 => (some (Op.bytesLess t196.toList a0_1.toList))) else (some false)))) else (some false)) = some r := H
  have A16 := Aside0.mk A160
  clear A160
  by_cases c17 : t194 = true
  ·subst c17
   have H1 : (if a0_1.toList = ([] : List UInt8) then (some true) else ((impl_KeyValid.f k a0_1).bind fun t195 => (if t195 = true then ((impl_lowestKey.f a0_0 a0_1).bind fun t196 => (some (Op.bytesLess t196.toList a0_1.toList))) else (some false)))) = some r := by rw [if_pos rfl] at H; exact H
   clear H
   have H := H1
   clear H1
   by_cases c18 : a0_1.toList = ([] : List UInt8)
   ·rw [if_pos c18] at H
    have c18b0 : (a0_1.toList == ([] : List UInt8)) = true := beq_iff_eq.mpr c18
    have c18b1 : (a0_1.toList != ([] : List UInt8)) = false := bne_eq_false_iff_eq.mpr c18
    clear c18
    obtain rfl := Option.some.inj H
    go_enter Try.func101, Try.ntmps101
    try go_wp2_with (first | ((with_reducible refine gate_dst (N := 1) rfl ?_); refine box_event ?hg (N := 1) ?hd (cs := #[.string a0_0, .string a0_1]) (t := 76) ?hr ?_; (case hd => rfl); (case hg => rfl); (case hr => first | (go_simp; done) | (go_simp; rfl)); intro gb191 hg w19 hbox hb; have n0_ := Aside0.mk (below_step (by exact hopb HB.out) hb); have n1_ := Aside0.mk (hbox); have n2_ := Aside0.mk ((by rw [hg]; exact (below_size (by exact hopb HB.out)) : w.heap.size ≤ gb191)); have n3_ := n2_; clear HB; have HB := n0_; have BK191 := n1_; have GW191 := n2_; have GE191 := n3_; clear n0_ n1_ n2_ n3_; clear hb hbox hg; have hcz20_0 : w19.cell? ⟨gb191, 0, none⟩ = some (.string a0_0) := (blk_cell BK191.out 0).trans rfl; have hcz20_1 : w19.cell? ⟨gb191, 1, none⟩ = some (.string a0_1) := (blk_cell BK191.out 1).trans rfl; have hfz20_0 := blk_frozen BK191.out 0; have hfz20_1 := blk_frozen BK191.out 1) | (go_at_call 50; (with_reducible refine (impl_KeyValid.calls k a0_0 true _ A16.out).mono ?_); rintro e w' ⟨rfl, ⟨nd, rfl⟩⟩))
    (try (rw [drewN_self w19]; generalize hq_ : World.drewN w19 _ = w19; have n0_ : Aside0 (w19.heap[gb191]? = some (.cells #[.string a0_0, .string a0_1] 76 (0, 0))) := ⟨by rw [← hq_]; exact (by exact hop BK191.out)⟩; have n1_ : Aside0 (Below w.heap.size w w19) := ⟨by rw [← hq_]; exact (by repeat (first | (with_reducible first | exact HB.out | apply bA | apply bN | apply bD | refine bS ?_ GE191.out) | exact HB.out))⟩; clear BK191 HB hq_; have BK191 := n0_; have HB := n1_; clear n0_ n1_))
    have n0_ := Aside0.mk (blk_drew BK191.out)
    have n1_ := Aside0.mk (below_drew1 HB.out)
    clear BK191
    clear HB
    have BK191 := n0_
    have HB := n1_
    clear n0_ n1_
    refine start_ (n := 11) (S := fun w' => w'.cell? ⟨gb191, 0, none⟩ = some (.string a0_0) ∧ w'.cell? ⟨gb191, 1, none⟩ = some (.string a0_1)) (ds := []) #[false, false, false, false, false, false, false, false, false, false, false] (by kernel_rfl) rfl rfl ⟨(blk_cell BK191.out 0).trans rfl, (blk_cell BK191.out 1).trans rfl⟩ (fun hHeld => ?_); refine with_tabW impl_IntervalValid.tab3 impl_IntervalValid.bits3 (fun HT_ HW_ => ?_)
    generalize w19.drew = w21 at BK191 HB hHeld ⊢
    refine pure_ (i := 0) (N := some 23) (v := ?_) (a' := ?_) #[true, false, false, false, false, false, false, false, false, false, false] rfl rfl (any_of HT_.out (by kernel_rfl)) (fun _ _ _ h => h) (Or.inl ⟨by rfl, ?_⟩) ?_ ?_
    rotate_left
    ·intro w'
     go_simp
     with_reducible rfl
    rotate_left
    ·simp only [Act.put, lT, lZ, lS, i64_w, i32_w]
     rfl
    refine take_ (i := 1) (N := some 24) (v := ?_) (a' := ?_) #[true, true, false, false, false, false, false, false, false, false, false] rfl rfl (take_ofW HT_.out HW_.out (by kernel_rfl)) (fun _ _ _ h => h) (Or.inl ⟨by rfl, ?_⟩) hHeld ?_ ?_
    rotate_left
    ·rintro w' ⟨s0, s1⟩
     go_simp
     with_reducible rfl
    rotate_left
    ·simp only [Act.put, lT, lZ, lS, i64_w, i32_w]
     rfl
    refine pure_ (i := 2) (N := some 25) (v := ?_) (a' := ?_) #[true, true, true, false, false, false, false, false, false, false, false] rfl rfl (any_of HT_.out (by kernel_rfl)) (fun _ _ _ h => h) (Or.inl ⟨by rfl, ?_⟩) ?_ ?_
    rotate_left
    ·intro w'
     go_simp
     with_reducible rfl
    rotate_left
    ·simp only [Act.put, lT, lZ, lS, i64_w, i32_w]
     rfl
    refine pure_ (i := 3) (N := some 26) (v := ?_) (a' := ?_) #[true, true, true, true, false, false, false, false, false, false, false] rfl rfl (any_of HT_.out (by kernel_rfl)) (fun _ _ _ h => h) (Or.inl ⟨by rfl, ?_⟩) ?_ ?_
    rotate_left
    ·intro w'
     go_simp
     with_reducible rfl
    rotate_left
    ·simp only [Act.put, lT, lZ, lS, i64_w, i32_w]
     rfl
    refine pure_ (i := 4) (N := some 27) (v := undef) (a' := ?_) #[true, true, true, true, true, false, false, false, false, false, false] rfl rfl (any_of HT_.out (by kernel_rfl)) (fun _ _ _ h => h) (Or.inr ⟨by rfl, rfl⟩) ?_ ?_
    rotate_left
    ·simp only [Act.put, lT, lZ, lS, i64_w, i32_w]
     rfl
    refine pure_ (i := 5) (N := some 28) (v := undef) (a' := ?_) #[true, true, true, true, true, true, false, false, false, false, false] rfl rfl (any_of HT_.out (by kernel_rfl)) (fun _ _ _ h => h) (Or.inr ⟨by rfl, rfl⟩) ?_ ?_
    rotate_left
    ·simp only [Act.put, lT, lZ, lS, i64_w, i32_w]
     rfl
    refine pure_ (i := 6) (N := some 29) (v := undef) (a' := ?_) #[true, true, true, true, true, true, true, false, false, false, false] rfl rfl (any_of HT_.out (by kernel_rfl)) (fun _ _ _ h => h) (Or.inr ⟨by rfl, rfl⟩) ?_ ?_
    rotate_left
    ·simp only [Act.put, lT, lZ, lS, i64_w, i32_w]
     rfl
    refine pure_ (i := 7) (N := some 30) (v := undef) (a' := ?_) #[true, true, true, true, true, true, true, true, false, false, false] rfl rfl (any_of HT_.out (by kernel_rfl)) (fun _ _ _ h => h) (Or.inr ⟨by rfl, rfl⟩) ?_ ?_
    rotate_left
    ·simp only [Act.put, lT, lZ, lS, i64_w, i32_w]
     rfl
    refine pure_ (i := 8) (N := some 31) (v := undef) (a' := ?_) #[true, true, true, true, true, true, true, true, true, false, false] rfl rfl (any_of HT_.out (by kernel_rfl)) (fun _ _ _ h => h) (Or.inr ⟨by rfl, rfl⟩) ?_ ?_
    rotate_left
    ·simp only [Act.put, lT, lZ, lS, i64_w, i32_w]
     rfl
    refine pure_ (i := 9) (N := some 32) (v := ?_) (a' := ?_) #[true, true, true, true, true, true, true, true, true, true, false] rfl rfl (any_of HT_.out (by kernel_rfl)) (fun _ _ _ h => h) (Or.inl ⟨by rfl, ?_⟩) ?_ ?_
    rotate_left
    ·intro w'
     go_simp
     with_reducible rfl
    rotate_left
    ·simp only [Act.put, lT, lZ, lS, i64_w, i32_w]
     rfl
    refine pure_ (i := 10) (N := some 2) (v := ?_) (a' := ?_) #[true, true, true, true, true, true, true, true, true, true, true] rfl rfl (any_of HT_.out (by kernel_rfl)) (fun _ _ _ h => h) (Or.inl ⟨by rfl, ?_⟩) ?_ ?_
    rotate_left
    ·intro w'
     go_simp
     with_reducible rfl
    rotate_left
    ·simp only [Act.put, lT, lZ, lS, i64_w, i32_w]
     rfl
    refine done_ (done_of HT_.out (by kernel_rfl)) ?_
    try go_wp2
    go_ret
    exact ⟨by first | rfl | (simp only [u8_w_, w64_u8_] <;> rfl) | (simp [errW_none, errW_some] <;> rfl) | (simp [*, errW_none, errW_some] <;> rfl), by repeat (first | (with_reducible first | exact HB.out | apply bA | apply bN | apply bD | refine bS ?_ GE191.out) | exact HB.out)⟩
   ·rw [if_neg c18] at H
    have c18b0 : (a0_1.toList == ([] : List UInt8)) = false := beq_eq_false_iff_ne.mpr c18
    have c18b1 : (a0_1.toList != ([] : List UInt8)) = true := bne_iff_ne.mpr c18
    replace H := Option.bind_eq_some_iff.mp H
    obtain ⟨t195, A220, H⟩ := H
    replace H : (if t195 = true then ((impl_lowestKey.f a0_0 a0_1).bind fun t196 => (some (Op.bytesLess t196.toList a0_1.toList))) else (some false)) = some r := H
    have A22 := Aside0.mk A220
    clear A220
    by_cases c23 : t195 = true
    ·subst c23
     have H1 : ((impl_lowestKey.f a0_0 a0_1).bind fun t196 => (some (Op.bytesLess t196.toList a0_1.toList))) = some r := by rw [if_pos rfl] at H; exact H
     clear H
     have H := H1
     clear H1
     replace H := Option.bind_eq_some_iff.mp H
     obtain ⟨t196, A240, H⟩ := H
     replace H : (some (Op.bytesLess t196.toList a0_1.toList)) = some r := H
     have A24 := Aside0.mk A240
     clear A240
     obtain rfl := Option.some.inj H
     go_enter Try.func101, Try.ntmps101
     try go_wp2_with (first | ((with_reducible refine gate_dst (N := 1) rfl ?_); refine box_event ?hg (N := 1) ?hd (cs := #[.string a0_0, .string a0_1]) (t := 76) ?hr ?_; (case hd => rfl); (case hg => rfl); (case hr => first | (go_simp; done) | (go_simp; rfl)); intro gb191 hg w25 hbox hb; have n0_ := Aside0.mk (below_step (by exact hopb HB.out) hb); have n1_ := Aside0.mk (hbox); have n2_ := Aside0.mk ((by rw [hg]; exact (below_size (by exact hopb HB.out)) : w.heap.size ≤ gb191)); have n3_ := n2_; clear HB; have HB := n0_; have BK191 := n1_; have GW191 := n2_; have GE191 := n3_; clear n0_ n1_ n2_ n3_; clear hb hbox hg; have hcz26_0 : w25.cell? ⟨gb191, 0, none⟩ = some (.string a0_0) := (blk_cell BK191.out 0).trans rfl; have hcz26_1 : w25.cell? ⟨gb191, 1, none⟩ = some (.string a0_1) := (blk_cell BK191.out 1).trans rfl; have hfz26_0 := blk_frozen BK191.out 0; have hfz26_1 := blk_frozen BK191.out 1) | (go_at_call 50; (with_reducible refine (impl_KeyValid.calls k a0_0 true _ A16.out).mono ?_); rintro e w' ⟨rfl, ⟨nd, rfl⟩⟩) | (go_at_call 50; (with_reducible refine (impl_KeyValid.calls k a0_1 true _ A22.out).mono ?_); rintro e w' ⟨rfl, ⟨nd, rfl⟩⟩))
     (try (rw [drewN_self w25]; generalize hq_ : World.drewN w25 _ = w25; have n0_ : Aside0 (w25.heap[gb191]? = some (.cells #[.string a0_0, .string a0_1] 76 (0, 0))) := ⟨by rw [← hq_]; exact (by exact hop BK191.out)⟩; have n1_ : Aside0 (Below w.heap.size w w25) := ⟨by rw [← hq_]; exact (by repeat (first | (with_reducible first | exact HB.out | apply bA | apply bN | apply bD | refine bS ?_ GE191.out) | exact HB.out))⟩; clear BK191 HB hq_; have BK191 := n0_; have HB := n1_; clear n0_ n1_))
     have n0_ := Aside0.mk (blk_drew BK191.out)
     have n1_ := Aside0.mk (below_drew1 HB.out)
     clear BK191
     clear HB
     have BK191 := n0_
     have HB := n1_
     clear n0_ n1_
     refine start_ (n := 11) (S := fun w' => w'.cell? ⟨gb191, 0, none⟩ = some (.string a0_0) ∧ w'.cell? ⟨gb191, 1, none⟩ = some (.string a0_1)) (ds := []) #[false, false, false, false, false, false, false, false, false, false, false] (by kernel_rfl) rfl rfl ⟨(blk_cell BK191.out 0).trans rfl, (blk_cell BK191.out 1).trans rfl⟩ (fun hHeld => ?_); refine with_tabW impl_IntervalValid.tab3 impl_IntervalValid.bits3 (fun HT_ HW_ => ?_)
     generalize w25.drew = w27 at BK191 HB hHeld ⊢
     refine pure_ (i := 0) (N := some 23) (v := ?_) (a' := ?_) #[true, false, false, false, false, false, false, false, false, false, false] rfl rfl (any_of HT_.out (by kernel_rfl)) (fun _ _ _ h => h) (Or.inl ⟨by rfl, ?_⟩) ?_ ?_
     rotate_left
     ·intro w'
      go_simp
      with_reducible rfl
     rotate_left
     ·simp only [Act.put, lT, lZ, lS, i64_w, i32_w]
      rfl
     refine take_ (i := 1) (N := some 24) (v := ?_) (a' := ?_) #[true, true, false, false, false, false, false, false, false, false, false] rfl rfl (take_ofW HT_.out HW_.out (by kernel_rfl)) (fun _ _ _ h => h) (Or.inl ⟨by rfl, ?_⟩) hHeld ?_ ?_
     rotate_left
     ·rintro w' ⟨s0, s1⟩
      go_simp
      with_reducible rfl
     rotate_left
     ·simp only [Act.put, lT, lZ, lS, i64_w, i32_w]
      rfl
     refine pure_ (i := 2) (N := some 25) (v := ?_) (a' := ?_) #[true, true, true, false, false, false, false, false, false, false, false] rfl rfl (any_of HT_.out (by kernel_rfl)) (fun _ _ _ h => h) (Or.inl ⟨by rfl, ?_⟩) ?_ ?_
     rotate_left
     ·intro w'
      go_simp
      with_reducible rfl
     rotate_left
     ·simp only [Act.put, lT, lZ, lS, i64_w, i32_w]
      rfl
     refine pure_ (i := 3) (N := some 26) (v := ?_) (a' := ?_) #[true, true, true, true, false, false, false, false, false, false, false] rfl rfl (any_of HT_.out (by kernel_rfl)) (fun _ _ _ h => h) (Or.inl ⟨by rfl, ?_⟩) ?_ ?_
     rotate_left
     ·intro w'
      go_simp
      with_reducible rfl
     rotate_left
     ·simp only [Act.put, lT, lZ, lS, i64_w, i32_w]
      rfl
     refine pure_ (i := 6) (N := some 29) (v := ?_) (a' := ?_) #[true, true, true, true, false, false, true, false, false, false, false] rfl rfl (any_of HT_.out (by kernel_rfl)) (fun _ _ _ h => h) (Or.inl ⟨by rfl, ?_⟩) ?_ ?_
     rotate_left
     ·intro w'
      go_simp
      with_reducible rfl
     rotate_left
     ·simp only [Act.put, lT, lZ, lS, i64_w, i32_w]
      rfl
     refine take_ (i := 4) (N := some 27) (v := ?_) (a' := ?_) #[true, true, true, true, true, false, true, false, false, false, false] rfl rfl (take_ofW HT_.out HW_.out (by kernel_rfl)) (fun _ _ _ h => h) (Or.inl ⟨by rfl, ?_⟩) hHeld ?_ ?_
     rotate_left
     ·rintro w' ⟨s0, s1⟩
      go_simp
      with_reducible rfl
     rotate_left
     ·simp only [Act.put, lT, lZ, lS, i64_w, i32_w]
      rfl
     refine take_ (i := 7) (N := some 30) (v := ?_) (a' := ?_) #[true, true, true, true, true, false, true, true, false, false, false] rfl rfl (take_ofW HT_.out HW_.out (by kernel_rfl)) (fun _ _ _ h => h) (Or.inl ⟨by rfl, ?_⟩) hHeld ?_ ?_
     rotate_left
     ·rintro w' ⟨s0, s1⟩
      go_simp
      with_reducible rfl
     rotate_left
     ·simp only [Act.put, lT, lZ, lS, i64_w, i32_w]
      rfl
     refine one_ (i := 5) (N := some 28) #[true, true, true, true, true, true, true, true, false, false, false] rfl rfl (one_of HT_.out (by kernel_rfl)) (by decide) (fun K hK => ?_)
     refine goes_ Try.func113 (by kernel_rfl) rfl #[.agg #[.string a0_0, .string a0_1]] (by rfl) rfl rfl (by (try simp only [List.map_toArray, List.map_cons, List.map_nil]); first | done | rfl | (simp only [List.length_drop, List.length_take]; rfl)) ?_
     with_reducible refine (impl_lowestKey.calls a0_0 a0_1 t196 _ A24.out).mono ?_
     rintro e w28 ⟨rfl, hb⟩
     refine ⟨_, rfl, ?_⟩
     have n0_ := Aside0.mk (blk_below (hop BK191.out) hb)
     have n1_ := Aside0.mk (below_step (by repeat (first | (with_reducible first | exact HB.out | apply bA | apply bN | apply bD | refine bS ?_ GE191.out) | exact HB.out)) hb)
     clear BK191
     clear HB
     have BK191 := n0_
     have HB := n1_
     clear n0_ n1_
     (try clear hb)
     (try clear hb2)
     (try clear hk)
     (try clear hi)
     refine hK.out _ _ ⟨(blk_cell BK191.out 0).trans rfl, (blk_cell BK191.out 1).trans rfl⟩ (fun hHeld => ?_)
     clear hK K
     refine norm_ (a' := ?_) ?_ ?_
     rotate_left
     ·show Act.put _ (some 28) _ = _
      simp only [Act.put, lT, lZ, lS, i64_w, i32_w]
      rfl
     refine pure_ (i := 8) (N := some 31) (v := ?_) (a' := ?_) #[true, true, true, true, true, true, true, true, true, false, false] rfl rfl (any_of HT_.out (by kernel_rfl)) (fun _ _ _ h => h) (Or.inl ⟨by rfl, ?_⟩) ?_ ?_
     rotate_left
     ·intro w'
      go_simp
      with_reducible rfl
     rotate_left
     ·simp only [Act.put, lT, lZ, lS, i64_w, i32_w]
      rfl
     refine pure_ (i := 9) (N := some 32) (v := ?_) (a' := ?_) #[true, true, true, true, true, true, true, true, true, true, false] rfl rfl (any_of HT_.out (by kernel_rfl)) (fun _ _ _ h => h) (Or.inl ⟨by rfl, ?_⟩) ?_ ?_
     rotate_left
     ·intro w'
      go_simp
      with_reducible rfl
     rotate_left
     ·simp only [Act.put, lT, lZ, lS, i64_w, i32_w]
      rfl
     refine pure_ (i := 10) (N := some 2) (v := ?_) (a' := ?_) #[true, true, true, true, true, true, true, true, true, true, true] rfl rfl (any_of HT_.out (by kernel_rfl)) (fun _ _ _ h => h) (Or.inl ⟨by rfl, ?_⟩) ?_ ?_
     rotate_left
     ·intro w'
      go_simp
      with_reducible rfl
     rotate_left
     ·simp only [Act.put, lT, lZ, lS, i64_w, i32_w]
      rfl
     refine done_ (done_of HT_.out (by kernel_rfl)) ?_
     try go_wp2
     go_ret
     exact ⟨by first | rfl | (simp only [u8_w_, w64_u8_] <;> rfl) | (simp [errW_none, errW_some] <;> rfl) | (simp [*, errW_none, errW_some] <;> rfl), by repeat (first | (with_reducible first | exact HB.out | apply bA | apply bN | apply bD | refine bS ?_ GE191.out) | exact HB.out)⟩
    ·replace c23 := Bool.eq_false_iff.mpr c23
     subst c23
     have H1 : (some false) = some r := by rw [if_neg (show ¬ (false = true) by decide)] at H; exact H
     clear H
     have H := H1
     clear H1
     obtain rfl := Option.some.inj H
     go_enter Try.func101, Try.ntmps101
     go_wp2_with (first | ((with_reducible refine gate_dst (N := 1) rfl ?_); refine box_event ?hg (N := 1) ?hd (cs := #[.string a0_0, .string a0_1]) (t := 76) ?hr ?_; (case hd => rfl); (case hg => rfl); (case hr => first | (go_simp; done) | (go_simp; rfl)); intro gb191 hg w29 hbox hb; have n0_ := Aside0.mk (below_step (by exact hopb HB.out) hb); have n1_ := Aside0.mk (hbox); have n2_ := Aside0.mk ((by rw [hg]; exact (below_size (by exact hopb HB.out)) : w.heap.size ≤ gb191)); have n3_ := n2_; clear HB; have HB := n0_; have BK191 := n1_; have GW191 := n2_; have GE191 := n3_; clear n0_ n1_ n2_ n3_; clear hb hbox hg; have hcz30_0 : w29.cell? ⟨gb191, 0, none⟩ = some (.string a0_0) := (blk_cell BK191.out 0).trans rfl; have hcz30_1 : w29.cell? ⟨gb191, 1, none⟩ = some (.string a0_1) := (blk_cell BK191.out 1).trans rfl; have hfz30_0 := blk_frozen BK191.out 0; have hfz30_1 := blk_frozen BK191.out 1) | (go_at_call 50; (with_reducible refine (impl_KeyValid.calls k a0_0 true _ A16.out).mono ?_); rintro e w' ⟨rfl, ⟨nd, rfl⟩⟩) | (go_at_call 50; (with_reducible refine (impl_KeyValid.calls k a0_1 false _ A22.out).mono ?_); rintro e w' ⟨rfl, ⟨nd, rfl⟩⟩))
     go_ret
     exact ⟨by first | rfl | (simp only [u8_w_, w64_u8_] <;> rfl) | (simp [errW_none, errW_some] <;> rfl) | (simp [*, errW_none, errW_some] <;> rfl), by repeat (first | (with_reducible first | exact HB.out | apply bA | apply bN | apply bD | refine bS ?_ GE191.out) | exact HB.out)⟩
  ·replace c17 := Bool.eq_false_iff.mpr c17
   subst c17
   have H1 : (some false) = some r := by rw [if_neg (show ¬ (false = true) by decide)] at H; exact H
   clear H
   have H := H1
   clear H1
   obtain rfl := Option.some.inj H
   go_enter Try.func101, Try.ntmps101
   go_wp2_with (first | ((with_reducible refine gate_dst (N := 1) rfl ?_); refine box_event ?hg (N := 1) ?hd (cs := #[.string a0_0, .string a0_1]) (t := 76) ?hr ?_; (case hd => rfl); (case hg => rfl); (case hr => first | (go_simp; done) | (go_simp; rfl)); intro gb191 hg w31 hbox hb; have n0_ := Aside0.mk (below_step (by exact hopb HB.out) hb); have n1_ := Aside0.mk (hbox); have n2_ := Aside0.mk ((by rw [hg]; exact (below_size (by exact hopb HB.out)) : w.heap.size ≤ gb191)); have n3_ := n2_; clear HB; have HB := n0_; have BK191 := n1_; have GW191 := n2_; have GE191 := n3_; clear n0_ n1_ n2_ n3_; clear hb hbox hg; have hcz32_0 : w31.cell? ⟨gb191, 0, none⟩ = some (.string a0_0) := (blk_cell BK191.out 0).trans rfl; have hcz32_1 : w31.cell? ⟨gb191, 1, none⟩ = some (.string a0_1) := (blk_cell BK191.out 1).trans rfl; have hfz32_0 := blk_frozen BK191.out 0; have hfz32_1 := blk_frozen BK191.out 1) | (go_at_call 50; (with_reducible refine (impl_KeyValid.calls k a0_0 false _ A16.out).mono ?_); rintro e w' ⟨rfl, ⟨nd, rfl⟩⟩))
   go_ret
   exact ⟨by first | rfl | (simp only [u8_w_, w64_u8_] <;> rfl) | (simp [errW_none, errW_some] <;> rfl) | (simp [*, errW_none, errW_some] <;> rfl), by repeat (first | (with_reducible first | exact HB.out | apply bA | apply bN | apply bD | refine bS ?_ GE191.out) | exact HB.out)⟩

/-! ### impl_IntervalJoin: function 112 -/
def impl_IntervalJoin.f (k : Nat) (a0_0 : ByteArray) (a0_1 : ByteArray) (a1_0 : ByteArray) (a1_1 : ByteArray) : Option (ByteArray × ByteArray × Bool) := (impl_IntervalValid.f k a0_0 a0_1).bind fun t200 => (if t200 = true then ((impl_IntervalValid.f k a1_0 a1_1).bind fun t201 => (if t201 = true then (if a0_1.toList = ([] : List UInt8) then (some ((⟨#[]⟩ : ByteArray), (⟨#[]⟩ : ByteArray), false)) else (if a0_1.toList = a1_0.toList then (some (a0_0, a1_1, true)) else (some ((⟨#[]⟩ : ByteArray), (⟨#[]⟩ : ByteArray), false)))) else (some ((⟨#[]⟩ : ByteArray), (⟨#[]⟩ : ByteArray), false)))) else (some ((⟨#[]⟩ : ByteArray), (⟨#[]⟩ : ByteArray), false)))
theorem impl_IntervalJoin.mono : ∀ a0 a1 a2 a3 k, LeO (impl_IntervalJoin.f k a0 a1 a2 a3) (impl_IntervalJoin.f (k + 1) a0 a1 a2 a3) := by
 intro a0 a1 a2 a3 k
 unfold impl_IntervalJoin.f
 repeat' first
   | (with_reducible exact impl_IntervalValid.mono _ _ _)
   | (with_reducible exact LeO.refl _)
   | (with_reducible exact LeO.none _)
   | (with_reducible refine LeO.ite ?_ ?_)
   | (with_reducible refine LeO.bind ?_ (fun _ => ?_))
   | exact impl_IntervalValid.mono _ _ _
   | exact LeO.none _
   | refine LeO.ite ?_ ?_
   | refine LeO.bind ?_ (fun _ => ?_)
set_option maxHeartbeats 8000000 in
set_option maxRecDepth 100000 in
theorem impl_IntervalJoin.calls (k : Nat) (a0_0 : ByteArray) (a0_1 : ByteArray) (a1_0 : ByteArray) (a1_1 : ByteArray) (r1 : ByteArray) (r2 : ByteArray) (r3 : Bool) (w : World) (h : impl_IntervalJoin.f k a0_0 a0_1 a1_0 a1_1 = some (r1, r2, r3)) :
  Calls Try.prog 112 #[.agg #[.string a0_0, .string a0_1], .agg #[.string a1_0, .string a1_1]] w fun e w' => e = .returned (.tuple #[.agg #[.string r1, .string r2], .bool r3]) ∧ Below w.heap.size w w' := by
 have hu76 := Try.underlying76
 have HB := Aside0.mk (Below.refl w.heap.size w)
 have H : ((impl_IntervalValid.f k a0_0 a0_1).bind fun t200 => (if t200 = true then ((impl_IntervalValid.f k a1_0 a1_1).bind fun t201 => (if t201 = true then (if a0_1.toList = ([] : List UInt8) then (some ((⟨#[]⟩ : ByteArray), (⟨#[]⟩ : ByteArray), false)) else (if a0_1.toList = a1_0.toList then (some (a0_0, a1_1, true)) else (some ((⟨#[]⟩ : ByteArray), (⟨#[]⟩ : ByteArray), false)))) else (some ((⟨#[]⟩ : ByteArray), (⟨#[]⟩ : ByteArray), false)))) else (some ((⟨#[]⟩ : ByteArray), (⟨#[]⟩ : ByteArray), false)))) = some (r1, r2, r3) := h
 clear h
 replace H := Option.bind_eq_some_iff.mp H
 obtain ⟨t200, A30, H⟩ := H
 replace H : (if t200 = true then ((impl_IntervalValid.f k a1_0 a1_1).bind fun t201 => (if t201 = true then (if a0_1.toList = ([] : List UInt8) then (some ((⟨#[]⟩ : ByteArray), (⟨#[]⟩ : ByteArray), false)) else (if a0_1.toList = a1_0.toList then (some (a0_0, a1_1, true)) else (some ((⟨#[]⟩ : ByteArray), (⟨#[]⟩ : ByteArray), false)))) else (some ((⟨#[]⟩ : ByteArray), (⟨#[]⟩ : ByteArray), false)))) else (some ((⟨#[]⟩ : ByteArray), (⟨#[]⟩ : ByteArray), false))) = some (r1, r2, r3) := H
 have A3 := Aside0.mk A30
 clear A30
 by_cases c4 : t200 = true
 ·subst c4
  have H1 : ((impl_IntervalValid.f k a1_0 a1_1).bind fun t201 => (if t201 = true then (if a0_1.toList = ([] : List UInt8) then (some ((⟨#[]⟩ : ByteArray), (⟨#[]⟩ : ByteArray), false)) else (if a0_1.toList = a1_0.toList then (some (a0_0, a1_1, true)) else (some ((⟨#[]⟩ : ByteArray), (⟨#[]⟩ : ByteArray), false)))) else (some ((⟨#[]⟩ : ByteArray), (⟨#[]⟩ : ByteArray), false)))) = some (r1, r2, r3) := by rw [if_pos rfl] at H; exact H
  clear H
  have H := H1
  clear H1
  replace H := Option.bind_eq_some_iff.mp H
  obtain ⟨t201, A50, H⟩ := H
  replace H : (if t201 = true then (if a0_1.toList = ([] : List UInt8) then (some ((⟨#[]⟩ : ByteArray), (⟨#[]⟩ : ByteArray), false)) else (if a0_1.toList = a1_0.toList then (some (a0_0, a1_1, true)) else (some ((⟨#[]⟩ : ByteArray), (⟨#[]⟩ : ByteArray), false)))) else (some ((⟨#[]⟩ : ByteArray), (⟨#[]⟩ : ByteArray), false))) = some (r1, r2, r3) := H
  have A5 := Aside0.mk A50
  clear A50
  by_cases c6 : t201 = true
  ·subst c6
   have H1 : (if a0_1.toList = ([] : List UInt8) then (some ((⟨#[]⟩ : ByteArray), (⟨#[]⟩ : ByteArray), false)) else (if a0_1.toList = a1_0.toList then (some (a0_0, a1_1, true)) else (some ((⟨#[]⟩ : ByteArray), (⟨#[]⟩ : ByteArray), false)))) = some (r1, r2, r3) := by rw [if_pos rfl] at H; exact H
   clear H
   have H := H1
   clear H1
   by_cases c7 : a0_1.toList = ([] : List UInt8)
   ·rw [if_pos c7] at H
    have c7b0 : (a0_1.toList == ([] : List UInt8)) = true := beq_iff_eq.mpr c7
    have c7b1 : (a0_1.toList != ([] : List UInt8)) = false := bne_eq_false_iff_eq.mpr c7
    clear c7
    simp only [Option.some.injEq, Prod.mk.injEq] at H
    obtain ⟨rfl, rfl, rfl⟩ := H
    go_enter Try.func112, Try.ntmps112
    go_wp2_with (first | ((with_reducible refine gate_dst (N := 2) rfl ?_); refine box_event ?hg (N := 2) ?hd (cs := #[.string a0_0, .string a0_1]) (t := 76) ?hr ?_; (case hd => rfl); (case hg => rfl); (case hr => first | (go_simp; done) | (go_simp; rfl)); intro gb197 hg w8 hbox hb; have n0_ := Aside0.mk (below_step (by exact hopb HB.out) hb); have n1_ := Aside0.mk (hbox); have n2_ := Aside0.mk ((by rw [hg]; exact (below_size (by exact hopb HB.out)) : w.heap.size ≤ gb197)); have n3_ := n2_; clear HB; have HB := n0_; have BK197 := n1_; have GW197 := n2_; have GE197 := n3_; clear n0_ n1_ n2_ n3_; clear hb hbox hg) | ((with_reducible refine gate_dst (N := 3) rfl ?_); refine box_event ?hg (N := 3) ?hd (cs := #[.string a1_0, .string a1_1]) (t := 76) ?hr ?_; (case hd => rfl); (case hg => rfl); (case hr => first | (go_simp; done) | (go_simp; rfl)); intro gb198 hg w9 hbox hb; have n0_ := Aside0.mk (blk_below (hop BK197.out) hb); have n1_ := Aside0.mk (below_step (by repeat (first | (with_reducible first | exact HB.out | apply bA | apply bN | apply bD | refine bS ?_ GE197.out) | exact HB.out)) hb); have n2_ := Aside0.mk (hbox); have n3_ := Aside0.mk ((by rw [hg]; exact (below_size (by repeat (first | (with_reducible first | exact HB.out | apply bA | apply bN | apply bD | refine bS ?_ GE197.out) | exact HB.out))) : w.heap.size ≤ gb198)); have n4_ := n3_; have n5_ := Aside0.mk ((by rw [hg]; exact Nat.ne_of_lt (blk_lt (hop BK197.out)) : gb197 ≠ gb198)); have n6_ := Aside0.mk ((by rw [hg]; exact Nat.ne_of_gt (blk_lt (hop BK197.out)) : gb198 ≠ gb197)); clear BK197; clear HB; have BK197 := n0_; have HB := n1_; have BK198 := n2_; have GW198 := n3_; have GE198 := n4_; have NB197_198 := n5_; have NB198_197 := n6_; clear n0_ n1_ n2_ n3_ n4_ n5_ n6_; clear hb hbox hg) | ((with_reducible refine gate_dst (N := 4) rfl ?_); refine box_event ?hg (N := 4) ?hd (cs := #[.string (⟨#[]⟩ : ByteArray), .string (⟨#[]⟩ : ByteArray)]) (t := 76) ?hr ?_; (case hd => rfl); (case hg => rfl); (case hr => first | (go_simp; done) | (go_simp; rfl)); intro gb199 hg w10 hbox hb; have n0_ := Aside0.mk (blk_below (hop BK197.out) hb); have n1_ := Aside0.mk (blk_below (hop BK198.out) hb); have n2_ := Aside0.mk (below_step (by repeat (first | (with_reducible first | exact HB.out | apply bA | apply bN | apply bD | refine bS ?_ GE197.out | refine bS ?_ GE198.out) | exact HB.out)) hb); have n3_ := Aside0.mk (hbox); have n4_ := Aside0.mk ((by rw [hg]; exact (below_size (by repeat (first | (with_reducible first | exact HB.out | apply bA | apply bN | apply bD | refine bS ?_ GE197.out | refine bS ?_ GE198.out) | exact HB.out))) : w.heap.size ≤ gb199)); have n5_ := n4_; have n6_ := Aside0.mk ((by rw [hg]; exact Nat.ne_of_lt (blk_lt (hop BK197.out)) : gb197 ≠ gb199)); have n7_ := Aside0.mk ((by rw [hg]; exact Nat.ne_of_gt (blk_lt (hop BK197.out)) : gb199 ≠ gb197)); have n8_ := Aside0.mk ((by rw [hg]; exact Nat.ne_of_lt (blk_lt (hop BK198.out)) : gb198 ≠ gb199)); have n9_ := Aside0.mk ((by rw [hg]; exact Nat.ne_of_gt (blk_lt (hop BK198.out)) : gb199 ≠ gb198)); clear BK197; clear BK198; clear HB; have BK197 := n0_; have BK198 := n1_; have HB := n2_; have BK199 := n3_; have GW199 := n4_; have GE199 := n5_; have NB197_199 := n6_; have NB199_197 := n7_; have NB198_199 := n8_; have NB199_198 := n9_; clear n0_ n1_ n2_ n3_ n4_ n5_ n6_ n7_ n8_ n9_; clear hb hbox hg; have hnb11 := NB197_198.out; have hnc11 := NB198_197.out; have hnb12 := NB197_199.out; have hnc12 := NB199_197.out; have hcz13_0 : w10.cell? ⟨gb197, 0, none⟩ = some (.string a0_0) := (blk_cell BK197.out 0).trans rfl; have hcz13_1 : w10.cell? ⟨gb197, 1, none⟩ = some (.string a0_1) := (blk_cell BK197.out 1).trans rfl; have hfz13_0 := blk_frozen BK197.out 0; have hfz13_1 := blk_frozen BK197.out 1) | ((with_reducible refine gate_callee (f := 101) rfl ?_); refine goesL_ (some 7) rfl rfl Try.func101 (by kernel_rfl) rfl #[.agg #[.string a0_0, .string a0_1]] rfl (by (try simp only [List.map_toArray, List.map_cons, List.map_nil]); first | done | rfl | (simp only [List.length_drop, List.length_take]; rfl)) ?_; (with_reducible refine (impl_IntervalValid.calls k a0_0 a0_1 true _ A3.out).mono ?_); rintro e w14 ⟨rfl, hb⟩; refine ⟨_, rfl, ?_⟩; have n0_ := Aside0.mk (blk_below (hop BK197.out) hb); have n1_ := Aside0.mk (blk_below (hop BK198.out) hb); have n2_ := Aside0.mk (blk_below (hop BK199.out) hb); have n3_ := Aside0.mk (below_step (by repeat (first | (with_reducible first | exact HB.out | apply bA | apply bN | apply bD | refine bS ?_ GE197.out | refine bS ?_ GE198.out | refine bS ?_ GE199.out) | exact HB.out)) hb); clear BK197; clear BK198; clear BK199; clear HB; have BK197 := n0_; have BK198 := n1_; have BK199 := n2_; have HB := n3_; clear n0_ n1_ n2_ n3_; (try clear hb); (try clear hb2); (try clear hk); (try clear hi); have hnb15 := NB198_199.out; have hnc15 := NB199_198.out; have hcz16_0 : w14.cell? ⟨gb198, 0, none⟩ = some (.string a1_0) := (blk_cell BK198.out 0).trans rfl; have hcz16_1 : w14.cell? ⟨gb198, 1, none⟩ = some (.string a1_1) := (blk_cell BK198.out 1).trans rfl; have hfz16_0 := blk_frozen BK198.out 0; have hfz16_1 := blk_frozen BK198.out 1) | (go_at_call 101; (with_reducible refine (impl_IntervalValid.calls k a1_0 a1_1 true _ A5.out).mono ?_); rintro e w17 ⟨rfl, hb⟩; have n0_ := Aside0.mk (blk_below (hop BK197.out) hb); have n1_ := Aside0.mk (blk_below (hop BK198.out) hb); have n2_ := Aside0.mk (blk_below (hop BK199.out) hb); have n3_ := Aside0.mk (below_step (by repeat (first | (with_reducible first | exact HB.out | apply bA | apply bN | apply bD | refine bS ?_ GE197.out | refine bS ?_ GE198.out | refine bS ?_ GE199.out) | exact HB.out)) hb); clear BK197; clear BK198; clear BK199; clear HB; have BK197 := n0_; have BK198 := n1_; have BK199 := n2_; have HB := n3_; clear n0_ n1_ n2_ n3_; (try clear hb); (try clear hb2); (try clear hk); (try clear hi); have hcz18_0 : w17.cell? ⟨gb197, 0, none⟩ = some (.string a0_0) := (blk_cell BK197.out 0).trans rfl; have hcz18_1 : w17.cell? ⟨gb197, 1, none⟩ = some (.string a0_1) := (blk_cell BK197.out 1).trans rfl; have hfz18_0 := blk_frozen BK197.out 0; have hfz18_1 := blk_frozen BK197.out 1; have hcz19_0 : w17.cell? ⟨gb199, 0, none⟩ = some (.string (⟨#[]⟩ : ByteArray)) := (blk_cell BK199.out 0).trans rfl; have hcz19_1 : w17.cell? ⟨gb199, 1, none⟩ = some (.string (⟨#[]⟩ : ByteArray)) := (blk_cell BK199.out 1).trans rfl; have hfz19_0 := blk_frozen BK199.out 0; have hfz19_1 := blk_frozen BK199.out 1))
    refine bodyPost_ret (results_ct rfl _ _ gb199 76 #[.string (⟨#[]⟩ : ByteArray), .string (⟨#[]⟩ : ByteArray)] (0, 0) _ rfl (by (with_reducible repeat (first | refine kN ?_ _ | refine kD ?_ | refine kA ?_ _)); refine blk_put (cs := #[.string (⟨#[]⟩ : ByteArray), .string (⟨#[]⟩ : ByteArray)]) ?_ 1 _ rfl; (with_reducible repeat (first | refine kN ?_ _ | refine kD ?_ | refine kA ?_ _)); refine blk_put (cs := #[.string (⟨#[]⟩ : ByteArray), .string (⟨#[]⟩ : ByteArray)]) ?_ 0 _ rfl; exact hop BK199.out) Try.underlying76 rfl (by kernel_rfl)) rfl ?_
    exact ⟨by first | rfl | (simp only [u8_w_, w64_u8_] <;> rfl) | (simp [errW_none, errW_some] <;> rfl) | (simp [*, errW_none, errW_some] <;> rfl), by repeat (first | (with_reducible first | exact HB.out | apply bA | apply bN | apply bD | refine bS ?_ GE197.out | refine bS ?_ GE198.out | refine bS ?_ GE199.out) | exact HB.out)⟩
   ·rw [if_neg c7] at H
    have c7b0 : (a0_1.toList == ([] : List UInt8)) = false := beq_eq_false_iff_ne.mpr c7
    have c7b1 : (a0_1.toList != ([] : List UInt8)) = true := bne_iff_ne.mpr c7
    by_cases c20 : a0_1.toList = a1_0.toList
    ·rw [if_pos c20] at H
     have c20b0 : (a0_1.toList == a1_0.toList) = true := beq_iff_eq.mpr c20
     have c20b1 : (a0_1.toList != a1_0.toList) = false := bne_eq_false_iff_eq.mpr c20
     clear c20
     simp only [Option.some.injEq, Prod.mk.injEq] at H
     obtain ⟨rfl, rfl, rfl⟩ := H
     go_enter Try.func112, Try.ntmps112
     go_wp2_with (first | ((with_reducible refine gate_dst (N := 2) rfl ?_); refine box_event ?hg (N := 2) ?hd (cs := #[.string a0_0, .string a0_1]) (t := 76) ?hr ?_; (case hd => rfl); (case hg => rfl); (case hr => first | (go_simp; done) | (go_simp; rfl)); intro gb197 hg w21 hbox hb; have n0_ := Aside0.mk (below_step (by exact hopb HB.out) hb); have n1_ := Aside0.mk (hbox); have n2_ := Aside0.mk ((by rw [hg]; exact (below_size (by exact hopb HB.out)) : w.heap.size ≤ gb197)); have n3_ := n2_; clear HB; have HB := n0_; have BK197 := n1_; have GW197 := n2_; have GE197 := n3_; clear n0_ n1_ n2_ n3_; clear hb hbox hg) | ((with_reducible refine gate_dst (N := 3) rfl ?_); refine box_event ?hg (N := 3) ?hd (cs := #[.string a1_0, .string a1_1]) (t := 76) ?hr ?_; (case hd => rfl); (case hg => rfl); (case hr => first | (go_simp; done) | (go_simp; rfl)); intro gb198 hg w22 hbox hb; have n0_ := Aside0.mk (blk_below (hop BK197.out) hb); have n1_ := Aside0.mk (below_step (by repeat (first | (with_reducible first | exact HB.out | apply bA | apply bN | apply bD | refine bS ?_ GE197.out) | exact HB.out)) hb); have n2_ := Aside0.mk (hbox); have n3_ := Aside0.mk ((by rw [hg]; exact (below_size (by repeat (first | (with_reducible first | exact HB.out | apply bA | apply bN | apply bD | refine bS ?_ GE197.out) | exact HB.out))) : w.heap.size ≤ gb198)); have n4_ := n3_; have n5_ := Aside0.mk ((by rw [hg]; exact Nat.ne_of_lt (blk_lt (hop BK197.out)) : gb197 ≠ gb198)); have n6_ := Aside0.mk ((by rw [hg]; exact Nat.ne_of_gt (blk_lt (hop BK197.out)) : gb198 ≠ gb197)); clear BK197; clear HB; have BK197 := n0_; have HB := n1_; have BK198 := n2_; have GW198 := n3_; have GE198 := n4_; have NB197_198 := n5_; have NB198_197 := n6_; clear n0_ n1_ n2_ n3_ n4_ n5_ n6_; clear hb hbox hg) | ((with_reducible refine gate_dst (N := 4) rfl ?_); refine box_event ?hg (N := 4) ?hd (cs := #[.string (⟨#[]⟩ : ByteArray), .string (⟨#[]⟩ : ByteArray)]) (t := 76) ?hr ?_; (case hd => rfl); (case hg => rfl); (case hr => first | (go_simp; done) | (go_simp; rfl)); intro gb199 hg w23 hbox hb; have n0_ := Aside0.mk (blk_below (hop BK197.out) hb); have n1_ := Aside0.mk (blk_below (hop BK198.out) hb); have n2_ := Aside0.mk (below_step (by repeat (first | (with_reducible first | exact HB.out | apply bA | apply bN | apply bD | refine bS ?_ GE197.out | refine bS ?_ GE198.out) | exact HB.out)) hb); have n3_ := Aside0.mk (hbox); have n4_ := Aside0.mk ((by rw [hg]; exact (below_size (by repeat (first | (with_reducible first | exact HB.out | apply bA | apply bN | apply bD | refine bS ?_ GE197.out | refine bS ?_ GE198.out) | exact HB.out))) : w.heap.size ≤ gb199)); have n5_ := n4_; have n6_ := Aside0.mk ((by rw [hg]; exact Nat.ne_of_lt (blk_lt (hop BK197.out)) : gb197 ≠ gb199)); have n7_ := Aside0.mk ((by rw [hg]; exact Nat.ne_of_gt (blk_lt (hop BK197.out)) : gb199 ≠ gb197)); have n8_ := Aside0.mk ((by rw [hg]; exact Nat.ne_of_lt (blk_lt (hop BK198.out)) : gb198 ≠ gb199)); have n9_ := Aside0.mk ((by rw [hg]; exact Nat.ne_of_gt (blk_lt (hop BK198.out)) : gb199 ≠ gb198)); clear BK197; clear BK198; clear HB; have BK197 := n0_; have BK198 := n1_; have HB := n2_; have BK199 := n3_; have GW199 := n4_; have GE199 := n5_; have NB197_199 := n6_; have NB199_197 := n7_; have NB198_199 := n8_; have NB199_198 := n9_; clear n0_ n1_ n2_ n3_ n4_ n5_ n6_ n7_ n8_ n9_; clear hb hbox hg; have hnb24 := NB197_198.out; have hnc24 := NB198_197.out; have hnb25 := NB197_199.out; have hnc25 := NB199_197.out; have hcz26_0 : w23.cell? ⟨gb197, 0, none⟩ = some (.string a0_0) := (blk_cell BK197.out 0).trans rfl; have hcz26_1 : w23.cell? ⟨gb197, 1, none⟩ = some (.string a0_1) := (blk_cell BK197.out 1).trans rfl; have hfz26_0 := blk_frozen BK197.out 0; have hfz26_1 := blk_frozen BK197.out 1) | ((with_reducible refine gate_callee (f := 101) rfl ?_); refine goesL_ (some 7) rfl rfl Try.func101 (by kernel_rfl) rfl #[.agg #[.string a0_0, .string a0_1]] rfl (by (try simp only [List.map_toArray, List.map_cons, List.map_nil]); first | done | rfl | (simp only [List.length_drop, List.length_take]; rfl)) ?_; (with_reducible refine (impl_IntervalValid.calls k a0_0 a0_1 true _ A3.out).mono ?_); rintro e w27 ⟨rfl, hb⟩; refine ⟨_, rfl, ?_⟩; have n0_ := Aside0.mk (blk_below (hop BK197.out) hb); have n1_ := Aside0.mk (blk_below (hop BK198.out) hb); have n2_ := Aside0.mk (blk_below (hop BK199.out) hb); have n3_ := Aside0.mk (below_step (by repeat (first | (with_reducible first | exact HB.out | apply bA | apply bN | apply bD | refine bS ?_ GE197.out | refine bS ?_ GE198.out | refine bS ?_ GE199.out) | exact HB.out)) hb); clear BK197; clear BK198; clear BK199; clear HB; have BK197 := n0_; have BK198 := n1_; have BK199 := n2_; have HB := n3_; clear n0_ n1_ n2_ n3_; (try clear hb); (try clear hb2); (try clear hk); (try clear hi); have hnb28 := NB198_199.out; have hnc28 := NB199_198.out; have hcz29_0 : w27.cell? ⟨gb198, 0, none⟩ = some (.string a1_0) := (blk_cell BK198.out 0).trans rfl; have hcz29_1 : w27.cell? ⟨gb198, 1, none⟩ = some (.string a1_1) := (blk_cell BK198.out 1).trans rfl; have hfz29_0 := blk_frozen BK198.out 0; have hfz29_1 := blk_frozen BK198.out 1) | (go_at_call 101; (with_reducible refine (impl_IntervalValid.calls k a1_0 a1_1 true _ A5.out).mono ?_); rintro e w30 ⟨rfl, hb⟩; have n0_ := Aside0.mk (blk_below (hop BK197.out) hb); have n1_ := Aside0.mk (blk_below (hop BK198.out) hb); have n2_ := Aside0.mk (blk_below (hop BK199.out) hb); have n3_ := Aside0.mk (below_step (by repeat (first | (with_reducible first | exact HB.out | apply bA | apply bN | apply bD | refine bS ?_ GE197.out | refine bS ?_ GE198.out | refine bS ?_ GE199.out) | exact HB.out)) hb); clear BK197; clear BK198; clear BK199; clear HB; have BK197 := n0_; have BK198 := n1_; have BK199 := n2_; have HB := n3_; clear n0_ n1_ n2_ n3_; (try clear hb); (try clear hb2); (try clear hk); (try clear hi); have hcz31_0 : w30.cell? ⟨gb197, 0, none⟩ = some (.string a0_0) := (blk_cell BK197.out 0).trans rfl; have hcz31_1 : w30.cell? ⟨gb197, 1, none⟩ = some (.string a0_1) := (blk_cell BK197.out 1).trans rfl; have hfz31_0 := blk_frozen BK197.out 0; have hfz31_1 := blk_frozen BK197.out 1; have hcz32_0 : w30.cell? ⟨gb198, 0, none⟩ = some (.string a1_0) := (blk_cell BK198.out 0).trans rfl; have hcz32_1 : w30.cell? ⟨gb198, 1, none⟩ = some (.string a1_1) := (blk_cell BK198.out 1).trans rfl; have hfz32_0 := blk_frozen BK198.out 0; have hfz32_1 := blk_frozen BK198.out 1; have hcz33_0 : w30.cell? ⟨gb199, 0, none⟩ = some (.string (⟨#[]⟩ : ByteArray)) := (blk_cell BK199.out 0).trans rfl; have hcz33_1 : w30.cell? ⟨gb199, 1, none⟩ = some (.string (⟨#[]⟩ : ByteArray)) := (blk_cell BK199.out 1).trans rfl; have hfz33_0 := blk_frozen BK199.out 0; have hfz33_1 := blk_frozen BK199.out 1))
     refine bodyPost_ret (results_ct rfl _ _ gb199 76 #[.string a0_0, .string a1_1] (0, 0) _ rfl (by (with_reducible repeat (first | refine kN ?_ _ | refine kD ?_ | refine kA ?_ _)); refine blk_put (cs := #[.string a0_0, .string (⟨#[]⟩ : ByteArray)]) ?_ 1 _ rfl; (with_reducible repeat (first | refine kN ?_ _ | refine kD ?_ | refine kA ?_ _)); refine blk_put (cs := #[.string (⟨#[]⟩ : ByteArray), .string (⟨#[]⟩ : ByteArray)]) ?_ 0 _ rfl; exact hop BK199.out) Try.underlying76 rfl (by kernel_rfl)) rfl ?_
     exact ⟨by first | rfl | (simp only [u8_w_, w64_u8_] <;> rfl) | (simp [errW_none, errW_some] <;> rfl) | (simp [*, errW_none, errW_some] <;> rfl), by repeat (first | (with_reducible first | exact HB.out | apply bA | apply bN | apply bD | refine bS ?_ GE197.out | refine bS ?_ GE198.out | refine bS ?_ GE199.out) | exact HB.out)⟩
    ·rw [if_neg c20] at H
     have c20b0 : (a0_1.toList == a1_0.toList) = false := beq_eq_false_iff_ne.mpr c20
     have c20b1 : (a0_1.toList != a1_0.toList) = true := bne_iff_ne.mpr c20
     simp only [Option.some.injEq, Prod.mk.injEq] at H
     obtain ⟨rfl, rfl, rfl⟩ := H
     go_enter Try.func112, Try.ntmps112
     go_wp2_with (first | ((with_reducible refine gate_dst (N := 2) rfl ?_); refine box_event ?hg (N := 2) ?hd (cs := #[.string a0_0, .string a0_1]) (t := 76) ?hr ?_; (case hd => rfl); (case hg => rfl); (case hr => first | (go_simp; done) | (go_simp; rfl)); intro gb197 hg w34 hbox hb; have n0_ := Aside0.mk (below_step (by exact hopb HB.out) hb); have n1_ := Aside0.mk (hbox); have n2_ := Aside0.mk ((by rw [hg]; exact (below_size (by exact hopb HB.out)) : w.heap.size ≤ gb197)); have n3_ := n2_; clear HB; have HB := n0_; have BK197 := n1_; have GW197 := n2_; have GE197 := n3_; clear n0_ n1_ n2_ n3_; clear hb hbox hg) | ((with_reducible refine gate_dst (N := 3) rfl ?_); refine box_event ?hg (N := 3) ?hd (cs := #[.string a1_0, .string a1_1]) (t := 76) ?hr ?_; (case hd => rfl); (case hg => rfl); (case hr => first | (go_simp; done) | (go_simp; rfl)); intro gb198 hg w35 hbox hb; have n0_ := Aside0.mk (blk_below (hop BK197.out) hb); have n1_ := Aside0.mk (below_step (by repeat (first | (with_reducible first | exact HB.out | apply bA | apply bN | apply bD | refine bS ?_ GE197.out) | exact HB.out)) hb); have n2_ := Aside0.mk (hbox); have n3_ := Aside0.mk ((by rw [hg]; exact (below_size (by repeat (first | (with_reducible first | exact HB.out | apply bA | apply bN | apply bD | refine bS ?_ GE197.out) | exact HB.out))) : w.heap.size ≤ gb198)); have n4_ := n3_; have n5_ := Aside0.mk ((by rw [hg]; exact Nat.ne_of_lt (blk_lt (hop BK197.out)) : gb197 ≠ gb198)); have n6_ := Aside0.mk ((by rw [hg]; exact Nat.ne_of_gt (blk_lt (hop BK197.out)) : gb198 ≠ gb197)); clear BK197; clear HB; have BK197 := n0_; have HB := n1_; have BK198 := n2_; have GW198 := n3_; have GE198 := n4_; have NB197_198 := n5_; have NB198_197 := n6_; clear n0_ n1_ n2_ n3_ n4_ n5_ n6_; clear hb hbox hg) | ((with_reducible refine gate_dst (N := 4) rfl ?_); refine box_event ?hg (N := 4) ?hd (cs := #[.string (⟨#[]⟩ : ByteArray), .string (⟨#[]⟩ : ByteArray)]) (t := 76) ?hr ?_; (case hd => rfl); (case hg => rfl); (case hr => first | (go_simp; done) | (go_simp; rfl)); intro gb199 hg w36 hbox hb; have n0_ := Aside0.mk (blk_below (hop BK197.out) hb); have n1_ := Aside0.mk (blk_below (hop BK198.out) hb); have n2_ := Aside0.mk (below_step (by repeat (first | (with_reducible first | exact HB.out | apply bA | apply bN | apply bD | refine bS ?_ GE197.out | refine bS ?_ GE198.out) | exact HB.out)) hb); have n3_ := Aside0.mk (hbox); have n4_ := Aside0.mk ((by rw [hg]; exact (below_size (by repeat (first | (with_reducible first | exact HB.out | apply bA | apply bN | apply bD | refine bS ?_ GE197.out | refine bS ?_ GE198.out) | exact HB.out))) : w.heap.size ≤ gb199)); have n5_ := n4_; have n6_ := Aside0.mk ((by rw [hg]; exact Nat.ne_of_lt (blk_lt (hop BK197.out)) : gb197 ≠ gb199)); have n7_ := Aside0.mk ((by rw [hg]; exact Nat.ne_of_gt (blk_lt (hop BK197.out)) : gb199 ≠ gb197)); have n8_ := Aside0.mk ((by rw [hg]; exact Nat.ne_of_lt (blk_lt (hop BK198.out)) : gb198 ≠ gb199)); have n9_ := Aside0.mk ((by rw [hg]; exact Nat.ne_of_gt (blk_lt (hop BK198.out)) : gb199 ≠ gb198)); clear BK197; clear BK198; clear HB; have BK197 := n0_; have BK198 := n1_; have HB := n2_; have BK199 := n3_; have GW199 := n4_; have GE199 := n5_; have NB197_199 := n6_; have NB199_197 := n7_; have NB198_199 := n8_; have NB199_198 := n9_; clear n0_ n1_ n2_ n3_ n4_ n5_ n6_ n7_ n8_ n9_; clear hb hbox hg; have hnb37 := NB197_198.out; have hnc37 := NB198_197.out; have hnb38 := NB197_199.out; have hnc38 := NB199_197.out; have hcz39_0 : w36.cell? ⟨gb197, 0, none⟩ = some (.string a0_0) := (blk_cell BK197.out 0).trans rfl; have hcz39_1 : w36.cell? ⟨gb197, 1, none⟩ = some (.string a0_1) := (blk_cell BK197.out 1).trans rfl; have hfz39_0 := blk_frozen BK197.out 0; have hfz39_1 := blk_frozen BK197.out 1) | ((with_reducible refine gate_callee (f := 101) rfl ?_); refine goesL_ (some 7) rfl rfl Try.func101 (by kernel_rfl) rfl #[.agg #[.string a0_0, .string a0_1]] rfl (by (try simp only [List.map_toArray, List.map_cons, List.map_nil]); first | done | rfl | (simp only [List.length_drop, List.length_take]; rfl)) ?_; (with_reducible refine (impl_IntervalValid.calls k a0_0 a0_1 true _ A3.out).mono ?_); rintro e w40 ⟨rfl, hb⟩; refine ⟨_, rfl, ?_⟩; have n0_ := Aside0.mk (blk_below (hop BK197.out) hb); have n1_ := Aside0.mk (blk_below (hop BK198.out) hb); have n2_ := Aside0.mk (blk_below (hop BK199.out) hb); have n3_ := Aside0.mk (below_step (by repeat (first | (with_reducible first | exact HB.out | apply bA | apply bN | apply bD | refine bS ?_ GE197.out | refine bS ?_ GE198.out | refine bS ?_ GE199.out) | exact HB.out)) hb); clear BK197; clear BK198; clear BK199; clear HB; have BK197 := n0_; have BK198 := n1_; have BK199 := n2_; have HB := n3_; clear n0_ n1_ n2_ n3_; (try clear hb); (try clear hb2); (try clear hk); (try clear hi); have hnb41 := NB198_199.out; have hnc41 := NB199_198.out; have hcz42_0 : w40.cell? ⟨gb198, 0, none⟩ = some (.string a1_0) := (blk_cell BK198.out 0).trans rfl; have hcz42_1 : w40.cell? ⟨gb198, 1, none⟩ = some (.string a1_1) := (blk_cell BK198.out 1).trans rfl; have hfz42_0 := blk_frozen BK198.out 0; have hfz42_1 := blk_frozen BK198.out 1) | (go_at_call 101; (with_reducible refine (impl_IntervalValid.calls k a1_0 a1_1 true _ A5.out).mono ?_); rintro e w43 ⟨rfl, hb⟩; have n0_ := Aside0.mk (blk_below (hop BK197.out) hb); have n1_ := Aside0.mk (blk_below (hop BK198.out) hb); have n2_ := Aside0.mk (blk_below (hop BK199.out) hb); have n3_ := Aside0.mk (below_step (by repeat (first | (with_reducible first | exact HB.out | apply bA | apply bN | apply bD | refine bS ?_ GE197.out | refine bS ?_ GE198.out | refine bS ?_ GE199.out) | exact HB.out)) hb); clear BK197; clear BK198; clear BK199; clear HB; have BK197 := n0_; have BK198 := n1_; have BK199 := n2_; have HB := n3_; clear n0_ n1_ n2_ n3_; (try clear hb); (try clear hb2); (try clear hk); (try clear hi); have hcz44_0 : w43.cell? ⟨gb197, 0, none⟩ = some (.string a0_0) := (blk_cell BK197.out 0).trans rfl; have hcz44_1 : w43.cell? ⟨gb197, 1, none⟩ = some (.string a0_1) := (blk_cell BK197.out 1).trans rfl; have hfz44_0 := blk_frozen BK197.out 0; have hfz44_1 := blk_frozen BK197.out 1; have hcz45_0 : w43.cell? ⟨gb198, 0, none⟩ = some (.string a1_0) := (blk_cell BK198.out 0).trans rfl; have hcz45_1 : w43.cell? ⟨gb198, 1, none⟩ = some (.string a1_1) := (blk_cell BK198.out 1).trans rfl; have hfz45_0 := blk_frozen BK198.out 0; have hfz45_1 := blk_frozen BK198.out 1; have hcz46_0 : w43.cell? ⟨gb199, 0, none⟩ = some (.string (⟨#[]⟩ : ByteArray)) := (blk_cell BK199.out 0).trans rfl; have hcz46_1 : w43.cell? ⟨gb199, 1, none⟩ = some (.string (⟨#[]⟩ : ByteArray)) := (blk_cell BK199.out 1).trans rfl; have hfz46_0 := blk_frozen BK199.out 0; have hfz46_1 := blk_frozen BK199.out 1))
     refine bodyPost_ret (results_ct rfl _ _ gb199 76 #[.string (⟨#[]⟩ : ByteArray), .string (⟨#[]⟩ : ByteArray)] (0, 0) _ rfl (by (with_reducible repeat (first | refine kN ?_ _ | refine kD ?_ | refine kA ?_ _)); refine blk_put (cs := #[.string (⟨#[]⟩ : ByteArray), .string (⟨#[]⟩ : ByteArray)]) ?_ 1 _ rfl; (with_reducible repeat (first | refine kN ?_ _ | refine kD ?_ | refine kA ?_ _)); refine blk_put (cs := #[.string (⟨#[]⟩ : ByteArray), .string (⟨#[]⟩ : ByteArray)]) ?_ 0 _ rfl; exact hop BK199.out) Try.underlying76 rfl (by kernel_rfl)) rfl ?_
     exact ⟨by first | rfl | (simp only [u8_w_, w64_u8_] <;> rfl) | (simp [errW_none, errW_some] <;> rfl) | (simp [*, errW_none, errW_some] <;> rfl), by repeat (first | (with_reducible first | exact HB.out | apply bA | apply bN | apply bD | refine bS ?_ GE197.out | refine bS ?_ GE198.out | refine bS ?_ GE199.out) | exact HB.out)⟩
  ·replace c6 := Bool.eq_false_iff.mpr c6
   subst c6
   have H1 : (some ((⟨#[]⟩ : ByteArray), (⟨#[]⟩ : ByteArray), false)) = some (r1, r2, r3) := by rw [if_neg (show ¬ (false = true) by decide)] at H; exact H
   clear H
   have H := H1
   clear H1
   simp only [Option.some.injEq, Prod.mk.injEq] at H
   obtain ⟨rfl, rfl, rfl⟩ := H
   go_enter Try.func112, Try.ntmps112
   go_wp2_with (first | ((with_reducible refine gate_dst (N := 2) rfl ?_); refine box_event ?hg (N := 2) ?hd (cs := #[.string a0_0, .string a0_1]) (t := 76) ?hr ?_; (case hd => rfl); (case hg => rfl); (case hr => first | (go_simp; done) | (go_simp; rfl)); intro gb197 hg w47 hbox hb; have n0_ := Aside0.mk (below_step (by exact hopb HB.out) hb); have n1_ := Aside0.mk (hbox); have n2_ := Aside0.mk ((by rw [hg]; exact (below_size (by exact hopb HB.out)) : w.heap.size ≤ gb197)); have n3_ := n2_; clear HB; have HB := n0_; have BK197 := n1_; have GW197 := n2_; have GE197 := n3_; clear n0_ n1_ n2_ n3_; clear hb hbox hg) | ((with_reducible refine gate_dst (N := 3) rfl ?_); refine box_event ?hg (N := 3) ?hd (cs := #[.string a1_0, .string a1_1]) (t := 76) ?hr ?_; (case hd => rfl); (case hg => rfl); (case hr => first | (go_simp; done) | (go_simp; rfl)); intro gb198 hg w48 hbox hb; have n0_ := Aside0.mk (blk_below (hop BK197.out) hb); have n1_ := Aside0.mk (below_step (by repeat (first | (with_reducible first | exact HB.out | apply bA | apply bN | apply bD | refine bS ?_ GE197.out) | exact HB.out)) hb); have n2_ := Aside0.mk (hbox); have n3_ := Aside0.mk ((by rw [hg]; exact (below_size (by repeat (first | (with_reducible first | exact HB.out | apply bA | apply bN | apply bD | refine bS ?_ GE197.out) | exact HB.out))) : w.heap.size ≤ gb198)); have n4_ := n3_; have n5_ := Aside0.mk ((by rw [hg]; exact Nat.ne_of_lt (blk_lt (hop BK197.out)) : gb197 ≠ gb198)); have n6_ := Aside0.mk ((by rw [hg]; exact Nat.ne_of_gt (blk_lt (hop BK197.out)) : gb198 ≠ gb197)); clear BK197; clear HB; have BK197 := n0_; have HB := n1_; have BK198 := n2_; have GW198 := n3_; have GE198 := n4_; have NB197_198 := n5_; have NB198_197 := n6_; clear n0_ n1_ n2_ n3_ n4_ n5_ n6_; clear hb hbox hg) | ((with_reducible refine gate_dst (N := 4) rfl ?_); refine box_event ?hg (N := 4) ?hd (cs := #[.string (⟨#[]⟩ : ByteArray), .string (⟨#[]⟩ : ByteArray)]) (t := 76) ?hr ?_; (case hd => rfl); (case hg => rfl); (case hr => first | (go_simp; done) | (go_simp; rfl)); intro gb199 hg w49 hbox hb; have n0_ := Aside0.mk (blk_below (hop BK197.out) hb); have n1_ := Aside0.mk (blk_below (hop BK198.out) hb); have n2_ := Aside0.mk (below_step (by repeat (first | (with_reducible first | exact HB.out | apply bA | apply bN | apply bD | refine bS ?_ GE197.out | refine bS ?_ GE198.out) | exact HB.out)) hb); have n3_ := Aside0.mk (hbox); have n4_ := Aside0.mk ((by rw [hg]; exact (below_size (by repeat (first | (with_reducible first | exact HB.out | apply bA | apply bN | apply bD | refine bS ?_ GE197.out | refine bS ?_ GE198.out) | exact HB.out))) : w.heap.size ≤ gb199)); have n5_ := n4_; have n6_ := Aside0.mk ((by rw [hg]; exact Nat.ne_of_lt (blk_lt (hop BK197.out)) : gb197 ≠ gb199)); have n7_ := Aside0.mk ((by rw [hg]; exact Nat.ne_of_gt (blk_lt (hop BK197.out)) : gb199 ≠ gb197)); have n8_ := Aside0.mk ((by rw [hg]; exact Nat.ne_of_lt (blk_lt (hop BK198.out)) : gb198 ≠ gb199)); have n9_ := Aside0.mk ((by rw [hg]; exact Nat.ne_of_gt (blk_lt (hop BK198.out)) : gb199 ≠ gb198)); clear BK197; clear BK198; clear HB; have BK197 := n0_; have BK198 := n1_; have HB := n2_; have BK199 := n3_; have GW199 := n4_; have GE199 := n5_; have NB197_199 := n6_; have NB199_197 := n7_; have NB198_199 := n8_; have NB199_198 := n9_; clear n0_ n1_ n2_ n3_ n4_ n5_ n6_ n7_ n8_ n9_; clear hb hbox hg; have hnb50 := NB197_198.out; have hnc50 := NB198_197.out; have hnb51 := NB197_199.out; have hnc51 := NB199_197.out; have hcz52_0 : w49.cell? ⟨gb197, 0, none⟩ = some (.string a0_0) := (blk_cell BK197.out 0).trans rfl; have hcz52_1 : w49.cell? ⟨gb197, 1, none⟩ = some (.string a0_1) := (blk_cell BK197.out 1).trans rfl; have hfz52_0 := blk_frozen BK197.out 0; have hfz52_1 := blk_frozen BK197.out 1) | ((with_reducible refine gate_callee (f := 101) rfl ?_); refine goesL_ (some 7) rfl rfl Try.func101 (by kernel_rfl) rfl #[.agg #[.string a0_0, .string a0_1]] rfl (by (try simp only [List.map_toArray, List.map_cons, List.map_nil]); first | done | rfl | (simp only [List.length_drop, List.length_take]; rfl)) ?_; (with_reducible refine (impl_IntervalValid.calls k a0_0 a0_1 true _ A3.out).mono ?_); rintro e w53 ⟨rfl, hb⟩; refine ⟨_, rfl, ?_⟩; have n0_ := Aside0.mk (blk_below (hop BK197.out) hb); have n1_ := Aside0.mk (blk_below (hop BK198.out) hb); have n2_ := Aside0.mk (blk_below (hop BK199.out) hb); have n3_ := Aside0.mk (below_step (by repeat (first | (with_reducible first | exact HB.out | apply bA | apply bN | apply bD | refine bS ?_ GE197.out | refine bS ?_ GE198.out | refine bS ?_ GE199.out) | exact HB.out)) hb); clear BK197; clear BK198; clear BK199; clear HB; have BK197 := n0_; have BK198 := n1_; have BK199 := n2_; have HB := n3_; clear n0_ n1_ n2_ n3_; (try clear hb); (try clear hb2); (try clear hk); (try clear hi); have hnb54 := NB198_199.out; have hnc54 := NB199_198.out; have hcz55_0 : w53.cell? ⟨gb198, 0, none⟩ = some (.string a1_0) := (blk_cell BK198.out 0).trans rfl; have hcz55_1 : w53.cell? ⟨gb198, 1, none⟩ = some (.string a1_1) := (blk_cell BK198.out 1).trans rfl; have hfz55_0 := blk_frozen BK198.out 0; have hfz55_1 := blk_frozen BK198.out 1) | (go_at_call 101; (with_reducible refine (impl_IntervalValid.calls k a1_0 a1_1 false _ A5.out).mono ?_); rintro e w56 ⟨rfl, hb⟩; have n0_ := Aside0.mk (blk_below (hop BK197.out) hb); have n1_ := Aside0.mk (blk_below (hop BK198.out) hb); have n2_ := Aside0.mk (blk_below (hop BK199.out) hb); have n3_ := Aside0.mk (below_step (by repeat (first | (with_reducible first | exact HB.out | apply bA | apply bN | apply bD | refine bS ?_ GE197.out | refine bS ?_ GE198.out | refine bS ?_ GE199.out) | exact HB.out)) hb); clear BK197; clear BK198; clear BK199; clear HB; have BK197 := n0_; have BK198 := n1_; have BK199 := n2_; have HB := n3_; clear n0_ n1_ n2_ n3_; (try clear hb); (try clear hb2); (try clear hk); (try clear hi); have hcz57_0 : w56.cell? ⟨gb199, 0, none⟩ = some (.string (⟨#[]⟩ : ByteArray)) := (blk_cell BK199.out 0).trans rfl; have hcz57_1 : w56.cell? ⟨gb199, 1, none⟩ = some (.string (⟨#[]⟩ : ByteArray)) := (blk_cell BK199.out 1).trans rfl; have hfz57_0 := blk_frozen BK199.out 0; have hfz57_1 := blk_frozen BK199.out 1))
   refine bodyPost_ret (results_ct rfl _ _ gb199 76 #[.string (⟨#[]⟩ : ByteArray), .string (⟨#[]⟩ : ByteArray)] (0, 0) _ rfl (by (with_reducible repeat (first | refine kN ?_ _ | refine kD ?_ | refine kA ?_ _)); refine blk_put (cs := #[.string (⟨#[]⟩ : ByteArray), .string (⟨#[]⟩ : ByteArray)]) ?_ 1 _ rfl; (with_reducible repeat (first | refine kN ?_ _ | refine kD ?_ | refine kA ?_ _)); refine blk_put (cs := #[.string (⟨#[]⟩ : ByteArray), .string (⟨#[]⟩ : ByteArray)]) ?_ 0 _ rfl; exact hop BK199.out) Try.underlying76 rfl (by kernel_rfl)) rfl ?_
   exact ⟨by first | rfl | (simp only [u8_w_, w64_u8_] <;> rfl) | (simp [errW_none, errW_some] <;> rfl) | (simp [*, errW_none, errW_some] <;> rfl), by repeat (first | (with_reducible first | exact HB.out | apply bA | apply bN | apply bD | refine bS ?_ GE197.out | refine bS ?_ GE198.out | refine bS ?_ GE199.out) | exact HB.out)⟩
 ·replace c4 := Bool.eq_false_iff.mpr c4
  subst c4
  have H1 : (some ((⟨#[]⟩ : ByteArray), (⟨#[]⟩ : ByteArray), false)) = some (r1, r2, r3) := by rw [if_neg (show ¬ (false = true) by decide)] at H; exact H
  clear H
  have H := H1
  clear H1
  simp only [Option.some.injEq, Prod.mk.injEq] at H
  obtain ⟨rfl, rfl, rfl⟩ := H
  go_enter Try.func112, Try.ntmps112
  go_wp2_with (first | ((with_reducible refine gate_dst (N := 2) rfl ?_); refine box_event ?hg (N := 2) ?hd (cs := #[.string a0_0, .string a0_1]) (t := 76) ?hr ?_; (case hd => rfl); (case hg => rfl); (case hr => first | (go_simp; done) | (go_simp; rfl)); intro gb197 hg w58 hbox hb; have n0_ := Aside0.mk (below_step (by exact hopb HB.out) hb); have n1_ := Aside0.mk (hbox); have n2_ := Aside0.mk ((by rw [hg]; exact (below_size (by exact hopb HB.out)) : w.heap.size ≤ gb197)); have n3_ := n2_; clear HB; have HB := n0_; have BK197 := n1_; have GW197 := n2_; have GE197 := n3_; clear n0_ n1_ n2_ n3_; clear hb hbox hg) | ((with_reducible refine gate_dst (N := 3) rfl ?_); refine box_event ?hg (N := 3) ?hd (cs := #[.string a1_0, .string a1_1]) (t := 76) ?hr ?_; (case hd => rfl); (case hg => rfl); (case hr => first | (go_simp; done) | (go_simp; rfl)); intro gb198 hg w59 hbox hb; have n0_ := Aside0.mk (blk_below (hop BK197.out) hb); have n1_ := Aside0.mk (below_step (by repeat (first | (with_reducible first | exact HB.out | apply bA | apply bN | apply bD | refine bS ?_ GE197.out) | exact HB.out)) hb); have n2_ := Aside0.mk (hbox); have n3_ := Aside0.mk ((by rw [hg]; exact (below_size (by repeat (first | (with_reducible first | exact HB.out | apply bA | apply bN | apply bD | refine bS ?_ GE197.out) | exact HB.out))) : w.heap.size ≤ gb198)); have n4_ := n3_; have n5_ := Aside0.mk ((by rw [hg]; exact Nat.ne_of_lt (blk_lt (hop BK197.out)) : gb197 ≠ gb198)); have n6_ := Aside0.mk ((by rw [hg]; exact Nat.ne_of_gt (blk_lt (hop BK197.out)) : gb198 ≠ gb197)); clear BK197; clear HB; have BK197 := n0_; have HB := n1_; have BK198 := n2_; have GW198 := n3_; have GE198 := n4_; have NB197_198 := n5_; have NB198_197 := n6_; clear n0_ n1_ n2_ n3_ n4_ n5_ n6_; clear hb hbox hg) | ((with_reducible refine gate_dst (N := 4) rfl ?_); refine box_event ?hg (N := 4) ?hd (cs := #[.string (⟨#[]⟩ : ByteArray), .string (⟨#[]⟩ : ByteArray)]) (t := 76) ?hr ?_; (case hd => rfl); (case hg => rfl); (case hr => first | (go_simp; done) | (go_simp; rfl)); intro gb199 hg w60 hbox hb; have n0_ := Aside0.mk (blk_below (hop BK197.out) hb); have n1_ := Aside0.mk (blk_below (hop BK198.out) hb); have n2_ := Aside0.mk (below_step (by repeat (first | (with_reducible first | exact HB.out | apply bA | apply bN | apply bD | refine bS ?_ GE197.out | refine bS ?_ GE198.out) | exact HB.out)) hb); have n3_ := Aside0.mk (hbox); have n4_ := Aside0.mk ((by rw [hg]; exact (below_size (by repeat (first | (with_reducible first | exact HB.out | apply bA | apply bN | apply bD | refine bS ?_ GE197.out | refine bS ?_ GE198.out) | exact HB.out))) : w.heap.size ≤ gb199)); have n5_ := n4_; have n6_ := Aside0.mk ((by rw [hg]; exact Nat.ne_of_lt (blk_lt (hop BK197.out)) : gb197 ≠ gb199)); have n7_ := Aside0.mk ((by rw [hg]; exact Nat.ne_of_gt (blk_lt (hop BK197.out)) : gb199 ≠ gb197)); have n8_ := Aside0.mk ((by rw [hg]; exact Nat.ne_of_lt (blk_lt (hop BK198.out)) : gb198 ≠ gb199)); have n9_ := Aside0.mk ((by rw [hg]; exact Nat.ne_of_gt (blk_lt (hop BK198.out)) : gb199 ≠ gb198)); clear BK197; clear BK198; clear HB; have BK197 := n0_; have BK198 := n1_; have HB := n2_; have BK199 := n3_; have GW199 := n4_; have GE199 := n5_; have NB197_199 := n6_; have NB199_197 := n7_; have NB198_199 := n8_; have NB199_198 := n9_; clear n0_ n1_ n2_ n3_ n4_ n5_ n6_ n7_ n8_ n9_; clear hb hbox hg; have hnb61 := NB197_198.out; have hnc61 := NB198_197.out; have hnb62 := NB197_199.out; have hnc62 := NB199_197.out; have hcz63_0 : w60.cell? ⟨gb197, 0, none⟩ = some (.string a0_0) := (blk_cell BK197.out 0).trans rfl; have hcz63_1 : w60.cell? ⟨gb197, 1, none⟩ = some (.string a0_1) := (blk_cell BK197.out 1).trans rfl; have hfz63_0 := blk_frozen BK197.out 0; have hfz63_1 := blk_frozen BK197.out 1) | ((with_reducible refine gate_callee (f := 101) rfl ?_); refine goesL_ (some 7) rfl rfl Try.func101 (by kernel_rfl) rfl #[.agg #[.string a0_0, .string a0_1]] rfl (by (try simp only [List.map_toArray, List.map_cons, List.map_nil]); first | done | rfl | (simp only [List.length_drop, List.length_take]; rfl)) ?_; (with_reducible refine (impl_IntervalValid.calls k a0_0 a0_1 false _ A3.out).mono ?_); rintro e w64 ⟨rfl, hb⟩; refine ⟨_, rfl, ?_⟩; have n0_ := Aside0.mk (blk_below (hop BK197.out) hb); have n1_ := Aside0.mk (blk_below (hop BK198.out) hb); have n2_ := Aside0.mk (blk_below (hop BK199.out) hb); have n3_ := Aside0.mk (below_step (by repeat (first | (with_reducible first | exact HB.out | apply bA | apply bN | apply bD | refine bS ?_ GE197.out | refine bS ?_ GE198.out | refine bS ?_ GE199.out) | exact HB.out)) hb); clear BK197; clear BK198; clear BK199; clear HB; have BK197 := n0_; have BK198 := n1_; have BK199 := n2_; have HB := n3_; clear n0_ n1_ n2_ n3_; (try clear hb); (try clear hb2); (try clear hk); (try clear hi); have hnb65 := NB199_198.out; have hnc65 := NB198_199.out; have hcz66_0 : w64.cell? ⟨gb199, 0, none⟩ = some (.string (⟨#[]⟩ : ByteArray)) := (blk_cell BK199.out 0).trans rfl; have hcz66_1 : w64.cell? ⟨gb199, 1, none⟩ = some (.string (⟨#[]⟩ : ByteArray)) := (blk_cell BK199.out 1).trans rfl; have hfz66_0 := blk_frozen BK199.out 0; have hfz66_1 := blk_frozen BK199.out 1))
  refine bodyPost_ret (results_ct rfl _ _ gb199 76 #[.string (⟨#[]⟩ : ByteArray), .string (⟨#[]⟩ : ByteArray)] (0, 0) _ rfl (by (with_reducible repeat (first | refine kN ?_ _ | refine kD ?_ | refine kA ?_ _)); refine blk_put (cs := #[.string (⟨#[]⟩ : ByteArray), .string (⟨#[]⟩ : ByteArray)]) ?_ 1 _ rfl; (with_reducible repeat (first | refine kN ?_ _ | refine kD ?_ | refine kA ?_ _)); refine blk_put (cs := #[.string (⟨#[]⟩ : ByteArray), .string (⟨#[]⟩ : ByteArray)]) ?_ 0 _ rfl; exact hop BK199.out) Try.underlying76 rfl (by kernel_rfl)) rfl ?_
  exact ⟨by first | rfl | (simp only [u8_w_, w64_u8_] <;> rfl) | (simp [errW_none, errW_some] <;> rfl) | (simp [*, errW_none, errW_some] <;> rfl), by repeat (first | (with_reducible first | exact HB.out | apply bA | apply bN | apply bD | refine bS ?_ GE197.out | refine bS ?_ GE198.out | refine bS ?_ GE199.out) | exact HB.out)⟩

end Go.Proofs.Ytebgpbcbbjpbfaa.PFnExactPartitionSplit
