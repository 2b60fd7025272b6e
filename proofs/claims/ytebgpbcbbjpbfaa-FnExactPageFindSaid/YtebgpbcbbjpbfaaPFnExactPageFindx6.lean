-- Written for this claim by a program of this session (wip/myprint in the proofs' repo)
import Derived.Test.YtebgpbcbbjpbfaaPFnExactPageFindx0
import Derived.Test.YtebgpbcbbjpbfaaPFnExactPageFindx5
namespace Go.Proofs.Ytebgpbcbbjpbfaa.PFnExactPageFind
open Go.RowKit Go.Proofs.YtebgpbcbbjpbfaaW.PrintWords Go.Proofs.YtebgpbcbbjpbfaaW.PrintLast Go.Proofs.YtebgpbcbbjpbfaaW.PrintMore
attribute [local go_sem] max2_int min2_int max_two min_two max_three min_three max_four min_four max2_strs min2_strs   -- for this text's walks alone
set_option linter.unusedVariables false
set_option linter.unusedSimpArgs false

/-! ### impl_PairsValid: function 26 -/
mutual
def impl_PairsValid.l0 : Nat → List (S71) → List (S71) → Int → Int → Option (Bool)
  | 0, _, _, _, _ => none
  | k + 1, x0, x8, x9, x10 => if x10 < x9 then (if 0 ≤ x10 then (if x10 < (x8.length : Int) then ((impl_KeyValid.f k ((rd_T71 x8 x10).f0)).bind fun t171 => (if t171 = true then ((impl_valueValid.f ((rd_T71 x8 x10).f1)).bind fun t172 => (impl_PairsValid.j1 k x0 x10 x8 x9 x10 (!t172) ((rd_T71 x8 x10).f0) ((rd_T71 x8 x10).f1))) else (impl_PairsValid.j1 k x0 x10 x8 x9 x10 true ((rd_T71 x8 x10).f0) ((rd_T71 x8 x10).f1)))) else (none)) else (none)) else (some true)
def impl_PairsValid.j1 : Nat → List (S71) → Int → List (S71) → Int → Int → Bool → ByteArray → Int → Option (Bool)
  | 0, _, _, _, _, _, _, _, _ => none
  | k + 1, x0, x3, x8, x9, x10, x24, x171000, x171001 => if x24 = true then (some false) else (if x3 > 0 then (if 0 ≤ (wrap64 (x3 - 1)) then (if (wrap64 (x3 - 1)) < (x0.length : Int) then (if ((Op.bytesLess (((rd_T71 x0 (wrap64 (x3 - 1))).f0).toList) x171000.toList) = true) then (impl_PairsValid.l0 k x0 x8 x9 (wrap64 (x10 + 1))) else (some false)) else (none)) else (none)) else (impl_PairsValid.l0 k x0 x8 x9 (wrap64 (x10 + 1))))
end
def impl_PairsValid.f (k : Nat) (l0 : List (S71)) : Option (Bool) := if (l0.length : Int) > 48 then (some false) else (impl_PairsValid.l0 k l0 l0 (l0.length : Int) 0)
theorem impl_PairsValid.mono_l : ∀ k, (∀ y0 y1 y2 y3, LeO (impl_PairsValid.l0 k y0 y1 y2 y3) (impl_PairsValid.l0 (k + 1) y0 y1 y2 y3)) ∧ (∀ y0 y1 y2 y3 y4 y5 y6 y7, LeO (impl_PairsValid.j1 k y0 y1 y2 y3 y4 y5 y6 y7) (impl_PairsValid.j1 (k + 1) y0 y1 y2 y3 y4 y5 y6 y7))
  | 0 => ⟨fun _ _ _ _ r h => by simp [impl_PairsValid.l0] at h, fun _ _ _ _ _ _ _ _ r h => by simp [impl_PairsValid.j1] at h⟩
  | k + 1 => by
    obtain ⟨ih0, ih1⟩ := impl_PairsValid.mono_l k
    refine ⟨?_, ?_⟩
    · intro y0 y1 y2 y3
      unfold impl_PairsValid.l0
      repeat' first
      | (with_reducible exact ih0 _ _ _ _)
      | (with_reducible exact ih1 _ _ _ _ _ _ _ _)
      | (with_reducible exact impl_KeyValid.mono _ _)
      | (with_reducible exact LeO.refl _)
      | (with_reducible exact LeO.none _)
      | (with_reducible refine LeO.ite ?_ ?_)
      | (with_reducible refine LeO.bind ?_ (fun _ => ?_))
      | exact ih0 _ _ _ _
      | exact ih1 _ _ _ _ _ _ _ _
      | exact impl_KeyValid.mono _ _
      | exact LeO.none _
      | refine LeO.ite ?_ ?_
      | refine LeO.bind ?_ (fun _ => ?_)
    · intro y0 y1 y2 y3 y4 y5 y6 y7
      unfold impl_PairsValid.j1
      repeat' first
      | (with_reducible exact ih0 _ _ _ _)
      | (with_reducible exact ih1 _ _ _ _ _ _ _ _)
      | (with_reducible exact impl_KeyValid.mono _ _)
      | (with_reducible exact LeO.refl _)
      | (with_reducible exact LeO.none _)
      | (with_reducible refine LeO.ite ?_ ?_)
      | (with_reducible refine LeO.bind ?_ (fun _ => ?_))
      | exact ih0 _ _ _ _
      | exact ih1 _ _ _ _ _ _ _ _
      | exact impl_KeyValid.mono _ _
      | exact LeO.none _
      | refine LeO.ite ?_ ?_
      | refine LeO.bind ?_ (fun _ => ?_)
theorem impl_PairsValid.mono : ∀ a0 k, LeO (impl_PairsValid.f k a0) (impl_PairsValid.f (k + 1) a0) := by
  intro a0 k
  obtain ⟨ih0, ih1⟩ := impl_PairsValid.mono_l k
  unfold impl_PairsValid.f
  repeat' first
      | (with_reducible exact ih0 _ _ _ _)
      | (with_reducible exact ih1 _ _ _ _ _ _ _ _)
      | (with_reducible exact impl_KeyValid.mono _ _)
      | (with_reducible exact LeO.refl _)
      | (with_reducible exact LeO.none _)
      | (with_reducible refine LeO.ite ?_ ?_)
      | (with_reducible refine LeO.bind ?_ (fun _ => ?_))
      | exact ih0 _ _ _ _
      | exact ih1 _ _ _ _ _ _ _ _
      | exact impl_KeyValid.mono _ _
      | exact LeO.none _
      | refine LeO.ite ?_ ?_
      | refine LeO.bind ?_ (fun _ => ?_)
set_option maxHeartbeats 8000000 in
set_option maxRecDepth 100000 in
theorem impl_PairsValid.calls (k : Nat) (A0 : Option Addr) (c0 : Nat) (l0 : List (S71)) (r : Bool) (w : World) (hr0 : Kd.C k71 w A0 l0.length l0) (hc0 : l0.length ≤ c0) (h : impl_PairsValid.f k l0 = some r) :
    Calls Try.prog 26 #[.slice A0 l0.length c0] w fun e w' => e = .returned (.bool r) ∧ Below w.heap.size w w' := by
  have hu71 := Try.underlying71
  have HR0 := Aside0.mk hr0
  have HC0 := Aside0.mk hc0
  clear hr0 hc0
  have HB := Aside0.mk (Below.refl w.heap.size w)
  have H : (if (l0.length : Int) > 48 then (some false) else (impl_PairsValid.l0 k l0 l0 (l0.length : Int) 0)) = some r := h
  clear h
  by_cases c2 : (l0.length : Int) > 48
  · rw [if_pos c2] at H
    have c2b0 : decide (48 < (l0.length : Int)) = true := decide_eq_true c2
    have c2b1 : decide (48 < l0.length) = true := decide_eq_true (by omega)
    clear c2
    obtain rfl := Option.some.inj H
    go_enter Try.func26, Try.ntmps26
    go_wp2
    repeat (go_quiet (fail); try go_wp2)
    go_ret
    exact ⟨by first | rfl | (simp only [u8_w_, w64_u8_]; done) | (simp only [u8_w_, w64_u8_]; rfl) | (simp [errW_none, errW_some] <;> rfl) | (simp [*, errW_none, errW_some] <;> rfl), by repeat (first | (with_reducible first | exact HB.out | apply below_alloc | apply pw_below_drewN | apply below_drew1) | exact HB.out)⟩
  · rw [if_neg c2] at H
    have c2b0 : decide (48 < (l0.length : Int)) = false := decide_eq_false c2
    have c2b1 : decide (48 < l0.length) = false := decide_eq_false (by omega)
    clear c2
    have H' := Aside0.mk H
    clear H
    go_enter Try.func26, Try.ntmps26
    go_wp2
    repeat (go_quiet (fail); try go_wp2)
    go_loopg [10] k (fun kq v10 w' => ∃ (x10_1 : Int), v10 = .int .i64 x10_1 ∧ Aside0 (impl_PairsValid.l0 kq l0 l0 (l0.length : Int) x10_1 = some r) ∧ Aside0 (kq ≤ k) ∧ Aside0 (Below w.heap.size w w'))
    case atStart => exact ⟨(0), (by first | rfl | (simp; done) | (simp [bne]; done) | (simp [*]; done)), H', ⟨Nat.le_refl _⟩, ⟨by repeat (first | (with_reducible first | exact HB.out | apply below_alloc | apply pw_below_drewN | apply below_drew1) | exact HB.out)⟩⟩
    case round =>
      clear H'
      try clear c2
      try clear c2b0
      try clear c2b1
      try clear p2
      obtain ⟨x10_1, rfl, HA, HK1, HB⟩ := hrel
      cases gk with
      | zero => exact absurd HA.out (by simp [impl_PairsValid.l0])
      | succ k1 =>
        have H := HA.out
        clear HA
        simp only [impl_PairsValid.l0] at H
        by_cases c3 : x10_1 < (l0.length : Int)
        · rw [if_pos c3] at H
          have c3b0 : decide (x10_1 < (l0.length : Int)) = true := decide_eq_true c3
          clear c3
          by_cases c4 : 0 ≤ x10_1
          · rw [if_pos c4] at H
            have c4b0 : decide (0 ≤ x10_1) = true := decide_eq_true c4
            clear c4
            by_cases c5 : x10_1 < (l0.length : Int)
            · rw [if_pos c5] at H
              have c5b0 : decide (x10_1 < (l0.length : Int)) = true := decide_eq_true c5
              clear c5
              have HC6 := Aside0.mk H
              clear H
              have p169 : 0 ≤ (x10_1 : Int) := of_decide_eq_true (by first | (with_reducible assumption) | assumption)
              have q169 : x10_1 < (l0.length : Int) := of_decide_eq_true (by first | (with_reducible assumption) | assumption)
              obtain ⟨ad169, e169, hx169_0, hx169_1⟩ := at_T71 HR0.out x10_1 p169 q169
              cases e169
              replace hx169_0 := (HB.out.cell (World.block_lt_of_cell? w _ hx169_0)).trans hx169_0
              replace hx169_1 := (HB.out.cell (World.block_lt_of_cell? w _ hx169_1)).trans hx169_1
              replace p169 := eq_true p169
              replace q169 := eq_true q169
              go_upto_region 6 with (first | ((with_reducible refine gate_dst (N := 4) rfl ?_); refine box_event ?hg (N := 4) ?hd (cs := #[.string (⟨#[]⟩ : ByteArray), .int .i64 0]) (t := 71) ?hr ?_; (case hd => rfl); (case hg => rfl); (case hr => first | (go_simp; done) | (go_simp; rfl)); intro gb170 hg w7 hbox hb; have n0_ := Aside0.mk (below_step (by repeat (first | (with_reducible first | exact HB.out | apply below_alloc | apply pw_below_drewN | apply below_drew1) | exact HB.out)) hb); have n1_ := Aside0.mk (hbox); have n2_ := Aside0.mk ((by rw [hg]; exact (below_size (by repeat (first | (with_reducible first | exact HB.out | apply below_alloc | apply pw_below_drewN | apply below_drew1) | exact HB.out))) : w.heap.size ≤ gb170)); have n3_ := Aside0.mk ((by rw [hg]; exact (below_size (by repeat (first | (with_reducible first | exact HB.out | apply below_alloc | apply pw_below_drewN | apply below_drew1) | exact HB.out))) : w.heap.size ≤ gb170)); clear HB; have HB := n0_; have BK170 := n1_; have GW170 := n2_; have GE170 := n3_; clear n0_ n1_ n2_ n3_; clear hb hbox hg; have hcz8_0 : w7.cell? ⟨gb170, 0, none⟩ = some (.string (⟨#[]⟩ : ByteArray)) := (blk_cell BK170.out 0).trans rfl; have hcz8_1 : w7.cell? ⟨gb170, 1, none⟩ = some (.int .i64 0) := (blk_cell BK170.out 1).trans rfl; have hfz8_0 := blk_frozen BK170.out 0; have hfz8_1 := blk_frozen BK170.out 1))
              repeat (go_quiet (first | ((with_reducible refine gate_dst (N := 4) rfl ?_); refine box_event ?hg (N := 4) ?hd (cs := #[.string (⟨#[]⟩ : ByteArray), .int .i64 0]) (t := 71) ?hr ?_; (case hd => rfl); (case hg => rfl); (case hr => first | (go_simp; done) | (go_simp; rfl)); intro gb170 hg w7 hbox hb; have n0_ := Aside0.mk (below_step (by repeat (first | (with_reducible first | exact HB.out | apply below_alloc | apply pw_below_drewN | apply below_drew1) | exact HB.out)) hb); have n1_ := Aside0.mk (hbox); have n2_ := Aside0.mk ((by rw [hg]; exact (below_size (by repeat (first | (with_reducible first | exact HB.out | apply below_alloc | apply pw_below_drewN | apply below_drew1) | exact HB.out))) : w.heap.size ≤ gb170)); have n3_ := Aside0.mk ((by rw [hg]; exact (below_size (by repeat (first | (with_reducible first | exact HB.out | apply below_alloc | apply pw_below_drewN | apply below_drew1) | exact HB.out))) : w.heap.size ≤ gb170)); clear HB; have HB := n0_; have BK170 := n1_; have GW170 := n2_; have GE170 := n3_; clear n0_ n1_ n2_ n3_; clear hb hbox hg; have hcz8_0 : w7.cell? ⟨gb170, 0, none⟩ = some (.string (⟨#[]⟩ : ByteArray)) := (blk_cell BK170.out 0).trans rfl; have hcz8_1 : w7.cell? ⟨gb170, 1, none⟩ = some (.int .i64 0) := (blk_cell BK170.out 1).trans rfl; have hfz8_0 := blk_frozen BK170.out 0; have hfz8_1 := blk_frozen BK170.out 1)); go_upto_region 6 with (first | ((with_reducible refine gate_dst (N := 4) rfl ?_); refine box_event ?hg (N := 4) ?hd (cs := #[.string (⟨#[]⟩ : ByteArray), .int .i64 0]) (t := 71) ?hr ?_; (case hd => rfl); (case hg => rfl); (case hr => first | (go_simp; done) | (go_simp; rfl)); intro gb170 hg w7 hbox hb; have n0_ := Aside0.mk (below_step (by repeat (first | (with_reducible first | exact HB.out | apply below_alloc | apply pw_below_drewN | apply below_drew1) | exact HB.out)) hb); have n1_ := Aside0.mk (hbox); have n2_ := Aside0.mk ((by rw [hg]; exact (below_size (by repeat (first | (with_reducible first | exact HB.out | apply below_alloc | apply pw_below_drewN | apply below_drew1) | exact HB.out))) : w.heap.size ≤ gb170)); have n3_ := Aside0.mk ((by rw [hg]; exact (below_size (by repeat (first | (with_reducible first | exact HB.out | apply below_alloc | apply pw_below_drewN | apply below_drew1) | exact HB.out))) : w.heap.size ≤ gb170)); clear HB; have HB := n0_; have BK170 := n1_; have GW170 := n2_; have GE170 := n3_; clear n0_ n1_ n2_ n3_; clear hb hbox hg; have hcz8_0 : w7.cell? ⟨gb170, 0, none⟩ = some (.string (⟨#[]⟩ : ByteArray)) := (blk_cell BK170.out 0).trans rfl; have hcz8_1 : w7.cell? ⟨gb170, 1, none⟩ = some (.int .i64 0) := (blk_cell BK170.out 1).trans rfl; have hfz8_0 := blk_frozen BK170.out 0; have hfz8_1 := blk_frozen BK170.out 1)))
              (try simp only [Act.put, List.setIfInBounds_toArray, List.set_cons_zero, List.set_cons_succ])
              go_cut [24] (fun v24 wc => ∃ (kq : Nat) (x24_5 : Bool), v24 = .bool x24_5 ∧ Aside0 (impl_PairsValid.j1 kq l0 x10_1 l0 (l0.length : Int) x10_1 x24_5 ((rd_T71 l0 x10_1).f0) ((rd_T71 l0 x10_1).f1) = some r) ∧ Aside0 (kq ≤ k1) ∧ Aside0 (wc.heap[gb170]? = some (.cells #[.string ((rd_T71 l0 x10_1).f0), .int .i64 ((rd_T71 l0 x10_1).f1)] 71 (0, 0))) ∧ Aside0 (Below w.heap.size w wc))
              case first =>
                have H := HC6.out
                clear HC6
                replace H := Option.bind_eq_some_iff.mp H
                obtain ⟨t171, A90, H⟩ := H
                replace H : (if t171 = true then ((impl_valueValid.f ((rd_T71 l0 x10_1).f1)).bind fun t172 => (impl_PairsValid.j1 k1 l0 x10_1 l0 (l0.length : Int) x10_1 (!t172) ((rd_T71 l0 x10_1).f0) ((rd_T71 l0 x10_1).f1))) else (impl_PairsValid.j1 k1 l0 x10_1 l0 (l0.length : Int) x10_1 true ((rd_T71 l0 x10_1).f0) ((rd_T71 l0 x10_1).f1))) = some r := H
                have A9 := Aside0.mk A90
                clear A90
                by_cases c10 : t171 = true
                · subst c10
                  have H1 : ((impl_valueValid.f ((rd_T71 l0 x10_1).f1)).bind fun t172 => (impl_PairsValid.j1 k1 l0 x10_1 l0 (l0.length : Int) x10_1 (!t172) ((rd_T71 l0 x10_1).f0) ((rd_T71 l0 x10_1).f1))) = some r := by rw [if_pos rfl] at H; exact H
                  clear H
                  have H := H1
                  clear H1
                  replace H := Option.bind_eq_some_iff.mp H
                  obtain ⟨t172, A110, H⟩ := H
                  replace H : (impl_PairsValid.j1 k1 l0 x10_1 l0 (l0.length : Int) x10_1 (!t172) ((rd_T71 l0 x10_1).f0) ((rd_T71 l0 x10_1).f1)) = some r := H
                  have A11 := Aside0.mk A110
                  clear A110
                  have H' := Aside0.mk H
                  clear H
                  have hcz12_0 : w7.cell? ⟨gb170, 0, none⟩ = some (.string (⟨#[]⟩ : ByteArray)) := (blk_cell BK170.out 0).trans rfl
                  have hcz12_1 : w7.cell? ⟨gb170, 1, none⟩ = some (.int .i64 0) := (blk_cell BK170.out 1).trans rfl
                  have hfz12_0 := blk_frozen BK170.out 0
                  have hfz12_1 := blk_frozen BK170.out 1
                  go_wp2_with (first | (go_at_call 50; (with_reducible refine (impl_KeyValid.calls k1 ((rd_T71 l0 x10_1).f0) true _ A9.out).mono ?_); rintro e w' ⟨rfl, ⟨nd, rfl⟩⟩; (try first | exact ⟨rfl, _, World.drewN_drewN _ _ _⟩ | exact ⟨rfl, _, Eq.trans (World.drewN_drewN _ _ _) (congrArg (World.drewN _) (Nat.add_assoc _ _ _))⟩)) | (go_at_call 70; (with_reducible refine (impl_valueValid.calls ((rd_T71 l0 x10_1).f1) t172 _ A11.out).mono ?_); rintro e w' ⟨rfl, ⟨nd, rfl⟩⟩; (try first | exact ⟨rfl, _, World.drewN_drewN _ _ _⟩ | exact ⟨rfl, _, Eq.trans (World.drewN_drewN _ _ _) (congrArg (World.drewN _) (Nat.add_assoc _ _ _))⟩)))
                  repeat (go_quiet (first | (go_at_call 50; (with_reducible refine (impl_KeyValid.calls k1 ((rd_T71 l0 x10_1).f0) true _ A9.out).mono ?_); rintro e w' ⟨rfl, ⟨nd, rfl⟩⟩; (try first | exact ⟨rfl, _, World.drewN_drewN _ _ _⟩ | exact ⟨rfl, _, Eq.trans (World.drewN_drewN _ _ _) (congrArg (World.drewN _) (Nat.add_assoc _ _ _))⟩)) | (go_at_call 70; (with_reducible refine (impl_valueValid.calls ((rd_T71 l0 x10_1).f1) t172 _ A11.out).mono ?_); rintro e w' ⟨rfl, ⟨nd, rfl⟩⟩; (try first | exact ⟨rfl, _, World.drewN_drewN _ _ _⟩ | exact ⟨rfl, _, Eq.trans (World.drewN_drewN _ _ _) (congrArg (World.drewN _) (Nat.add_assoc _ _ _))⟩))); try go_wp2_with (first | (go_at_call 50; (with_reducible refine (impl_KeyValid.calls k1 ((rd_T71 l0 x10_1).f0) true _ A9.out).mono ?_); rintro e w' ⟨rfl, ⟨nd, rfl⟩⟩; (try first | exact ⟨rfl, _, World.drewN_drewN _ _ _⟩ | exact ⟨rfl, _, Eq.trans (World.drewN_drewN _ _ _) (congrArg (World.drewN _) (Nat.add_assoc _ _ _))⟩)) | (go_at_call 70; (with_reducible refine (impl_valueValid.calls ((rd_T71 l0 x10_1).f1) t172 _ A11.out).mono ?_); rintro e w' ⟨rfl, ⟨nd, rfl⟩⟩; (try first | exact ⟨rfl, _, World.drewN_drewN _ _ _⟩ | exact ⟨rfl, _, Eq.trans (World.drewN_drewN _ _ _) (congrArg (World.drewN _) (Nat.add_assoc _ _ _))⟩))))
                  go_meet
                  case rel => exact ⟨_, (!t172), (by first | rfl | (simp; done) | (simp [bne]; done) | (simp [*]; done)), H', ⟨by have := HK1.out; first | omega | exact Nat.le_refl _⟩, ⟨by (with_reducible repeat (first | refine blk_drewN ?_ _ | refine blk_drew ?_ | refine blk_alloc ?_ _)); refine blk_put (cs := #[.string ((rd_T71 l0 x10_1).f0), .int .i64 0]) ?_ 1 _ rfl; (with_reducible repeat (first | refine blk_drewN ?_ _ | refine blk_drew ?_ | refine blk_alloc ?_ _)); refine blk_put (cs := #[.string (⟨#[]⟩ : ByteArray), .int .i64 0]) ?_ 0 _ rfl; (with_reducible repeat (first | refine blk_drewN ?_ _ | refine blk_drew ?_ | refine blk_alloc ?_ _)); exact BK170.out⟩, ⟨by repeat (first | (with_reducible first | exact HB.out | apply below_alloc | apply pw_below_drewN | apply below_drew1 | refine below_set ?_ GE170.out) | exact HB.out)⟩⟩
                · replace c10 := Bool.eq_false_iff.mpr c10
                  subst c10
                  have H1 : (impl_PairsValid.j1 k1 l0 x10_1 l0 (l0.length : Int) x10_1 true ((rd_T71 l0 x10_1).f0) ((rd_T71 l0 x10_1).f1)) = some r := by rw [if_neg (show ¬ (false = true) by decide)] at H; exact H
                  clear H
                  have H := H1
                  clear H1
                  have H' := Aside0.mk H
                  clear H
                  have hcz13_0 : w7.cell? ⟨gb170, 0, none⟩ = some (.string (⟨#[]⟩ : ByteArray)) := (blk_cell BK170.out 0).trans rfl
                  have hcz13_1 : w7.cell? ⟨gb170, 1, none⟩ = some (.int .i64 0) := (blk_cell BK170.out 1).trans rfl
                  have hfz13_0 := blk_frozen BK170.out 0
                  have hfz13_1 := blk_frozen BK170.out 1
                  go_wp2_with (first | (go_at_call 50; (with_reducible refine (impl_KeyValid.calls k1 ((rd_T71 l0 x10_1).f0) false _ A9.out).mono ?_); rintro e w' ⟨rfl, ⟨nd, rfl⟩⟩; (try first | exact ⟨rfl, _, World.drewN_drewN _ _ _⟩ | exact ⟨rfl, _, Eq.trans (World.drewN_drewN _ _ _) (congrArg (World.drewN _) (Nat.add_assoc _ _ _))⟩)))
                  repeat (go_quiet (first | (go_at_call 50; (with_reducible refine (impl_KeyValid.calls k1 ((rd_T71 l0 x10_1).f0) false _ A9.out).mono ?_); rintro e w' ⟨rfl, ⟨nd, rfl⟩⟩; (try first | exact ⟨rfl, _, World.drewN_drewN _ _ _⟩ | exact ⟨rfl, _, Eq.trans (World.drewN_drewN _ _ _) (congrArg (World.drewN _) (Nat.add_assoc _ _ _))⟩))); try go_wp2_with (first | (go_at_call 50; (with_reducible refine (impl_KeyValid.calls k1 ((rd_T71 l0 x10_1).f0) false _ A9.out).mono ?_); rintro e w' ⟨rfl, ⟨nd, rfl⟩⟩; (try first | exact ⟨rfl, _, World.drewN_drewN _ _ _⟩ | exact ⟨rfl, _, Eq.trans (World.drewN_drewN _ _ _) (congrArg (World.drewN _) (Nat.add_assoc _ _ _))⟩))))
                  go_meet
                  case rel => exact ⟨_, (true), (by first | rfl | (simp; done) | (simp [bne]; done) | (simp [*]; done)), H', ⟨by have := HK1.out; first | omega | exact Nat.le_refl _⟩, ⟨by (with_reducible repeat (first | refine blk_drewN ?_ _ | refine blk_drew ?_ | refine blk_alloc ?_ _)); refine blk_put (cs := #[.string ((rd_T71 l0 x10_1).f0), .int .i64 0]) ?_ 1 _ rfl; (with_reducible repeat (first | refine blk_drewN ?_ _ | refine blk_drew ?_ | refine blk_alloc ?_ _)); refine blk_put (cs := #[.string (⟨#[]⟩ : ByteArray), .int .i64 0]) ?_ 0 _ rfl; (with_reducible repeat (first | refine blk_drewN ?_ _ | refine blk_drew ?_ | refine blk_alloc ?_ _)); exact BK170.out⟩, ⟨by repeat (first | (with_reducible first | exact HB.out | apply below_alloc | apply pw_below_drewN | apply below_drew1 | refine below_set ?_ GE170.out) | exact HB.out)⟩⟩
              case rest =>
                clear HC6
                try clear c1
                try clear p1
                try clear q1
                try clear hx1
                try clear c2
                try clear c2b0
                try clear c2b1
                try clear p2
                try clear c3
                try clear c3b0
                try clear c4
                try clear c4b0
                try clear c5
                try clear c5b0
                try clear c10
                try clear hcz12_0
                try clear hcz12_1
                try clear hcz13_0
                try clear hcz13_1
                try clear hcz8_0
                try clear hcz8_1
                try clear hfz12_0
                try clear hfz12_1
                try clear hfz13_0
                try clear hfz13_1
                try clear hfz8_0
                try clear hfz8_1
                try clear hx169_0
                try clear hx169_1
                try clear p169
                try clear p2
                try clear q169
                obtain ⟨kq, x24_5, rfl, HA, HJ5, BK170, HB⟩ := hcut
                cases kq with
                | zero => exact absurd HA.out (by simp [impl_PairsValid.j1])
                | succ kj5 =>
                  have H := HA.out
                  clear HA
                  simp only [impl_PairsValid.j1] at H
                  by_cases c14 : x24_5 = true
                  · subst c14
                    have H1 : (some false) = some r := by rw [if_pos rfl] at H; exact H
                    clear H
                    have H := H1
                    clear H1
                    obtain rfl := Option.some.inj H
                    go_wp2
                    repeat (go_quiet (fail); try go_wp2)
                    go_ret
                    exact ⟨by first | rfl | (simp only [u8_w_, w64_u8_]; done) | (simp only [u8_w_, w64_u8_]; rfl) | (simp [errW_none, errW_some] <;> rfl) | (simp [*, errW_none, errW_some] <;> rfl), by repeat (first | (with_reducible first | exact HB.out | apply below_alloc | apply pw_below_drewN | apply below_drew1 | refine below_set ?_ GE170.out) | exact HB.out)⟩
                  · replace c14 := Bool.eq_false_iff.mpr c14
                    subst c14
                    have H1 : (if x10_1 > 0 then (if 0 ≤ (wrap64 (x10_1 - 1)) then (if (wrap64 (x10_1 - 1)) < (l0.length : Int) then (if ((Op.bytesLess (((rd_T71 l0 (wrap64 (x10_1 - 1))).f0).toList) ((rd_T71 l0 x10_1).f0).toList) = true) then (impl_PairsValid.l0 kj5 l0 l0 (l0.length : Int) (wrap64 (x10_1 + 1))) else (some false)) else (none)) else (none)) else (impl_PairsValid.l0 kj5 l0 l0 (l0.length : Int) (wrap64 (x10_1 + 1)))) = some r := by rw [if_neg (show ¬ (false = true) by decide)] at H; exact H
                    clear H
                    have H := H1
                    clear H1
                    by_cases c15 : x10_1 > 0
                    · rw [if_pos c15] at H
                      have c15b0 : decide (0 < x10_1) = true := decide_eq_true c15
                      clear c15
                      obtain ⟨ji16, hji16⟩ : ∃ j_ : Int, (wrap64 (x10_1 - 1)) = j_ := ⟨_, rfl⟩
                      replace H : (if 0 ≤ (ji16) then (if (ji16) < (l0.length : Int) then (if ((Op.bytesLess (((rd_T71 l0 (ji16)).f0).toList) ((rd_T71 l0 x10_1).f0).toList) = true) then (impl_PairsValid.l0 kj5 l0 l0 (l0.length : Int) (wrap64 (x10_1 + 1))) else (some false)) else (none)) else (none)) = some r := by first | (rw [hji16] at H; exact H) | (simp only [hji16] at H ⊢; exact H)
                      have hji16w : (IntKind.i64.wrap (x10_1 - 1)) = ji16 := (i64_w _).trans hji16
                      by_cases c17 : 0 ≤ (ji16)
                      · rw [if_pos c17] at H
                        have c17b0 : decide (0 ≤ (ji16)) = true := decide_eq_true c17
                        clear c17
                        by_cases c18 : (ji16) < (l0.length : Int)
                        · rw [if_pos c18] at H
                          have c18b0 : decide ((ji16) < (l0.length : Int)) = true := decide_eq_true c18
                          clear c18
                          by_cases c19 : ((Op.bytesLess (((rd_T71 l0 (ji16)).f0).toList) ((rd_T71 l0 x10_1).f0).toList) = true)
                          · rw [if_pos c19] at H
                            have c19b0 : (Op.bytesLess (((rd_T71 l0 (ji16)).f0).toList) ((rd_T71 l0 x10_1).f0).toList) = true := c19
                            clear c19
                            have H' := Aside0.mk H
                            clear H
                            have p173 : 0 ≤ ((ji16) : Int) := of_decide_eq_true (by first | (with_reducible assumption) | assumption)
                            have q173 : (ji16) < (l0.length : Int) := of_decide_eq_true (by first | (with_reducible assumption) | assumption)
                            obtain ⟨ad173, e173, hx173_0, hx173_1⟩ := at_T71 HR0.out (ji16) p173 q173
                            obtain rfl : ad169 = ad173 := (by injection e173)
                            replace hx173_0 := (HB.out.cell (World.block_lt_of_cell? w _ hx173_0)).trans hx173_0
                            replace hx173_1 := (HB.out.cell (World.block_lt_of_cell? w _ hx173_1)).trans hx173_1
                            replace p173 := eq_true p173
                            replace q173 := eq_true q173
                            have hcz20_0 : wc.cell? ⟨gb170, 0, none⟩ = some (.string ((rd_T71 l0 x10_1).f0)) := (blk_cell BK170.out 0).trans rfl
                            have hcz20_1 : wc.cell? ⟨gb170, 1, none⟩ = some (.int .i64 ((rd_T71 l0 x10_1).f1)) := (blk_cell BK170.out 1).trans rfl
                            have hfz20_0 := blk_frozen BK170.out 0
                            have hfz20_1 := blk_frozen BK170.out 1
                            go_wp2
                            repeat (go_quiet (fail); try go_wp2)
                            go_roundg kj5
                            case measure => have := HK1.out; have := HJ5.out; omega
                            case rel => exact ⟨(wrap64 (x10_1 + 1)), (by first | rfl | (simp; done) | (simp [bne]; done) | (simp [*]; done)), H', ⟨by have := HK1.out; have := HJ5.out; omega⟩, ⟨by repeat (first | (with_reducible first | exact HB.out | apply below_alloc | apply pw_below_drewN | apply below_drew1 | refine below_set ?_ GE170.out) | exact HB.out)⟩⟩
                          · rw [if_neg c19] at H
                            have c19b0 : (Op.bytesLess (((rd_T71 l0 (ji16)).f0).toList) ((rd_T71 l0 x10_1).f0).toList) = false := by simpa using c19
                            clear c19
                            obtain rfl := Option.some.inj H
                            have p173 : 0 ≤ ((ji16) : Int) := of_decide_eq_true (by first | (with_reducible assumption) | assumption)
                            have q173 : (ji16) < (l0.length : Int) := of_decide_eq_true (by first | (with_reducible assumption) | assumption)
                            obtain ⟨ad173, e173, hx173_0, hx173_1⟩ := at_T71 HR0.out (ji16) p173 q173
                            obtain rfl : ad169 = ad173 := (by injection e173)
                            replace hx173_0 := (HB.out.cell (World.block_lt_of_cell? w _ hx173_0)).trans hx173_0
                            replace hx173_1 := (HB.out.cell (World.block_lt_of_cell? w _ hx173_1)).trans hx173_1
                            replace p173 := eq_true p173
                            replace q173 := eq_true q173
                            have hcz21_0 : wc.cell? ⟨gb170, 0, none⟩ = some (.string ((rd_T71 l0 x10_1).f0)) := (blk_cell BK170.out 0).trans rfl
                            have hcz21_1 : wc.cell? ⟨gb170, 1, none⟩ = some (.int .i64 ((rd_T71 l0 x10_1).f1)) := (blk_cell BK170.out 1).trans rfl
                            have hfz21_0 := blk_frozen BK170.out 0
                            have hfz21_1 := blk_frozen BK170.out 1
                            go_wp2
                            repeat (go_quiet (fail); try go_wp2)
                            go_ret
                            exact ⟨by first | rfl | (simp only [u8_w_, w64_u8_]; done) | (simp only [u8_w_, w64_u8_]; rfl) | (simp [errW_none, errW_some] <;> rfl) | (simp only [← hji16]; first | rfl | (simp [errW_none, errW_some] <;> rfl)) | (simp [*, errW_none, errW_some] <;> rfl), by repeat (first | (with_reducible first | exact HB.out | apply below_alloc | apply pw_below_drewN | apply below_drew1 | refine below_set ?_ GE170.out) | exact HB.out)⟩
                        · rw [if_neg c18] at H
                          exact absurd H (by simp)
                      · rw [if_neg c17] at H
                        exact absurd H (by simp)
                    · rw [if_neg c15] at H
                      have c15b0 : decide (0 < x10_1) = false := decide_eq_false c15
                      clear c15
                      have H' := Aside0.mk H
                      clear H
                      go_wp2
                      repeat (go_quiet (fail); try go_wp2)
                      go_roundg kj5
                      case measure => have := HK1.out; have := HJ5.out; omega
                      case rel => exact ⟨(wrap64 (x10_1 + 1)), (by first | rfl | (simp; done) | (simp [bne]; done) | (simp [*]; done)), H', ⟨by have := HK1.out; have := HJ5.out; omega⟩, ⟨by repeat (first | (with_reducible first | exact HB.out | apply below_alloc | apply pw_below_drewN | apply below_drew1 | refine below_set ?_ GE170.out) | exact HB.out)⟩⟩
            · rw [if_neg c5] at H
              exact absurd H (by simp)
          · rw [if_neg c4] at H
            exact absurd H (by simp)
        · rw [if_neg c3] at H
          have c3b0 : decide (x10_1 < (l0.length : Int)) = false := decide_eq_false c3
          clear c3
          obtain rfl := Option.some.inj H
          go_wp2
          repeat (go_quiet (fail); try go_wp2)
          go_ret
          exact ⟨by first | rfl | (simp only [u8_w_, w64_u8_]; done) | (simp only [u8_w_, w64_u8_]; rfl) | (simp [errW_none, errW_some] <;> rfl) | (simp [*, errW_none, errW_some] <;> rfl), by repeat (first | (with_reducible first | exact HB.out | apply below_alloc | apply pw_below_drewN | apply below_drew1) | exact HB.out)⟩

/-! ### impl_allPairs: function 72 -/
def impl_allPairs.l0 : Nat → List (S71) → List (S64) → Int → Int → Option ((List (S71)))
  | 0, _, _, _, _ => none
  | k + 1, x3, x6, x7, x8 => if x8 < x7 then (if 0 ≤ x8 then (if x8 < (x6.length : Int) then (if x3.length + ((rd_T64 x6 x8).f0).length < 5864062014805 then (impl_allPairs.l0 k (x3 ++ ((rd_T64 x6 x8).f0)) x6 x7 (wrap64 (x8 + 1))) else (none)) else (none)) else (none)) else (some x3)
def impl_allPairs.f (k : Nat) (l0 : List (S64)) : Option ((List (S71))) := impl_allPairs.l0 k ([] : List (S71)) l0 (l0.length : Int) 0
theorem impl_allPairs.mono_l : ∀ k, (∀ y0 y1 y2 y3, LeO (impl_allPairs.l0 k y0 y1 y2 y3) (impl_allPairs.l0 (k + 1) y0 y1 y2 y3))
  | 0 => fun _ _ _ _ r h => by simp [impl_allPairs.l0] at h
  | k + 1 => by
    have ih0 := impl_allPairs.mono_l k
    · intro y0 y1 y2 y3
      unfold impl_allPairs.l0
      repeat' first
      | (with_reducible exact ih0 _ _ _ _)
      | (with_reducible exact LeO.refl _)
      | (with_reducible exact LeO.none _)
      | (with_reducible refine LeO.ite ?_ ?_)
      | (with_reducible refine LeO.bind ?_ (fun _ => ?_))
      | exact ih0 _ _ _ _
      | exact LeO.none _
      | refine LeO.ite ?_ ?_
      | refine LeO.bind ?_ (fun _ => ?_)
theorem impl_allPairs.mono : ∀ a0 k, LeO (impl_allPairs.f k a0) (impl_allPairs.f (k + 1) a0) := by
  intro a0 k
  have ih0 := impl_allPairs.mono_l k
  unfold impl_allPairs.f
  repeat' first
      | (with_reducible exact ih0 _ _ _ _)
      | (with_reducible exact LeO.refl _)
      | (with_reducible exact LeO.none _)
      | (with_reducible refine LeO.ite ?_ ?_)
      | (with_reducible refine LeO.bind ?_ (fun _ => ?_))
      | exact ih0 _ _ _ _
      | exact LeO.none _
      | refine LeO.ite ?_ ?_
      | refine LeO.bind ?_ (fun _ => ?_)
set_option maxHeartbeats 8000000 in
set_option maxRecDepth 100000 in
theorem impl_allPairs.calls (k : Nat) (A0 : Option Addr) (c0 : Nat) (l0 : List (S64)) (r : List (S71)) (w : World) (hr0 : Kd.C k64 w A0 l0.length l0) (hc0 : l0.length ≤ c0) (h : impl_allPairs.f k l0 = some r) :
    Calls Try.prog 72 #[.slice A0 l0.length c0] w fun e w' => ∃ v0_ : Value, e = .returned (v0_) ∧ Kd.R k71 71 w' w.heap.size (fun _ => True) v0_ r ∧ Below w.heap.size w w' := by
  have hu64 := Try.underlying64
  have HR0 := Aside0.mk hr0
  have HC0 := Aside0.mk hc0
  clear hr0 hc0
  have HB := Aside0.mk (Below.refl w.heap.size w)
  have H : (impl_allPairs.l0 k ([] : List (S71)) l0 (l0.length : Int) 0) = some r := h
  clear h
  have H' := Aside0.mk H
  clear H
  go_enter Try.func72, Try.ntmps72
  go_wp2
  go_loopg [3, 8] k (fun kq v3 v8 w' => ∃ (x3_1 : List (S71)) (x8_1 : Int), v8 = .int .i64 x8_1 ∧ Aside0 (impl_allPairs.l0 kq x3_1 l0 (l0.length : Int) x8_1 = some r) ∧ Aside0 (kq ≤ k) ∧ Aside0 (Kd.R k71 71 w' w.heap.size (fun _ => True) v3 x3_1) ∧ Aside0 (Below w.heap.size w w'))
  case atStart => exact ⟨(([] : List (S71))), (0), (by first | rfl | (simp; done) | (simp [bne]; done) | (simp [*]; done)), H', ⟨Nat.le_refl _⟩, ⟨by first | exact Kd.R_nil _ _ _ _ _ | exact Kd.N_nil _ _ _ _ _ | exact Kd.V_nil _ _ _ _ _ | exact Kd.Q_nil _ _ _ _ _ | exact Kd.S_nil _ _ _ _ _⟩, ⟨by repeat (first | (with_reducible first | exact HB.out | apply below_alloc | apply pw_below_drewN | apply below_drew1) | exact HB.out)⟩⟩
  case round =>
    clear H'
    obtain ⟨x3_1, x8_1, rfl, HA, HK1, HO_3, HB⟩ := hrel
    cases gk with
    | zero => exact absurd HA.out (by simp [impl_allPairs.l0])
    | succ k1 =>
      have H := HA.out
      clear HA
      simp only [impl_allPairs.l0] at H
      by_cases c2 : x8_1 < (l0.length : Int)
      · rw [if_pos c2] at H
        have c2b0 : decide (x8_1 < (l0.length : Int)) = true := decide_eq_true c2
        clear c2
        by_cases c3 : 0 ≤ x8_1
        · rw [if_pos c3] at H
          have c3b0 : decide (0 ≤ x8_1) = true := decide_eq_true c3
          clear c3
          by_cases c4 : x8_1 < (l0.length : Int)
          · rw [if_pos c4] at H
            have c4b0 : decide (x8_1 < (l0.length : Int)) = true := decide_eq_true c4
            clear c4
            by_cases c5 : x3_1.length + ((rd_T64 l0 x8_1).f0).length < 5864062014805
            · rw [if_pos c5] at H
              have LMc5 := Aside0.mk c5
              clear c5
              obtain ⟨y176, hy176⟩ : ∃ y_ : List (S71), y_ = (x3_1 ++ ((rd_T64 l0 x8_1).f0)) := ⟨_, rfl⟩
              replace H : (impl_allPairs.l0 k1 y176 l0 (l0.length : Int) (wrap64 (x8_1 + 1))) = some r := by first | (rw [hy176]; with_reducible exact H) | (have H2_ := (Option.bind_some _ _).symm.trans H; rw [hy176]; with_reducible exact H2_) | (have H2_ := (Option.bind_some _ _).symm.trans H; with_reducible exact H2_) | with_reducible exact H | (rw [hy176]; exact H) | exact H
              have Ny176 := Aside0.mk hy176
              clear hy176
              have H' := Aside0.mk H
              clear H
              have p174 : 0 ≤ (x8_1 : Int) := of_decide_eq_true (by first | (with_reducible assumption) | assumption)
              have q174 : x8_1 < (l0.length : Int) := of_decide_eq_true (by first | (with_reducible assumption) | assumption)
              obtain ⟨ad174, A174_0, c174_0, e174, hx174_0, hl174_0, hi174_0⟩ := at_T64 HR0.out x8_1 p174 q174
              cases e174
              replace hx174_0 := (HB.out.cell (World.block_lt_of_cell? w _ hx174_0)).trans hx174_0
              have HR174_0 := Aside0.mk hi174_0
              have HC174_0 := Aside0.mk hl174_0
              clear hi174_0 hl174_0
              replace p174 := eq_true p174
              replace q174 := eq_true q174
              go_wp2_with (first | ((with_reducible refine gate_dst (N := 5) rfl ?_); refine box_event ?hg (N := 5) ?hd (cs := #[.slice none 0 0]) (t := 64) ?hr ?_; (case hd => rfl); (case hg => rfl); (case hr => first | (go_simp; done) | (go_simp; rfl)); intro gb175 hg w6 hbox hb; have n0_ := Aside0.mk (Kd.R_below (by (with_reducible repeat (first | apply Kd.R_alloc | apply Kd.R_drewN | apply Kd.R_drew)); exact HO_3.out) hb); have n1_ := Aside0.mk (below_step (by repeat (first | (with_reducible first | exact HB.out | apply below_alloc | apply pw_below_drewN | apply below_drew1) | exact HB.out)) hb); have n2_ := Aside0.mk (hbox); have n3_ := Aside0.mk ((by rw [hg]; exact (below_size (by repeat (first | (with_reducible first | exact HB.out | apply below_alloc | apply pw_below_drewN | apply below_drew1) | exact HB.out))) : w.heap.size ≤ gb175)); have n4_ := Aside0.mk ((by rw [hg]; exact (below_size (by repeat (first | (with_reducible first | exact HB.out | apply below_alloc | apply pw_below_drewN | apply below_drew1) | exact HB.out))) : w.heap.size ≤ gb175)); clear HO_3; clear HB; have HO_3 := n0_; have HB := n1_; have BK175 := n2_; have GW175 := n3_; have GE175 := n4_; clear n0_ n1_ n2_ n3_ n4_; clear hb hbox hg; have hcz7_0 : w6.cell? ⟨gb175, 0, none⟩ = some (.slice none 0 0) := (blk_cell BK175.out 0).trans rfl; have hfz7_0 := blk_frozen BK175.out 0) | ((with_reducible refine gate_builtin (b := .append) (xs := #[.tmp 12, .tmp 14]) rfl ?_); at_builtin; refine Kd.R_append_rows k71 (w0 := w) w.heap.size rfl (.tmp 12) (.tmp 14) 32 71 (.agg #[(.string ⟨#[]⟩), (.int .i64 0)]) 24 rfl Try.underlying32 info71 rfl (by decide) (by omega) u3 x3_1 ((rd_T64 l0 x8_1).f0) _ _ _ (fun _ => True) (fun _ => False) rfl rfl ?aO ?aR (fun _ _ h => h) (fun _ h => h.elim) ?aF ?aB ?aS ?aL ?_; (case aR => exact Kd.C_below HR174_0.out (by repeat (first | (with_reducible first | exact HB.out | apply below_alloc | apply pw_below_drewN | apply below_drew1 | refine below_set ?_ GE175.out) | exact HB.out))); (case aB => exact (by repeat (first | (with_reducible first | exact HB.out | apply below_alloc | apply pw_below_drewN | apply below_drew1 | refine below_set ?_ GE175.out) | exact HB.out))); (case aF => exact (fun _ _ => trivial)); (case aO => exact (by (with_reducible repeat (first | apply Kd.R_alloc | apply Kd.R_drewN | apply Kd.R_drew)); exact Kd.R_mono (Kd.R_far (p := ⟨gb175, 0, none⟩) (Kd.R_types HO_3.out BK175.out (by decide)) (fun _ hk => hk.2) (.slice A174_0 ((rd_T64 l0 x8_1).f0).length c174_0)) (fun _ hk => trivial))); (case aS => exact (below_size (by repeat (first | (with_reducible first | exact HB.out | apply below_alloc | apply pw_below_drewN | apply below_drew1 | refine below_set ?_ GE175.out) | exact HB.out)))); (case aL => have := LMc5.out; omega); intro v177 w8 ho hb hg hat; rw [← Ny176.out] at ho; have n0_ := Aside0.mk (blk_grown (g := gb175) (o := .cells #[.slice A174_0 ((rd_T64 l0 x8_1).f0).length c174_0] 64 (0, 0)) (by (with_reducible repeat (first | refine blk_drewN ?_ _ | refine blk_drew ?_ | refine blk_alloc ?_ _)); refine blk_put (cs := #[.slice none 0 0]) ?_ 0 _ rfl; (with_reducible repeat (first | refine blk_drewN ?_ _ | refine blk_drew ?_ | refine blk_alloc ?_ _)); exact BK175.out) hg (Kd.R_ne HO_3.out BK175.out (by decide))); have n1_ := Aside0.mk (hb); have n2_ := Aside0.mk (ho); clear BK175; clear HB; clear HO_3; have BK175 := n0_; have HB := n1_; have HO178 := n2_; clear n0_ n1_ n2_; clear ho hb hg hat))
              go_roundg k1
              case measure => have := HK1.out; omega
              case rel => exact ⟨(y176), (wrap64 (x8_1 + 1)), (by first | rfl | (simp; done) | (simp [bne]; done) | (simp [*]; done)), H', ⟨by have := HK1.out; omega⟩, ⟨by (with_reducible repeat (first | apply Kd.R_alloc | apply Kd.R_drewN | apply Kd.R_drew)); exact HO178.out⟩, ⟨by repeat (first | (with_reducible first | exact HB.out | apply below_alloc | apply pw_below_drewN | apply below_drew1 | refine below_set ?_ GE175.out) | exact HB.out)⟩⟩
            · rw [if_neg c5] at H
              exact absurd H (by simp)
          · rw [if_neg c4] at H
            exact absurd H (by simp)
        · rw [if_neg c3] at H
          exact absurd H (by simp)
      · rw [if_neg c2] at H
        have c2b0 : decide (x8_1 < (l0.length : Int)) = false := decide_eq_false c2
        clear c2
        obtain rfl := Option.some.inj H
        go_wp2
        go_ret
        exact ⟨_, by first | rfl | (simp only [u8_w_, w64_u8_]; done) | (simp only [u8_w_, w64_u8_]; rfl) | (simp [errW_none, errW_some] <;> rfl) | (simp [*, errW_none, errW_some] <;> rfl), by (with_reducible repeat (first | apply Kd.R_alloc | apply Kd.R_drewN | apply Kd.R_drew)); exact HO_3.out, by repeat (first | (with_reducible first | exact HB.out | apply below_alloc | apply pw_below_drewN | apply below_drew1) | exact HB.out)⟩

/-! ### impl_PagesValid: function 28 -/
def impl_PagesValid.l0 : Nat → List (S64) → List (S64) → Int → Int → Option (Bool)
  | 0, _, _, _, _ => none
  | k + 1, x0, x9, x10, x11 => if x11 < x10 then (if 0 ≤ x11 then (if x11 < (x9.length : Int) then (if (x0.length : Int) = 1 then (if (((rd_T64 x9 x11).f0).length : Int) < 1 then (some false) else (if (((rd_T64 x9 x11).f0).length : Int) > 4 then (some false) else (impl_PagesValid.l0 k x0 x9 x10 (wrap64 (x11 + 1))))) else (if (((rd_T64 x9 x11).f0).length : Int) < 2 then (some false) else (if (((rd_T64 x9 x11).f0).length : Int) > 4 then (some false) else (impl_PagesValid.l0 k x0 x9 x10 (wrap64 (x11 + 1)))))) else (none)) else (none)) else ((impl_allPairs.f k x0).bind fun t179 => ((impl_PairsValid.f k t179).bind fun t182 => (some t182)))
def impl_PagesValid.f (k : Nat) (l0 : List (S64)) : Option (Bool) := if (l0.length : Int) > 48 then (some false) else (impl_PagesValid.l0 k l0 l0 (l0.length : Int) 0)
theorem impl_PagesValid.mono_l : ∀ k, (∀ y0 y1 y2 y3, LeO (impl_PagesValid.l0 k y0 y1 y2 y3) (impl_PagesValid.l0 (k + 1) y0 y1 y2 y3))
  | 0 => fun _ _ _ _ r h => by simp [impl_PagesValid.l0] at h
  | k + 1 => by
    have ih0 := impl_PagesValid.mono_l k
    · intro y0 y1 y2 y3
      unfold impl_PagesValid.l0
      repeat' first
      | (with_reducible exact ih0 _ _ _ _)
      | (with_reducible exact impl_PairsValid.mono _ _)
      | (with_reducible exact impl_allPairs.mono _ _)
      | (with_reducible exact LeO.refl _)
      | (with_reducible exact LeO.none _)
      | (with_reducible refine LeO.ite ?_ ?_)
      | (with_reducible refine LeO.bind ?_ (fun _ => ?_))
      | exact ih0 _ _ _ _
      | exact impl_PairsValid.mono _ _
      | exact impl_allPairs.mono _ _
      | exact LeO.none _
      | refine LeO.ite ?_ ?_
      | refine LeO.bind ?_ (fun _ => ?_)
theorem impl_PagesValid.mono : ∀ a0 k, LeO (impl_PagesValid.f k a0) (impl_PagesValid.f (k + 1) a0) := by
  intro a0 k
  have ih0 := impl_PagesValid.mono_l k
  unfold impl_PagesValid.f
  repeat' first
      | (with_reducible exact ih0 _ _ _ _)
      | (with_reducible exact impl_PairsValid.mono _ _)
      | (with_reducible exact impl_allPairs.mono _ _)
      | (with_reducible exact LeO.refl _)
      | (with_reducible exact LeO.none _)
      | (with_reducible refine LeO.ite ?_ ?_)
      | (with_reducible refine LeO.bind ?_ (fun _ => ?_))
      | exact ih0 _ _ _ _
      | exact impl_PairsValid.mono _ _
      | exact impl_allPairs.mono _ _
      | exact LeO.none _
      | refine LeO.ite ?_ ?_
      | refine LeO.bind ?_ (fun _ => ?_)
set_option maxHeartbeats 8000000 in
set_option maxRecDepth 100000 in
theorem impl_PagesValid.calls (k : Nat) (A0 : Option Addr) (c0 : Nat) (l0 : List (S64)) (r : Bool) (w : World) (hr0 : Kd.C k64 w A0 l0.length l0) (hc0 : l0.length ≤ c0) (h : impl_PagesValid.f k l0 = some r) :
    Calls Try.prog 28 #[.slice A0 l0.length c0] w fun e w' => e = .returned (.bool r) ∧ Below w.heap.size w w' := by
  have hu64 := Try.underlying64
  have HR0 := Aside0.mk hr0
  have HC0 := Aside0.mk hc0
  clear hr0 hc0
  have HB := Aside0.mk (Below.refl w.heap.size w)
  have H : (if (l0.length : Int) > 48 then (some false) else (impl_PagesValid.l0 k l0 l0 (l0.length : Int) 0)) = some r := h
  clear h
  by_cases c2 : (l0.length : Int) > 48
  · rw [if_pos c2] at H
    have c2b0 : decide (48 < (l0.length : Int)) = true := decide_eq_true c2
    have c2b1 : decide (48 < l0.length) = true := decide_eq_true (by omega)
    clear c2
    obtain rfl := Option.some.inj H
    go_enter Try.func28, Try.ntmps28
    go_wp2
    go_ret
    exact ⟨by first | rfl | (simp only [u8_w_, w64_u8_]; done) | (simp only [u8_w_, w64_u8_]; rfl) | (simp [errW_none, errW_some] <;> rfl) | (simp [*, errW_none, errW_some] <;> rfl), by repeat (first | (with_reducible first | exact HB.out | apply below_alloc | apply pw_below_drewN | apply below_drew1) | exact HB.out)⟩
  · rw [if_neg c2] at H
    have c2b0 : decide (48 < (l0.length : Int)) = false := decide_eq_false c2
    have c2b1 : decide (48 < l0.length) = false := decide_eq_false (by omega)
    clear c2
    have H' := Aside0.mk H
    clear H
    go_enter Try.func28, Try.ntmps28
    go_wp2
    go_loopg [11] k (fun kq v11 w' => ∃ (x11_1 : Int), v11 = .int .i64 x11_1 ∧ Aside0 (impl_PagesValid.l0 kq l0 l0 (l0.length : Int) x11_1 = some r) ∧ Aside0 (kq ≤ k) ∧ Aside0 (Below w.heap.size w w'))
    case atStart => exact ⟨(0), (by first | rfl | (simp; done) | (simp [bne]; done) | (simp [*]; done)), H', ⟨Nat.le_refl _⟩, ⟨by repeat (first | (with_reducible first | exact HB.out | apply below_alloc | apply pw_below_drewN | apply below_drew1) | exact HB.out)⟩⟩
    case round =>
      clear H'
      try clear c2
      try clear c2b0
      try clear c2b1
      try clear p2
      obtain ⟨x11_1, rfl, HA, HK1, HB⟩ := hrel
      cases gk with
      | zero => exact absurd HA.out (by simp [impl_PagesValid.l0])
      | succ k1 =>
        have H := HA.out
        clear HA
        simp only [impl_PagesValid.l0] at H
        by_cases c3 : x11_1 < (l0.length : Int)
        · rw [if_pos c3] at H
          have c3b0 : decide (x11_1 < (l0.length : Int)) = true := decide_eq_true c3
          clear c3
          by_cases c4 : 0 ≤ x11_1
          · rw [if_pos c4] at H
            have c4b0 : decide (0 ≤ x11_1) = true := decide_eq_true c4
            clear c4
            by_cases c5 : x11_1 < (l0.length : Int)
            · rw [if_pos c5] at H
              have c5b0 : decide (x11_1 < (l0.length : Int)) = true := decide_eq_true c5
              clear c5
              by_cases c6 : (l0.length : Int) = 1
              · rw [if_pos c6] at H
                have c6b0 : ((l0.length : Int) == 1) = true := beq_iff_eq.mpr c6
                have c6b1 : ((l0.length : Int) != 1) = false := bne_eq_false_iff_eq.mpr c6
                clear c6
                by_cases c7 : (((rd_T64 l0 x11_1).f0).length : Int) < 1
                · rw [if_pos c7] at H
                  have c7b0 : decide ((((rd_T64 l0 x11_1).f0).length : Int) < 1) = true := decide_eq_true c7
                  have c7b1 : decide (((rd_T64 l0 x11_1).f0).length < 1) = true := decide_eq_true (by omega)
                  clear c7
                  obtain rfl := Option.some.inj H
                  have p183 : 0 ≤ (x11_1 : Int) := of_decide_eq_true (by first | (with_reducible assumption) | assumption)
                  have q183 : x11_1 < (l0.length : Int) := of_decide_eq_true (by first | (with_reducible assumption) | assumption)
                  obtain ⟨ad183, A183_0, c183_0, e183, hx183_0, hl183_0, hi183_0⟩ := at_T64 HR0.out x11_1 p183 q183
                  cases e183
                  replace hx183_0 := (HB.out.cell (World.block_lt_of_cell? w _ hx183_0)).trans hx183_0
                  have HR183_0 := Aside0.mk hi183_0
                  have HC183_0 := Aside0.mk hl183_0
                  clear hi183_0 hl183_0
                  replace p183 := eq_true p183
                  replace q183 := eq_true q183
                  go_wp2_with (first | ((with_reducible refine gate_dst (N := 4) rfl ?_); (try (refine gate_guard (by rfl) ?_; dsimp only)); refine box_event ?hg (N := 4) ?hd (cs := #[.slice none 0 0]) (t := 64) ?hr ?_; (case hd => rfl); (case hg => rfl); (case hr => first | (go_simp; done) | (go_simp; rfl)); intro gb184 hg w8 hbox hb; have n0_ := Aside0.mk (below_step (by repeat (first | (with_reducible first | exact HB.out | apply below_alloc | apply pw_below_drewN | apply below_drew1) | exact HB.out)) hb); have n1_ := Aside0.mk (hbox); have n2_ := Aside0.mk ((by rw [hg]; exact (below_size (by repeat (first | (with_reducible first | exact HB.out | apply below_alloc | apply pw_below_drewN | apply below_drew1) | exact HB.out))) : w.heap.size ≤ gb184)); have n3_ := Aside0.mk ((by rw [hg]; exact (below_size (by repeat (first | (with_reducible first | exact HB.out | apply below_alloc | apply pw_below_drewN | apply below_drew1) | exact HB.out))) : w.heap.size ≤ gb184)); clear HB; have HB := n0_; have BK184 := n1_; have GW184 := n2_; have GE184 := n3_; clear n0_ n1_ n2_ n3_; clear hb hbox hg; have hcz9_0 : w8.cell? ⟨gb184, 0, none⟩ = some (.slice none 0 0) := (blk_cell BK184.out 0).trans rfl; have hfz9_0 := blk_frozen BK184.out 0))
                  go_ret
                  exact ⟨by first | rfl | (simp only [u8_w_, w64_u8_]; done) | (simp only [u8_w_, w64_u8_]; rfl) | (simp [errW_none, errW_some] <;> rfl) | (simp [*, errW_none, errW_some] <;> rfl), by repeat (first | (with_reducible first | exact HB.out | apply below_alloc | apply pw_below_drewN | apply below_drew1 | refine below_set ?_ GE184.out) | exact HB.out)⟩
                · rw [if_neg c7] at H
                  have c7b0 : decide ((((rd_T64 l0 x11_1).f0).length : Int) < 1) = false := decide_eq_false c7
                  have c7b1 : decide (((rd_T64 l0 x11_1).f0).length < 1) = false := decide_eq_false (by omega)
                  clear c7
                  by_cases c10 : (((rd_T64 l0 x11_1).f0).length : Int) > 4
                  · rw [if_pos c10] at H
                    have c10b0 : decide (4 < (((rd_T64 l0 x11_1).f0).length : Int)) = true := decide_eq_true c10
                    have c10b1 : decide (4 < ((rd_T64 l0 x11_1).f0).length) = true := decide_eq_true (by omega)
                    clear c10
                    obtain rfl := Option.some.inj H
                    have p183 : 0 ≤ (x11_1 : Int) := of_decide_eq_true (by first | (with_reducible assumption) | assumption)
                    have q183 : x11_1 < (l0.length : Int) := of_decide_eq_true (by first | (with_reducible assumption) | assumption)
                    obtain ⟨ad183, A183_0, c183_0, e183, hx183_0, hl183_0, hi183_0⟩ := at_T64 HR0.out x11_1 p183 q183
                    cases e183
                    replace hx183_0 := (HB.out.cell (World.block_lt_of_cell? w _ hx183_0)).trans hx183_0
                    have HR183_0 := Aside0.mk hi183_0
                    have HC183_0 := Aside0.mk hl183_0
                    clear hi183_0 hl183_0
                    replace p183 := eq_true p183
                    replace q183 := eq_true q183
                    go_wp2_with (first | ((with_reducible refine gate_dst (N := 4) rfl ?_); (try (refine gate_guard (by rfl) ?_; dsimp only)); refine box_event ?hg (N := 4) ?hd (cs := #[.slice none 0 0]) (t := 64) ?hr ?_; (case hd => rfl); (case hg => rfl); (case hr => first | (go_simp; done) | (go_simp; rfl)); intro gb184 hg w11 hbox hb; have n0_ := Aside0.mk (below_step (by repeat (first | (with_reducible first | exact HB.out | apply below_alloc | apply pw_below_drewN | apply below_drew1) | exact HB.out)) hb); have n1_ := Aside0.mk (hbox); have n2_ := Aside0.mk ((by rw [hg]; exact (below_size (by repeat (first | (with_reducible first | exact HB.out | apply below_alloc | apply pw_below_drewN | apply below_drew1) | exact HB.out))) : w.heap.size ≤ gb184)); have n3_ := Aside0.mk ((by rw [hg]; exact (below_size (by repeat (first | (with_reducible first | exact HB.out | apply below_alloc | apply pw_below_drewN | apply below_drew1) | exact HB.out))) : w.heap.size ≤ gb184)); clear HB; have HB := n0_; have BK184 := n1_; have GW184 := n2_; have GE184 := n3_; clear n0_ n1_ n2_ n3_; clear hb hbox hg; have hcz12_0 : w11.cell? ⟨gb184, 0, none⟩ = some (.slice none 0 0) := (blk_cell BK184.out 0).trans rfl; have hfz12_0 := blk_frozen BK184.out 0))
                    go_ret
                    exact ⟨by first | rfl | (simp only [u8_w_, w64_u8_]; done) | (simp only [u8_w_, w64_u8_]; rfl) | (simp [errW_none, errW_some] <;> rfl) | (simp [*, errW_none, errW_some] <;> rfl), by repeat (first | (with_reducible first | exact HB.out | apply below_alloc | apply pw_below_drewN | apply below_drew1 | refine below_set ?_ GE184.out) | exact HB.out)⟩
                  · rw [if_neg c10] at H
                    have c10b0 : decide (4 < (((rd_T64 l0 x11_1).f0).length : Int)) = false := decide_eq_false c10
                    have c10b1 : decide (4 < ((rd_T64 l0 x11_1).f0).length) = false := decide_eq_false (by omega)
                    clear c10
                    have H' := Aside0.mk H
                    clear H
                    have p183 : 0 ≤ (x11_1 : Int) := of_decide_eq_true (by first | (with_reducible assumption) | assumption)
                    have q183 : x11_1 < (l0.length : Int) := of_decide_eq_true (by first | (with_reducible assumption) | assumption)
                    obtain ⟨ad183, A183_0, c183_0, e183, hx183_0, hl183_0, hi183_0⟩ := at_T64 HR0.out x11_1 p183 q183
                    cases e183
                    replace hx183_0 := (HB.out.cell (World.block_lt_of_cell? w _ hx183_0)).trans hx183_0
                    have HR183_0 := Aside0.mk hi183_0
                    have HC183_0 := Aside0.mk hl183_0
                    clear hi183_0 hl183_0
                    replace p183 := eq_true p183
                    replace q183 := eq_true q183
                    go_wp2_with (first | ((with_reducible refine gate_dst (N := 4) rfl ?_); (try (refine gate_guard (by rfl) ?_; dsimp only)); refine box_event ?hg (N := 4) ?hd (cs := #[.slice none 0 0]) (t := 64) ?hr ?_; (case hd => rfl); (case hg => rfl); (case hr => first | (go_simp; done) | (go_simp; rfl)); intro gb184 hg w13 hbox hb; have n0_ := Aside0.mk (below_step (by repeat (first | (with_reducible first | exact HB.out | apply below_alloc | apply pw_below_drewN | apply below_drew1) | exact HB.out)) hb); have n1_ := Aside0.mk (hbox); have n2_ := Aside0.mk ((by rw [hg]; exact (below_size (by repeat (first | (with_reducible first | exact HB.out | apply below_alloc | apply pw_below_drewN | apply below_drew1) | exact HB.out))) : w.heap.size ≤ gb184)); have n3_ := Aside0.mk ((by rw [hg]; exact (below_size (by repeat (first | (with_reducible first | exact HB.out | apply below_alloc | apply pw_below_drewN | apply below_drew1) | exact HB.out))) : w.heap.size ≤ gb184)); clear HB; have HB := n0_; have BK184 := n1_; have GW184 := n2_; have GE184 := n3_; clear n0_ n1_ n2_ n3_; clear hb hbox hg; have hcz14_0 : w13.cell? ⟨gb184, 0, none⟩ = some (.slice none 0 0) := (blk_cell BK184.out 0).trans rfl; have hfz14_0 := blk_frozen BK184.out 0))
                    go_roundg k1
                    case measure => have := HK1.out; omega
                    case rel => exact ⟨(wrap64 (x11_1 + 1)), (by first | rfl | (simp; done) | (simp [bne]; done) | (simp [*]; done)), H', ⟨by have := HK1.out; omega⟩, ⟨by repeat (first | (with_reducible first | exact HB.out | apply below_alloc | apply pw_below_drewN | apply below_drew1 | refine below_set ?_ GE184.out) | exact HB.out)⟩⟩
              · rw [if_neg c6] at H
                have c6b0 : ((l0.length : Int) == 1) = false := beq_eq_false_iff_ne.mpr c6
                have c6b1 : ((l0.length : Int) != 1) = true := bne_iff_ne.mpr c6
                by_cases c15 : (((rd_T64 l0 x11_1).f0).length : Int) < 2
                · rw [if_pos c15] at H
                  have c15b0 : decide ((((rd_T64 l0 x11_1).f0).length : Int) < 2) = true := decide_eq_true c15
                  have c15b1 : decide (((rd_T64 l0 x11_1).f0).length < 2) = true := decide_eq_true (by omega)
                  clear c15
                  obtain rfl := Option.some.inj H
                  have p183 : 0 ≤ (x11_1 : Int) := of_decide_eq_true (by first | (with_reducible assumption) | assumption)
                  have q183 : x11_1 < (l0.length : Int) := of_decide_eq_true (by first | (with_reducible assumption) | assumption)
                  obtain ⟨ad183, A183_0, c183_0, e183, hx183_0, hl183_0, hi183_0⟩ := at_T64 HR0.out x11_1 p183 q183
                  cases e183
                  replace hx183_0 := (HB.out.cell (World.block_lt_of_cell? w _ hx183_0)).trans hx183_0
                  have HR183_0 := Aside0.mk hi183_0
                  have HC183_0 := Aside0.mk hl183_0
                  clear hi183_0 hl183_0
                  replace p183 := eq_true p183
                  replace q183 := eq_true q183
                  go_wp2_with (first | ((with_reducible refine gate_dst (N := 4) rfl ?_); (try (refine gate_guard (by rfl) ?_; dsimp only)); refine box_event ?hg (N := 4) ?hd (cs := #[.slice none 0 0]) (t := 64) ?hr ?_; (case hd => rfl); (case hg => rfl); (case hr => first | (go_simp; done) | (go_simp; rfl)); intro gb184 hg w16 hbox hb; have n0_ := Aside0.mk (below_step (by repeat (first | (with_reducible first | exact HB.out | apply below_alloc | apply pw_below_drewN | apply below_drew1) | exact HB.out)) hb); have n1_ := Aside0.mk (hbox); have n2_ := Aside0.mk ((by rw [hg]; exact (below_size (by repeat (first | (with_reducible first | exact HB.out | apply below_alloc | apply pw_below_drewN | apply below_drew1) | exact HB.out))) : w.heap.size ≤ gb184)); have n3_ := Aside0.mk ((by rw [hg]; exact (below_size (by repeat (first | (with_reducible first | exact HB.out | apply below_alloc | apply pw_below_drewN | apply below_drew1) | exact HB.out))) : w.heap.size ≤ gb184)); clear HB; have HB := n0_; have BK184 := n1_; have GW184 := n2_; have GE184 := n3_; clear n0_ n1_ n2_ n3_; clear hb hbox hg; have hcz17_0 : w16.cell? ⟨gb184, 0, none⟩ = some (.slice none 0 0) := (blk_cell BK184.out 0).trans rfl; have hfz17_0 := blk_frozen BK184.out 0))
                  go_ret
                  exact ⟨by first | rfl | (simp only [u8_w_, w64_u8_]; done) | (simp only [u8_w_, w64_u8_]; rfl) | (simp [errW_none, errW_some] <;> rfl) | (simp [*, errW_none, errW_some] <;> rfl), by repeat (first | (with_reducible first | exact HB.out | apply below_alloc | apply pw_below_drewN | apply below_drew1 | refine below_set ?_ GE184.out) | exact HB.out)⟩
                · rw [if_neg c15] at H
                  have c15b0 : decide ((((rd_T64 l0 x11_1).f0).length : Int) < 2) = false := decide_eq_false c15
                  have c15b1 : decide (((rd_T64 l0 x11_1).f0).length < 2) = false := decide_eq_false (by omega)
                  clear c15
                  by_cases c18 : (((rd_T64 l0 x11_1).f0).length : Int) > 4
                  · rw [if_pos c18] at H
                    have c18b0 : decide (4 < (((rd_T64 l0 x11_1).f0).length : Int)) = true := decide_eq_true c18
                    have c18b1 : decide (4 < ((rd_T64 l0 x11_1).f0).length) = true := decide_eq_true (by omega)
                    clear c18
                    obtain rfl := Option.some.inj H
                    have p183 : 0 ≤ (x11_1 : Int) := of_decide_eq_true (by first | (with_reducible assumption) | assumption)
                    have q183 : x11_1 < (l0.length : Int) := of_decide_eq_true (by first | (with_reducible assumption) | assumption)
                    obtain ⟨ad183, A183_0, c183_0, e183, hx183_0, hl183_0, hi183_0⟩ := at_T64 HR0.out x11_1 p183 q183
                    cases e183
                    replace hx183_0 := (HB.out.cell (World.block_lt_of_cell? w _ hx183_0)).trans hx183_0
                    have HR183_0 := Aside0.mk hi183_0
                    have HC183_0 := Aside0.mk hl183_0
                    clear hi183_0 hl183_0
                    replace p183 := eq_true p183
                    replace q183 := eq_true q183
                    go_wp2_with (first | ((with_reducible refine gate_dst (N := 4) rfl ?_); (try (refine gate_guard (by rfl) ?_; dsimp only)); refine box_event ?hg (N := 4) ?hd (cs := #[.slice none 0 0]) (t := 64) ?hr ?_; (case hd => rfl); (case hg => rfl); (case hr => first | (go_simp; done) | (go_simp; rfl)); intro gb184 hg w19 hbox hb; have n0_ := Aside0.mk (below_step (by repeat (first | (with_reducible first | exact HB.out | apply below_alloc | apply pw_below_drewN | apply below_drew1) | exact HB.out)) hb); have n1_ := Aside0.mk (hbox); have n2_ := Aside0.mk ((by rw [hg]; exact (below_size (by repeat (first | (with_reducible first | exact HB.out | apply below_alloc | apply pw_below_drewN | apply below_drew1) | exact HB.out))) : w.heap.size ≤ gb184)); have n3_ := Aside0.mk ((by rw [hg]; exact (below_size (by repeat (first | (with_reducible first | exact HB.out | apply below_alloc | apply pw_below_drewN | apply below_drew1) | exact HB.out))) : w.heap.size ≤ gb184)); clear HB; have HB := n0_; have BK184 := n1_; have GW184 := n2_; have GE184 := n3_; clear n0_ n1_ n2_ n3_; clear hb hbox hg; have hcz20_0 : w19.cell? ⟨gb184, 0, none⟩ = some (.slice none 0 0) := (blk_cell BK184.out 0).trans rfl; have hfz20_0 := blk_frozen BK184.out 0))
                    go_ret
                    exact ⟨by first | rfl | (simp only [u8_w_, w64_u8_]; done) | (simp only [u8_w_, w64_u8_]; rfl) | (simp [errW_none, errW_some] <;> rfl) | (simp [*, errW_none, errW_some] <;> rfl), by repeat (first | (with_reducible first | exact HB.out | apply below_alloc | apply pw_below_drewN | apply below_drew1 | refine below_set ?_ GE184.out) | exact HB.out)⟩
                  · rw [if_neg c18] at H
                    have c18b0 : decide (4 < (((rd_T64 l0 x11_1).f0).length : Int)) = false := decide_eq_false c18
                    have c18b1 : decide (4 < ((rd_T64 l0 x11_1).f0).length) = false := decide_eq_false (by omega)
                    clear c18
                    have H' := Aside0.mk H
                    clear H
                    have p183 : 0 ≤ (x11_1 : Int) := of_decide_eq_true (by first | (with_reducible assumption) | assumption)
                    have q183 : x11_1 < (l0.length : Int) := of_decide_eq_true (by first | (with_reducible assumption) | assumption)
                    obtain ⟨ad183, A183_0, c183_0, e183, hx183_0, hl183_0, hi183_0⟩ := at_T64 HR0.out x11_1 p183 q183
                    cases e183
                    replace hx183_0 := (HB.out.cell (World.block_lt_of_cell? w _ hx183_0)).trans hx183_0
                    have HR183_0 := Aside0.mk hi183_0
                    have HC183_0 := Aside0.mk hl183_0
                    clear hi183_0 hl183_0
                    replace p183 := eq_true p183
                    replace q183 := eq_true q183
                    go_wp2_with (first | ((with_reducible refine gate_dst (N := 4) rfl ?_); (try (refine gate_guard (by rfl) ?_; dsimp only)); refine box_event ?hg (N := 4) ?hd (cs := #[.slice none 0 0]) (t := 64) ?hr ?_; (case hd => rfl); (case hg => rfl); (case hr => first | (go_simp; done) | (go_simp; rfl)); intro gb184 hg w21 hbox hb; have n0_ := Aside0.mk (below_step (by repeat (first | (with_reducible first | exact HB.out | apply below_alloc | apply pw_below_drewN | apply below_drew1) | exact HB.out)) hb); have n1_ := Aside0.mk (hbox); have n2_ := Aside0.mk ((by rw [hg]; exact (below_size (by repeat (first | (with_reducible first | exact HB.out | apply below_alloc | apply pw_below_drewN | apply below_drew1) | exact HB.out))) : w.heap.size ≤ gb184)); have n3_ := Aside0.mk ((by rw [hg]; exact (below_size (by repeat (first | (with_reducible first | exact HB.out | apply below_alloc | apply pw_below_drewN | apply below_drew1) | exact HB.out))) : w.heap.size ≤ gb184)); clear HB; have HB := n0_; have BK184 := n1_; have GW184 := n2_; have GE184 := n3_; clear n0_ n1_ n2_ n3_; clear hb hbox hg; have hcz22_0 : w21.cell? ⟨gb184, 0, none⟩ = some (.slice none 0 0) := (blk_cell BK184.out 0).trans rfl; have hfz22_0 := blk_frozen BK184.out 0))
                    go_roundg k1
                    case measure => have := HK1.out; omega
                    case rel => exact ⟨(wrap64 (x11_1 + 1)), (by first | rfl | (simp; done) | (simp [bne]; done) | (simp [*]; done)), H', ⟨by have := HK1.out; omega⟩, ⟨by repeat (first | (with_reducible first | exact HB.out | apply below_alloc | apply pw_below_drewN | apply below_drew1 | refine below_set ?_ GE184.out) | exact HB.out)⟩⟩
            · rw [if_neg c5] at H
              exact absurd H (by simp)
          · rw [if_neg c4] at H
            exact absurd H (by simp)
        · rw [if_neg c3] at H
          have c3b0 : decide (x11_1 < (l0.length : Int)) = false := decide_eq_false c3
          clear c3
          replace H := Option.bind_eq_some_iff.mp H
          obtain ⟨t179, A230, H⟩ := H
          replace H : ((impl_PairsValid.f k1 t179).bind fun t182 => (some t182)) = some r := H
          have A23 := Aside0.mk A230
          clear A230
          replace H := Option.bind_eq_some_iff.mp H
          obtain ⟨t182, A240, H⟩ := H
          replace H : (some t182) = some r := H
          have A24 := Aside0.mk A240
          clear A240
          obtain rfl := Option.some.inj H
          go_wp2_with (first | ((with_reducible refine gate_callee (f := 72) rfl ?_); refine goesL_ (some 31) rfl rfl Try.func72 (by kernel_rfl) rfl #[.slice A0 l0.length c0] rfl (by (try simp only [List.map_toArray, List.map_cons, List.map_nil]); first | done | rfl | (simp only [List.length_drop, List.length_take]; rfl)) ?_; (with_reducible refine (impl_allPairs.calls k1 _ _ l0 t179 _ ?side1 ?side2 A23.out).mono ?_); (case side1 => repeat (first | exact (Kd.C_below HR0.out HB.out) | (with_reducible refine Kd.C_alloc ?_ _) | (with_reducible refine Kd.C_drewN ?_ _) | (with_reducible refine Kd.C_drew ?_))); (case side2 => exact HC0.out); rintro e w25 ⟨v180, rfl, ho0, hb⟩; refine ⟨_, rfl, ?_⟩; have n0_ := Aside0.mk (Kd.R_lower ho0 (below_size (by repeat (first | (with_reducible first | exact HB.out | apply below_alloc | apply pw_below_drewN | apply below_drew1) | exact HB.out)))); have n1_ := Aside0.mk (below_step (by repeat (first | (with_reducible first | exact HB.out | apply below_alloc | apply pw_below_drewN | apply below_drew1) | exact HB.out)) hb); clear HB; have HO181 := n0_; have HB := n1_; clear n0_ n1_; (try clear hb); (try clear hb2); (try clear hk); (try clear hi); (try clear ho0); obtain ⟨Ao26, co26, eo26⟩ := Kd.R_slice HO181.out; subst eo26) | ((with_reducible refine gate_callee (f := 26) rfl ?_); refine goesL_ (some 32) rfl rfl Try.func26 (by kernel_rfl) rfl #[.slice Ao26 t179.length co26] rfl (by (try simp only [List.map_toArray, List.map_cons, List.map_nil]); first | done | rfl | (simp only [List.length_drop, List.length_take]; rfl)) ?_; (with_reducible refine (impl_PairsValid.calls k1 _ _ t179 t182 _ ?side1 ?side2 A24.out).mono ?_); (case side1 => repeat (first | exact (Kd.R_reads' HO181.out).2.2 | (with_reducible refine Kd.C_alloc ?_ _) | (with_reducible refine Kd.C_drewN ?_ _) | (with_reducible refine Kd.C_drew ?_))); (case side2 => exact (Kd.R_reads' HO181.out).2.1); rintro e w27 ⟨rfl, hb⟩; refine ⟨_, rfl, ?_⟩; have n0_ := Aside0.mk (Kd.R_below (by (with_reducible repeat (first | apply Kd.R_alloc | apply Kd.R_drewN | apply Kd.R_drew)); exact HO181.out) hb); have n1_ := Aside0.mk (below_step (by repeat (first | (with_reducible first | exact HB.out | apply below_alloc | apply pw_below_drewN | apply below_drew1) | exact HB.out)) hb); clear HO181; clear HB; have HO181 := n0_; have HB := n1_; clear n0_ n1_; (try clear hb); (try clear hb2); (try clear hk); (try clear hi)))
          go_ret
          exact ⟨by first | rfl | (simp only [u8_w_, w64_u8_]; done) | (simp only [u8_w_, w64_u8_]; rfl) | (simp [errW_none, errW_some] <;> rfl) | (simp [*, errW_none, errW_some] <;> rfl), by repeat (first | (with_reducible first | exact HB.out | apply below_alloc | apply pw_below_drewN | apply below_drew1) | exact HB.out)⟩

/-! ### impl_pageOf: function 77 -/
def impl_pageOf.l0 : Nat → ByteArray → Int → List (S64) → Int → Int → Option (Int)
  | 0, _, _, _, _, _ => none
  | k + 1, x1, x5, x8, x9, x10 => if x10 < x9 then (if 0 ≤ x10 then (if x10 < (x8.length : Int) then (if 0 < (((rd_T64 x8 x10).f0).length : Int) then (if (Op.bytesLess (((rd_T71 ((rd_T64 x8 x10).f0) 0).f0).toList) x1.toList) = true then (impl_pageOf.l0 k x1 x10 x8 x9 (wrap64 (x10 + 1))) else (if ((rd_T71 ((rd_T64 x8 x10).f0) 0).f0).toList = x1.toList then (impl_pageOf.l0 k x1 x10 x8 x9 (wrap64 (x10 + 1))) else (impl_pageOf.l0 k x1 x5 x8 x9 (wrap64 (x10 + 1))))) else (none)) else (none)) else (none)) else (some x5)
def impl_pageOf.f (k : Nat) (l0 : List (S64)) (a1 : ByteArray) : Option (Int) := impl_pageOf.l0 k a1 0 l0 (l0.length : Int) 0
theorem impl_pageOf.mono_l : ∀ k, (∀ y0 y1 y2 y3 y4, LeO (impl_pageOf.l0 k y0 y1 y2 y3 y4) (impl_pageOf.l0 (k + 1) y0 y1 y2 y3 y4))
  | 0 => fun _ _ _ _ _ r h => by simp [impl_pageOf.l0] at h
  | k + 1 => by
    have ih0 := impl_pageOf.mono_l k
    · intro y0 y1 y2 y3 y4
      unfold impl_pageOf.l0
      repeat' first
      | (with_reducible exact ih0 _ _ _ _ _)
      | (with_reducible exact LeO.refl _)
      | (with_reducible exact LeO.none _)
      | (with_reducible refine LeO.ite ?_ ?_)
      | (with_reducible refine LeO.bind ?_ (fun _ => ?_))
      | exact ih0 _ _ _ _ _
      | exact LeO.none _
      | refine LeO.ite ?_ ?_
      | refine LeO.bind ?_ (fun _ => ?_)
theorem impl_pageOf.mono : ∀ a0 a1 k, LeO (impl_pageOf.f k a0 a1) (impl_pageOf.f (k + 1) a0 a1) := by
  intro a0 a1 k
  have ih0 := impl_pageOf.mono_l k
  unfold impl_pageOf.f
  repeat' first
      | (with_reducible exact ih0 _ _ _ _ _)
      | (with_reducible exact LeO.refl _)
      | (with_reducible exact LeO.none _)
      | (with_reducible refine LeO.ite ?_ ?_)
      | (with_reducible refine LeO.bind ?_ (fun _ => ?_))
      | exact ih0 _ _ _ _ _
      | exact LeO.none _
      | refine LeO.ite ?_ ?_
      | refine LeO.bind ?_ (fun _ => ?_)
set_option maxHeartbeats 8000000 in
set_option maxRecDepth 100000 in
theorem impl_pageOf.calls (k : Nat) (A0 : Option Addr) (c0 : Nat) (l0 : List (S64)) (a1 : ByteArray) (r : Int) (w : World) (hr0 : Kd.C k64 w A0 l0.length l0) (hc0 : l0.length ≤ c0) (h : impl_pageOf.f k l0 a1 = some r) :
    Calls Try.prog 77 #[.slice A0 l0.length c0, .string a1] w fun e w' => e = .returned (.int .i64 r) ∧ Below w.heap.size w w' := by
  have hu64 := Try.underlying64
  have HR0 := Aside0.mk hr0
  have HC0 := Aside0.mk hc0
  clear hr0 hc0
  have HB := Aside0.mk (Below.refl w.heap.size w)
  have H : (impl_pageOf.l0 k a1 0 l0 (l0.length : Int) 0) = some r := h
  clear h
  have H' := Aside0.mk H
  clear H
  go_enter Try.func77, Try.ntmps77
  go_wp2
  go_loopg [5, 10] k (fun kq v5 v10 w' => ∃ (x5_1 : Int) (x10_1 : Int), v5 = .int .i64 x5_1 ∧ v10 = .int .i64 x10_1 ∧ Aside0 (impl_pageOf.l0 kq a1 x5_1 l0 (l0.length : Int) x10_1 = some r) ∧ Aside0 (kq ≤ k) ∧ Aside0 (Below w.heap.size w w'))
  case atStart => exact ⟨(0), (0), (by first | rfl | (simp; done) | (simp [bne]; done) | (simp [*]; done)), (by first | rfl | (simp; done) | (simp [bne]; done) | (simp [*]; done)), H', ⟨Nat.le_refl _⟩, ⟨by repeat (first | (with_reducible first | exact HB.out | apply below_alloc | apply pw_below_drewN | apply below_drew1) | exact HB.out)⟩⟩
  case round =>
    clear H'
    try clear p2
    obtain ⟨x5_1, x10_1, rfl, rfl, HA, HK1, HB⟩ := hrel
    cases gk with
    | zero => exact absurd HA.out (by simp [impl_pageOf.l0])
    | succ k1 =>
      have H := HA.out
      clear HA
      simp only [impl_pageOf.l0] at H
      by_cases c3 : x10_1 < (l0.length : Int)
      · rw [if_pos c3] at H
        have c3b0 : decide (x10_1 < (l0.length : Int)) = true := decide_eq_true c3
        clear c3
        by_cases c4 : 0 ≤ x10_1
        · rw [if_pos c4] at H
          have c4b0 : decide (0 ≤ x10_1) = true := decide_eq_true c4
          clear c4
          by_cases c5 : x10_1 < (l0.length : Int)
          · rw [if_pos c5] at H
            have c5b0 : decide (x10_1 < (l0.length : Int)) = true := decide_eq_true c5
            clear c5
            by_cases c6 : 0 < (((rd_T64 l0 x10_1).f0).length : Int)
            · rw [if_pos c6] at H
              have c6b0 : decide (0 < (((rd_T64 l0 x10_1).f0).length : Int)) = true := decide_eq_true c6
              have c6b1 : decide (0 < ((rd_T64 l0 x10_1).f0).length) = true := decide_eq_true (by omega)
              clear c6
              by_cases c7 : (Op.bytesLess (((rd_T71 ((rd_T64 l0 x10_1).f0) 0).f0).toList) a1.toList) = true
              · rw [if_pos c7] at H
                have c7b0 : (Op.bytesLess (((rd_T71 ((rd_T64 l0 x10_1).f0) 0).f0).toList) a1.toList) = true := c7
                clear c7
                have H' := Aside0.mk H
                clear H
                have p185 : 0 ≤ (x10_1 : Int) := of_decide_eq_true (by first | (with_reducible assumption) | assumption)
                have q185 : x10_1 < (l0.length : Int) := of_decide_eq_true (by first | (with_reducible assumption) | assumption)
                obtain ⟨ad185, A185_0, c185_0, e185, hx185_0, hl185_0, hi185_0⟩ := at_T64 HR0.out x10_1 p185 q185
                cases e185
                replace hx185_0 := (HB.out.cell (World.block_lt_of_cell? w _ hx185_0)).trans hx185_0
                have HR185_0 := Aside0.mk hi185_0
                have HC185_0 := Aside0.mk hl185_0
                clear hi185_0 hl185_0
                replace p185 := eq_true p185
                replace q185 := eq_true q185
                go_wp2_with (first | ((with_reducible refine gate_dst (N := 7) rfl ?_); refine box_event ?hg (N := 7) ?hd (cs := #[.slice none 0 0]) (t := 64) ?hr ?_; (case hd => rfl); (case hg => rfl); (case hr => first | (go_simp; done) | (go_simp; rfl)); intro gb186 hg w8 hbox hb; have n0_ := Aside0.mk (below_step (by repeat (first | (with_reducible first | exact HB.out | apply below_alloc | apply pw_below_drewN | apply below_drew1) | exact HB.out)) hb); have n1_ := Aside0.mk (hbox); have n2_ := Aside0.mk ((by rw [hg]; exact (below_size (by repeat (first | (with_reducible first | exact HB.out | apply below_alloc | apply pw_below_drewN | apply below_drew1) | exact HB.out))) : w.heap.size ≤ gb186)); have n3_ := Aside0.mk ((by rw [hg]; exact (below_size (by repeat (first | (with_reducible first | exact HB.out | apply below_alloc | apply pw_below_drewN | apply below_drew1) | exact HB.out))) : w.heap.size ≤ gb186)); clear HB; have HB := n0_; have BK186 := n1_; have GW186 := n2_; have GE186 := n3_; clear n0_ n1_ n2_ n3_; clear hb hbox hg; have hcz9_0 : w8.cell? ⟨gb186, 0, none⟩ = some (.slice none 0 0) := (blk_cell BK186.out 0).trans rfl; have hfz9_0 := blk_frozen BK186.out 0; have p187 : 0 ≤ (0 : Int) := (by omega); have q187 : 0 < (((rd_T64 l0 x10_1).f0).length : Int) := of_decide_eq_true (by first | (with_reducible assumption) | assumption); obtain ⟨ad187, e187, hx187_0, hx187_1⟩ := at_T71 HR185_0.out 0 p187 q187; cases e187; have qi187 : (0 < ((rd_T64 l0 x10_1).f0).length) = True := eq_true (by omega); (try rw [show ((0 : Int)).toNat = 0 from rfl] at hx187_0); (try rw [show 0 * 2 = 0 from rfl] at hx187_0); (try rw [Addr.add_zero'] at hx187_0); (try rw [show ((0 : Int)).toNat = 0 from rfl] at hx187_1); (try rw [show 0 * 2 = 0 from rfl] at hx187_1); (try rw [Addr.add_zero'] at hx187_1); have hn187_0 : ad187.block ≠ gb186 := Nat.ne_of_lt (Nat.lt_of_lt_of_le (by have := World.block_lt_of_cell? _ _ hx187_0; first | rwa [add_block] at this | exact this) GW186.out); replace hx187_0 := (HB.out.cell (World.block_lt_of_cell? w _ hx187_0)).trans hx187_0; replace hx187_1 := (HB.out.cell (World.block_lt_of_cell? w _ hx187_1)).trans hx187_1; replace hx187_0 := (cell_far (p := ⟨gb186, 0, none⟩) (by first | (rw [add_block]; exact hn187_0) | (show (Addr.add _ _).block ≠ _; rw [add_block]; exact hn187_0) | exact hn187_0) (.slice (some ad187) ((rd_T64 l0 x10_1).f0).length c185_0)).trans hx187_0; replace hx187_1 := (cell_far (p := ⟨gb186, 0, none⟩) (by first | (rw [add_block]; exact hn187_0) | (show (Addr.add _ _).block ≠ _; rw [add_block]; exact hn187_0) | exact hn187_0) (.slice (some ad187) ((rd_T64 l0 x10_1).f0).length c185_0)).trans hx187_1; clear hn187_0; replace p187 := eq_true p187; replace q187 := eq_true q187))
                go_roundg k1
                case measure => have := HK1.out; omega
                case rel => exact ⟨(x10_1), (wrap64 (x10_1 + 1)), (by first | rfl | (simp; done) | (simp [bne]; done) | (simp [*]; done)), (by first | rfl | (simp; done) | (simp [bne]; done) | (simp [*]; done)), H', ⟨by have := HK1.out; omega⟩, ⟨by repeat (first | (with_reducible first | exact HB.out | apply below_alloc | apply pw_below_drewN | apply below_drew1 | refine below_set ?_ GE186.out) | exact HB.out)⟩⟩
              · rw [if_neg c7] at H
                have c7b0 : (Op.bytesLess (((rd_T71 ((rd_T64 l0 x10_1).f0) 0).f0).toList) a1.toList) = false := by simpa using c7
                clear c7
                by_cases c10 : ((rd_T71 ((rd_T64 l0 x10_1).f0) 0).f0).toList = a1.toList
                · rw [if_pos c10] at H
                  have c10b0 : (((rd_T71 ((rd_T64 l0 x10_1).f0) 0).f0).toList == a1.toList) = true := beq_iff_eq.mpr c10
                  have c10b1 : (((rd_T71 ((rd_T64 l0 x10_1).f0) 0).f0).toList != a1.toList) = false := bne_eq_false_iff_eq.mpr c10
                  clear c10
                  have H' := Aside0.mk H
                  clear H
                  have p185 : 0 ≤ (x10_1 : Int) := of_decide_eq_true (by first | (with_reducible assumption) | assumption)
                  have q185 : x10_1 < (l0.length : Int) := of_decide_eq_true (by first | (with_reducible assumption) | assumption)
                  obtain ⟨ad185, A185_0, c185_0, e185, hx185_0, hl185_0, hi185_0⟩ := at_T64 HR0.out x10_1 p185 q185
                  cases e185
                  replace hx185_0 := (HB.out.cell (World.block_lt_of_cell? w _ hx185_0)).trans hx185_0
                  have HR185_0 := Aside0.mk hi185_0
                  have HC185_0 := Aside0.mk hl185_0
                  clear hi185_0 hl185_0
                  replace p185 := eq_true p185
                  replace q185 := eq_true q185
                  go_wp2_with (first | ((with_reducible refine gate_dst (N := 7) rfl ?_); refine box_event ?hg (N := 7) ?hd (cs := #[.slice none 0 0]) (t := 64) ?hr ?_; (case hd => rfl); (case hg => rfl); (case hr => first | (go_simp; done) | (go_simp; rfl)); intro gb186 hg w11 hbox hb; have n0_ := Aside0.mk (below_step (by repeat (first | (with_reducible first | exact HB.out | apply below_alloc | apply pw_below_drewN | apply below_drew1) | exact HB.out)) hb); have n1_ := Aside0.mk (hbox); have n2_ := Aside0.mk ((by rw [hg]; exact (below_size (by repeat (first | (with_reducible first | exact HB.out | apply below_alloc | apply pw_below_drewN | apply below_drew1) | exact HB.out))) : w.heap.size ≤ gb186)); have n3_ := Aside0.mk ((by rw [hg]; exact (below_size (by repeat (first | (with_reducible first | exact HB.out | apply below_alloc | apply pw_below_drewN | apply below_drew1) | exact HB.out))) : w.heap.size ≤ gb186)); clear HB; have HB := n0_; have BK186 := n1_; have GW186 := n2_; have GE186 := n3_; clear n0_ n1_ n2_ n3_; clear hb hbox hg; have hcz12_0 : w11.cell? ⟨gb186, 0, none⟩ = some (.slice none 0 0) := (blk_cell BK186.out 0).trans rfl; have hfz12_0 := blk_frozen BK186.out 0; have p187 : 0 ≤ (0 : Int) := (by omega); have q187 : 0 < (((rd_T64 l0 x10_1).f0).length : Int) := of_decide_eq_true (by first | (with_reducible assumption) | assumption); obtain ⟨ad187, e187, hx187_0, hx187_1⟩ := at_T71 HR185_0.out 0 p187 q187; cases e187; have qi187 : (0 < ((rd_T64 l0 x10_1).f0).length) = True := eq_true (by omega); (try rw [show ((0 : Int)).toNat = 0 from rfl] at hx187_0); (try rw [show 0 * 2 = 0 from rfl] at hx187_0); (try rw [Addr.add_zero'] at hx187_0); (try rw [show ((0 : Int)).toNat = 0 from rfl] at hx187_1); (try rw [show 0 * 2 = 0 from rfl] at hx187_1); (try rw [Addr.add_zero'] at hx187_1); have hn187_0 : ad187.block ≠ gb186 := Nat.ne_of_lt (Nat.lt_of_lt_of_le (by have := World.block_lt_of_cell? _ _ hx187_0; first | rwa [add_block] at this | exact this) GW186.out); replace hx187_0 := (HB.out.cell (World.block_lt_of_cell? w _ hx187_0)).trans hx187_0; replace hx187_1 := (HB.out.cell (World.block_lt_of_cell? w _ hx187_1)).trans hx187_1; replace hx187_0 := (cell_far (p := ⟨gb186, 0, none⟩) (by first | (rw [add_block]; exact hn187_0) | (show (Addr.add _ _).block ≠ _; rw [add_block]; exact hn187_0) | exact hn187_0) (.slice (some ad187) ((rd_T64 l0 x10_1).f0).length c185_0)).trans hx187_0; replace hx187_1 := (cell_far (p := ⟨gb186, 0, none⟩) (by first | (rw [add_block]; exact hn187_0) | (show (Addr.add _ _).block ≠ _; rw [add_block]; exact hn187_0) | exact hn187_0) (.slice (some ad187) ((rd_T64 l0 x10_1).f0).length c185_0)).trans hx187_1; clear hn187_0; replace p187 := eq_true p187; replace q187 := eq_true q187))
                  go_roundg k1
                  case measure => have := HK1.out; omega
                  case rel => exact ⟨(x10_1), (wrap64 (x10_1 + 1)), (by first | rfl | (simp; done) | (simp [bne]; done) | (simp [*]; done)), (by first | rfl | (simp; done) | (simp [bne]; done) | (simp [*]; done)), H', ⟨by have := HK1.out; omega⟩, ⟨by repeat (first | (with_reducible first | exact HB.out | apply below_alloc | apply pw_below_drewN | apply below_drew1 | refine below_set ?_ GE186.out) | exact HB.out)⟩⟩
                · rw [if_neg c10] at H
                  have c10b0 : (((rd_T71 ((rd_T64 l0 x10_1).f0) 0).f0).toList == a1.toList) = false := beq_eq_false_iff_ne.mpr c10
                  have c10b1 : (((rd_T71 ((rd_T64 l0 x10_1).f0) 0).f0).toList != a1.toList) = true := bne_iff_ne.mpr c10
                  have H' := Aside0.mk H
                  clear H
                  have p185 : 0 ≤ (x10_1 : Int) := of_decide_eq_true (by first | (with_reducible assumption) | assumption)
                  have q185 : x10_1 < (l0.length : Int) := of_decide_eq_true (by first | (with_reducible assumption) | assumption)
                  obtain ⟨ad185, A185_0, c185_0, e185, hx185_0, hl185_0, hi185_0⟩ := at_T64 HR0.out x10_1 p185 q185
                  cases e185
                  replace hx185_0 := (HB.out.cell (World.block_lt_of_cell? w _ hx185_0)).trans hx185_0
                  have HR185_0 := Aside0.mk hi185_0
                  have HC185_0 := Aside0.mk hl185_0
                  clear hi185_0 hl185_0
                  replace p185 := eq_true p185
                  replace q185 := eq_true q185
                  go_wp2_with (first | ((with_reducible refine gate_dst (N := 7) rfl ?_); refine box_event ?hg (N := 7) ?hd (cs := #[.slice none 0 0]) (t := 64) ?hr ?_; (case hd => rfl); (case hg => rfl); (case hr => first | (go_simp; done) | (go_simp; rfl)); intro gb186 hg w13 hbox hb; have n0_ := Aside0.mk (below_step (by repeat (first | (with_reducible first | exact HB.out | apply below_alloc | apply pw_below_drewN | apply below_drew1) | exact HB.out)) hb); have n1_ := Aside0.mk (hbox); have n2_ := Aside0.mk ((by rw [hg]; exact (below_size (by repeat (first | (with_reducible first | exact HB.out | apply below_alloc | apply pw_below_drewN | apply below_drew1) | exact HB.out))) : w.heap.size ≤ gb186)); have n3_ := Aside0.mk ((by rw [hg]; exact (below_size (by repeat (first | (with_reducible first | exact HB.out | apply below_alloc | apply pw_below_drewN | apply below_drew1) | exact HB.out))) : w.heap.size ≤ gb186)); clear HB; have HB := n0_; have BK186 := n1_; have GW186 := n2_; have GE186 := n3_; clear n0_ n1_ n2_ n3_; clear hb hbox hg; have hcz14_0 : w13.cell? ⟨gb186, 0, none⟩ = some (.slice none 0 0) := (blk_cell BK186.out 0).trans rfl; have hfz14_0 := blk_frozen BK186.out 0; have p187 : 0 ≤ (0 : Int) := (by omega); have q187 : 0 < (((rd_T64 l0 x10_1).f0).length : Int) := of_decide_eq_true (by first | (with_reducible assumption) | assumption); obtain ⟨ad187, e187, hx187_0, hx187_1⟩ := at_T71 HR185_0.out 0 p187 q187; cases e187; have qi187 : (0 < ((rd_T64 l0 x10_1).f0).length) = True := eq_true (by omega); (try rw [show ((0 : Int)).toNat = 0 from rfl] at hx187_0); (try rw [show 0 * 2 = 0 from rfl] at hx187_0); (try rw [Addr.add_zero'] at hx187_0); (try rw [show ((0 : Int)).toNat = 0 from rfl] at hx187_1); (try rw [show 0 * 2 = 0 from rfl] at hx187_1); (try rw [Addr.add_zero'] at hx187_1); have hn187_0 : ad187.block ≠ gb186 := Nat.ne_of_lt (Nat.lt_of_lt_of_le (by have := World.block_lt_of_cell? _ _ hx187_0; first | rwa [add_block] at this | exact this) GW186.out); replace hx187_0 := (HB.out.cell (World.block_lt_of_cell? w _ hx187_0)).trans hx187_0; replace hx187_1 := (HB.out.cell (World.block_lt_of_cell? w _ hx187_1)).trans hx187_1; replace hx187_0 := (cell_far (p := ⟨gb186, 0, none⟩) (by first | (rw [add_block]; exact hn187_0) | (show (Addr.add _ _).block ≠ _; rw [add_block]; exact hn187_0) | exact hn187_0) (.slice (some ad187) ((rd_T64 l0 x10_1).f0).length c185_0)).trans hx187_0; replace hx187_1 := (cell_far (p := ⟨gb186, 0, none⟩) (by first | (rw [add_block]; exact hn187_0) | (show (Addr.add _ _).block ≠ _; rw [add_block]; exact hn187_0) | exact hn187_0) (.slice (some ad187) ((rd_T64 l0 x10_1).f0).length c185_0)).trans hx187_1; clear hn187_0; replace p187 := eq_true p187; replace q187 := eq_true q187))
                  go_roundg k1
                  case measure => have := HK1.out; omega
                  case rel => exact ⟨(x5_1), (wrap64 (x10_1 + 1)), (by first | rfl | (simp; done) | (simp [bne]; done) | (simp [*]; done)), (by first | rfl | (simp; done) | (simp [bne]; done) | (simp [*]; done)), H', ⟨by have := HK1.out; omega⟩, ⟨by repeat (first | (with_reducible first | exact HB.out | apply below_alloc | apply pw_below_drewN | apply below_drew1 | refine below_set ?_ GE186.out) | exact HB.out)⟩⟩
            · rw [if_neg c6] at H
              exact absurd H (by simp)
          · rw [if_neg c5] at H
            exact absurd H (by simp)
        · rw [if_neg c4] at H
          exact absurd H (by simp)
      · rw [if_neg c3] at H
        have c3b0 : decide (x10_1 < (l0.length : Int)) = false := decide_eq_false c3
        clear c3
        obtain rfl := Option.some.inj H
        go_wp2
        go_ret
        exact ⟨by first | rfl | (simp only [u8_w_, w64_u8_]; done) | (simp only [u8_w_, w64_u8_]; rfl) | (simp [errW_none, errW_some] <;> rfl) | (simp [*, errW_none, errW_some] <;> rfl), by repeat (first | (with_reducible first | exact HB.out | apply below_alloc | apply pw_below_drewN | apply below_drew1) | exact HB.out)⟩

end Go.Proofs.Ytebgpbcbbjpbfaa.PFnExactPageFind
