-- Written for this claim by a program of this session (wip/myprint in the proofs' repo)
import Derived.Test.YtengnnhehjcfhaaPFnExactPagesDropx0
import Derived.Test.YtengnnhehjcfhaaPFnExactPagesDropx6
import Derived.Test.YtengnnhehjcfhaaWZip
-- slim3
namespace Go.Proofs.Ytengnnhehjcfhaa.PFnExactPagesDrop
open Go.RowKit Go.Proofs.YtengnnhehjcfhaaW.PrintWords Go.Proofs.YtengnnhehjcfhaaW.PrintLast Go.Proofs.YtengnnhehjcfhaaW.PrintMore
attribute [local go_sem] max2_int min2_int max_two min_two max_three min_three max_four min_four max2_strs min2_strs   -- for this text's walks alone
set_option linter.unusedVariables false
set_option linter.unusedSimpArgs false
set_option maxHeartbeats 8000000
set_option maxRecDepth 100000

/-! ### impl_PairsValid: function 51 -/
mutual
def impl_PairsValid.l0 : Nat → List (S65) → List (S65) → Int → Int → Option (Bool)
 | 0, _, _, _, _ => none
 | k + 1, x0, x8, x9, x10 => if x10 < x9 then (if 0 ≤ x10 then (if x10 < (x8.length : Int) then ((impl_KeyValid.f k ((rd_T65 x8 x10).f0)).bind fun t309 => (if t309 = true then ((impl_valueValid.f ((rd_T65 x8 x10).f1)).bind fun t310 => (impl_PairsValid.j1 k x0 x10 x8 x9 x10 (!t310) ((rd_T65 x8 x10).f0) ((rd_T65 x8 x10).f1))) else (impl_PairsValid.j1 k x0 x10 x8 x9 x10 true ((rd_T65 x8 x10).f0) ((rd_T65 x8 x10).f1)))) else (none)) else (none)) else (some true)
def impl_PairsValid.j1 : Nat → List (S65) → Int → List (S65) → Int → Int → Bool → ByteArray → Int → Option (Bool)
 | 0, _, _, _, _, _, _, _, _ => none
 | k + 1, x0, x3, x8, x9, x10, x24, x309000, x309001 => if x24 = true then (some false) else (if x3 > 0 then (if 0 ≤ (wrap64 (x3 - 1)) then (if (wrap64 (x3 - 1)) < (x0.length : Int) then (if ((Op.bytesLess (((rd_T65 x0 (wrap64 (x3 - 1))).f0).toList) x309000.toList) = true) then (impl_PairsValid.l0 k x0 x8 x9 (wrap64 (x10 + 1))) else (some false)) else (none)) else (none)) else (impl_PairsValid.l0 k x0 x8 x9 (wrap64 (x10 + 1))))
end
def impl_PairsValid.f (k : Nat) (l0 : List (S65)) : Option (Bool) := if (l0.length : Int) > 48 then (some false) else (impl_PairsValid.l0 k l0 l0 (l0.length : Int) 0)
theorem impl_PairsValid.mono_l : ∀ k, (∀ y0 y1 y2 y3, LeO (impl_PairsValid.l0 k y0 y1 y2 y3) (impl_PairsValid.l0 (k + 1) y0 y1 y2 y3)) ∧ (∀ y0 y1 y2 y3 y4 y5 y6 y7, LeO (impl_PairsValid.j1 k y0 y1 y2 y3 y4 y5 y6 y7) (impl_PairsValid.j1 (k + 1) y0 y1 y2 y3 y4 y5 y6 y7))
 | 0 => ⟨fun _ _ _ _ r h => by simp [impl_PairsValid.l0] at h, fun _ _ _ _ _ _ _ _ r h => by simp [impl_PairsValid.j1] at h⟩
 | k + 1 => by
  obtain ⟨ih0, ih1⟩ := impl_PairsValid.mono_l k
  refine ⟨?_, ?_⟩
  ·intro y0 y1 y2 y3
   unfold impl_PairsValid.l0
   repeat' first
   | (with_reducible exact ih0 _ _ _ _)
   | (with_reducible exact ih1 _ _ _ _ _ _ _ _)
   | (with_reducible exact impl_KeyValid.mono _ _)
   | (with_reducible exact LeO.refl _)
   | (with_reducible exact LeO.none _)
   | (with_reducible refine LeO.ite ?_ ?_)
   | (with_reducible refine LeO.bind ?_ (fun _ => ?_))
   | exact ih0 _ _ _ _
   | exact ih1 _ _ _ _ _ _ _ _
   | exact LeO.none _
   | refine LeO.ite ?_ ?_
   | refine LeO.bind ?_ (fun _ => ?_)
  ·intro y0 y1 y2 y3 y4 y5 y6 y7
   unfold impl_PairsValid.j1
   repeat' first
   | (with_reducible exact ih0 _ _ _ _)
   | (with_reducible exact ih1 _ _ _ _ _ _ _ _)
   | (with_reducible exact impl_KeyValid.mono _ _)
   | (with_reducible exact LeO.refl _)
   | (with_reducible exact LeO.none _)
   | (with_reducible refine LeO.ite ?_ ?_)
   | (with_reducible refine LeO.bind ?_ (fun _ => ?_))
   | exact ih0 _ _ _ _
   | exact ih1 _ _ _ _ _ _ _ _
   | exact LeO.none _
   | refine LeO.ite ?_ ?_
   | refine LeO.bind ?_ (fun _ => ?_)
theorem impl_PairsValid.mono : ∀ a0 k, LeO (impl_PairsValid.f k a0) (impl_PairsValid.f (k + 1) a0) := by
 intro a0 k
 obtain ⟨ih0, ih1⟩ := impl_PairsValid.mono_l k
 unfold impl_PairsValid.f
 repeat' first
   | (with_reducible exact ih0 _ _ _ _)
   | (with_reducible exact ih1 _ _ _ _ _ _ _ _)
   | (with_reducible exact impl_KeyValid.mono _ _)
   | (with_reducible exact LeO.refl _)
   | (with_reducible exact LeO.none _)
   | (with_reducible refine LeO.ite ?_ ?_)
   | (with_reducible refine LeO.bind ?_ (fun _ => ?_))
   | exact ih0 _ _ _ _
   | exact ih1 _ _ _ _ _ _ _ _
   | exact LeO.none _
   | refine LeO.ite ?_ ?_
   | refine LeO.bind ?_ (fun _ => ?_)
theorem impl_PairsValid.calls (k : Nat) (A0 : Option Addr) (c0 : Nat) (l0 : List (S65)) (r : Bool) (w : World) (hr0 : Kd.C k65 w A0 l0.length l0) (hc0 : l0.length ≤ c0) (h : impl_PairsValid.f k l0 = some r) :
  Calls Try.prog 51 #[.slice A0 l0.length c0] w fun e w' => e = .returned (.bool r) ∧ Below w.heap.size w w' := by
 have hu65 := Try.underlying65
 have HR0 := ak hr0
 have HC0 := ak hc0
 clear hr0 hc0
 have HB := ak (Below.refl w.heap.size w)
 have H : (if (l0.length : Int) > 48 then (some false) else (impl_PairsValid.l0 k l0 l0 (l0.length : Int) 0)) = some r := h
 clear h
 by_cases c2 : (l0.length : Int) > 48
 ·rw [if_pos c2] at H
  have c2b0 : decide (48 < (l0.length : Int)) = true := decide_eq_true c2
  have c2b1 : decide (48 < l0.length) = true := decide_eq_true (by omega)
  clear c2
  obtain rfl := Option.some.inj H
  go_enter Try.func51, Try.ntmps51
  go_wp2
  repeat (go_quiet (fail); try go_wp2)
  go_ret
  exact ⟨by first | rfl | (simp [*, errW_none, errW_some] <;> rfl), by exact hopb HB.out⟩
 ·rw [if_neg c2] at H
  have c2b0 : decide (48 < (l0.length : Int)) = false := decide_eq_false c2
  have c2b1 : decide (48 < l0.length) = false := decide_eq_false (by omega)
  clear c2
  have H' := ak H
  clear H
  go_enter Try.func51, Try.ntmps51
  go_wp2
  repeat (go_quiet (fail); try go_wp2)
  go_loopg [10] k (fun kq v10 w' => ∃ (x10_1 : Int), v10 = .int .i64 x10_1 ∧ Aside0 (impl_PairsValid.l0 kq l0 l0 (l0.length : Int) x10_1 = some r) ∧ Aside0 (kq ≤ k) ∧ Aside0 (Below w.heap.size w w'))
  case atStart => exact ⟨(0), (by first | rfl | (simp [*]; done)), H', ⟨Nat.le_refl _⟩, ⟨by exact hopb HB.out⟩⟩
  case round =>
   clear H'
   try clear c2
   try clear c2b0
   try clear c2b1
   try clear p2
   obtain ⟨x10_1, rfl, HA, HK1, HB⟩ := hrel
   cases gk with
   | zero => exact absurd HA.out (by simp [impl_PairsValid.l0])
   | succ k1 =>
    have H := HA.out
    clear HA
    simp only [impl_PairsValid.l0] at H
    by_cases c3 : x10_1 < (l0.length : Int)
    ·rw [if_pos c3] at H
     have c3b0 : decide (x10_1 < (l0.length : Int)) = true := decide_eq_true c3
     clear c3
     by_cases c4 : 0 ≤ x10_1
     ·rw [if_pos c4] at H
      have c4b0 : decide (0 ≤ x10_1) = true := decide_eq_true c4
      clear c4
      by_cases c5 : x10_1 < (l0.length : Int)
      ·rw [if_pos c5] at H
       have c5b0 : decide (x10_1 < (l0.length : Int)) = true := decide_eq_true c5
       clear c5
       have HC6 := ak H
       clear H
       have p307 : 0 ≤ (x10_1 : Int) := of_decide_eq_true (by assumption)
       have q307 : x10_1 < (l0.length : Int) := of_decide_eq_true (by assumption)
       obtain ⟨ad307, e307, hx307_0, hx307_1⟩ := at_T65 HR0.out x10_1 p307 q307
       cases e307
       replace hx307_0 := bc HB.out hx307_0
       replace hx307_1 := bc HB.out hx307_1
       replace p307 := eq_true p307
       replace q307 := eq_true q307
       go_upto_region 6 with (first | ((with_reducible refine gate_dst (N := 4) rfl ?_); refine box_event ?hg (N := 4) ?hd (cs := #[.string (⟨#[]⟩ : ByteArray), .int .i64 0]) (t := 65) ?hr ?_; (case hd => rfl); (case hg => rfl); (case hr => first | (go_simp; done) | (go_simp; rfl)); intro gb308 hg w7 hbox hb; have n0_ := ak (below_step (by exact hopb HB.out) hb); have n1_ := ak (hbox); have n2_ := ak ((by rw [hg]; exact (below_size (by exact hopb HB.out)) : w.heap.size ≤ gb308)); have n3_ := n2_; clear HB; have HB := n0_; have BK308 := n1_; have GW308 := n2_; have GE308 := n3_; clear n0_ n1_ n2_ n3_; clear hb hbox hg; have hcz8_0 : w7.cell? ⟨gb308, 0, none⟩ = some (.string (⟨#[]⟩ : ByteArray)) := (blk_cell BK308.out 0).trans rfl; have hcz8_1 : w7.cell? ⟨gb308, 1, none⟩ = some (.int .i64 0) := (blk_cell BK308.out 1).trans rfl; have hfz8_0 := blk_frozen BK308.out 0; have hfz8_1 := blk_frozen BK308.out 1))
       repeat (go_quiet (first | ((with_reducible refine gate_dst (N := 4) rfl ?_); refine box_event ?hg (N := 4) ?hd (cs := #[.string (⟨#[]⟩ : ByteArray), .int .i64 0]) (t := 65) ?hr ?_; (case hd => rfl); (case hg => rfl); (case hr => first | (go_simp; done) | (go_simp; rfl)); intro gb308 hg w7 hbox hb; have n0_ := ak (below_step (by exact hopb HB.out) hb); have n1_ := ak (hbox); have n2_ := ak ((by rw [hg]; exact (below_size (by exact hopb HB.out)) : w.heap.size ≤ gb308)); have n3_ := n2_; clear HB; have HB := n0_; have BK308 := n1_; have GW308 := n2_; have GE308 := n3_; clear n0_ n1_ n2_ n3_; clear hb hbox hg; have hcz8_0 : w7.cell? ⟨gb308, 0, none⟩ = some (.string (⟨#[]⟩ : ByteArray)) := (blk_cell BK308.out 0).trans rfl; have hcz8_1 : w7.cell? ⟨gb308, 1, none⟩ = some (.int .i64 0) := (blk_cell BK308.out 1).trans rfl; have hfz8_0 := blk_frozen BK308.out 0; have hfz8_1 := blk_frozen BK308.out 1)); go_upto_region 6 with (first | ((with_reducible refine gate_dst (N := 4) rfl ?_); refine box_event ?hg (N := 4) ?hd (cs := #[.string (⟨#[]⟩ : ByteArray), .int .i64 0]) (t := 65) ?hr ?_; (case hd => rfl); (case hg => rfl); (case hr => first | (go_simp; done) | (go_simp; rfl)); intro gb308 hg w7 hbox hb; have n0_ := ak (below_step (by exact hopb HB.out) hb); have n1_ := ak (hbox); have n2_ := ak ((by rw [hg]; exact (below_size (by exact hopb HB.out)) : w.heap.size ≤ gb308)); have n3_ := n2_; clear HB; have HB := n0_; have BK308 := n1_; have GW308 := n2_; have GE308 := n3_; clear n0_ n1_ n2_ n3_; clear hb hbox hg; have hcz8_0 : w7.cell? ⟨gb308, 0, none⟩ = some (.string (⟨#[]⟩ : ByteArray)) := (blk_cell BK308.out 0).trans rfl; have hcz8_1 : w7.cell? ⟨gb308, 1, none⟩ = some (.int .i64 0) := (blk_cell BK308.out 1).trans rfl; have hfz8_0 := blk_frozen BK308.out 0; have hfz8_1 := blk_frozen BK308.out 1)))
       (try simp only [Act.put, lT, lZ, lS])
       go_cut [24] (fun v24 wc => ∃ (kq : Nat) (x24_5 : Bool), v24 = .bool x24_5 ∧ Aside0 (impl_PairsValid.j1 kq l0 x10_1 l0 (l0.length : Int) x10_1 x24_5 ((rd_T65 l0 x10_1).f0) ((rd_T65 l0 x10_1).f1) = some r) ∧ Aside0 (kq ≤ k1) ∧ Aside0 (wc.heap[gb308]? = some (.cells #[.string ((rd_T65 l0 x10_1).f0), .int .i64 ((rd_T65 l0 x10_1).f1)] 65 (0, 0))) ∧ Aside0 (Below w.heap.size w wc))
       case first =>
        have H := HC6.out
        clear HC6
        replace H := Option.bind_eq_some_iff.mp H
        obtain ⟨t309, A90, H⟩ := H
        try dsimp only at H
        have A9 := ak A90
        clear A90
        by_cases c10 : t309 = true
        ·subst c10
         rw [if_pos rfl] at H
         replace H := Option.bind_eq_some_iff.mp H
         obtain ⟨t310, A110, H⟩ := H
         try dsimp only at H
         have A11 := ak A110
         clear A110
         have H' := ak H
         clear H
         have hcz12_0 : w7.cell? ⟨gb308, 0, none⟩ = some (.string (⟨#[]⟩ : ByteArray)) := (blk_cell BK308.out 0).trans rfl
         have hcz12_1 : w7.cell? ⟨gb308, 1, none⟩ = some (.int .i64 0) := (blk_cell BK308.out 1).trans rfl
         have hfz12_0 := blk_frozen BK308.out 0
         have hfz12_1 := blk_frozen BK308.out 1
         go_wp2_with (first | (go_at_call 30; (with_reducible refine (impl_KeyValid.calls k1 ((rd_T65 l0 x10_1).f0) true _ A9.out).mono ?_); rintro e w' ⟨rfl, ⟨nd, rfl⟩⟩; (try first | exact ⟨rfl, _, World.drewN_drewN _ _ _⟩ | exact ⟨rfl, _, Eq.trans (World.drewN_drewN _ _ _) (congrArg (World.drewN _) (Nat.add_assoc _ _ _))⟩)) | (go_at_call 43; (with_reducible refine (impl_valueValid.calls ((rd_T65 l0 x10_1).f1) t310 _ A11.out).mono ?_); rintro e w' ⟨rfl, ⟨nd, rfl⟩⟩; (try first | exact ⟨rfl, _, World.drewN_drewN _ _ _⟩ | exact ⟨rfl, _, Eq.trans (World.drewN_drewN _ _ _) (congrArg (World.drewN _) (Nat.add_assoc _ _ _))⟩)))
         repeat (go_quiet (first | (go_at_call 30; (with_reducible refine (impl_KeyValid.calls k1 ((rd_T65 l0 x10_1).f0) true _ A9.out).mono ?_); rintro e w' ⟨rfl, ⟨nd, rfl⟩⟩; (try first | exact ⟨rfl, _, World.drewN_drewN _ _ _⟩ | exact ⟨rfl, _, Eq.trans (World.drewN_drewN _ _ _) (congrArg (World.drewN _) (Nat.add_assoc _ _ _))⟩)) | (go_at_call 43; (with_reducible refine (impl_valueValid.calls ((rd_T65 l0 x10_1).f1) t310 _ A11.out).mono ?_); rintro e w' ⟨rfl, ⟨nd, rfl⟩⟩; (try first | exact ⟨rfl, _, World.drewN_drewN _ _ _⟩ | exact ⟨rfl, _, Eq.trans (World.drewN_drewN _ _ _) (congrArg (World.drewN _) (Nat.add_assoc _ _ _))⟩))); try go_wp2_with (first | (go_at_call 30; (with_reducible refine (impl_KeyValid.calls k1 ((rd_T65 l0 x10_1).f0) true _ A9.out).mono ?_); rintro e w' ⟨rfl, ⟨nd, rfl⟩⟩; (try first | exact ⟨rfl, _, World.drewN_drewN _ _ _⟩ | exact ⟨rfl, _, Eq.trans (World.drewN_drewN _ _ _) (congrArg (World.drewN _) (Nat.add_assoc _ _ _))⟩)) | (go_at_call 43; (with_reducible refine (impl_valueValid.calls ((rd_T65 l0 x10_1).f1) t310 _ A11.out).mono ?_); rintro e w' ⟨rfl, ⟨nd, rfl⟩⟩; (try first | exact ⟨rfl, _, World.drewN_drewN _ _ _⟩ | exact ⟨rfl, _, Eq.trans (World.drewN_drewN _ _ _) (congrArg (World.drewN _) (Nat.add_assoc _ _ _))⟩))))
         go_meet
         case rel => exact ⟨_, (!t310), (by first | rfl | (simp [*]; done)), H', ⟨by have := HK1.out; first | omega | exact Nat.le_refl _⟩, ⟨by (with_reducible repeat (first | refine kN ?_ _ | refine kD ?_ | refine kA ?_ _)); refine blk_put (cs := #[.string ((rd_T65 l0 x10_1).f0), .int .i64 0]) ?_ 1 _ rfl; (with_reducible repeat (first | refine kN ?_ _ | refine kD ?_ | refine kA ?_ _)); refine blk_put (cs := #[.string (⟨#[]⟩ : ByteArray), .int .i64 0]) ?_ 0 _ rfl; exact hop BK308.out⟩, ⟨by repeat (first | exact HB.out | apply bA | apply bN | apply bD | refine bS ?_ GE308.out)⟩⟩
        ·replace c10 := Bool.eq_false_iff.mpr c10
         subst c10
         rw [if_neg (show ¬ (false = true) by decide)] at H
         have H' := ak H
         clear H
         have hcz13_0 : w7.cell? ⟨gb308, 0, none⟩ = some (.string (⟨#[]⟩ : ByteArray)) := (blk_cell BK308.out 0).trans rfl
         have hcz13_1 : w7.cell? ⟨gb308, 1, none⟩ = some (.int .i64 0) := (blk_cell BK308.out 1).trans rfl
         have hfz13_0 := blk_frozen BK308.out 0
         have hfz13_1 := blk_frozen BK308.out 1
         go_wp2_with (first | (go_at_call 30; (with_reducible refine (impl_KeyValid.calls k1 ((rd_T65 l0 x10_1).f0) false _ A9.out).mono ?_); rintro e w' ⟨rfl, ⟨nd, rfl⟩⟩; (try first | exact ⟨rfl, _, World.drewN_drewN _ _ _⟩ | exact ⟨rfl, _, Eq.trans (World.drewN_drewN _ _ _) (congrArg (World.drewN _) (Nat.add_assoc _ _ _))⟩)))
         repeat (go_quiet (first | (go_at_call 30; (with_reducible refine (impl_KeyValid.calls k1 ((rd_T65 l0 x10_1).f0) false _ A9.out).mono ?_); rintro e w' ⟨rfl, ⟨nd, rfl⟩⟩; (try first | exact ⟨rfl, _, World.drewN_drewN _ _ _⟩ | exact ⟨rfl, _, Eq.trans (World.drewN_drewN _ _ _) (congrArg (World.drewN _) (Nat.add_assoc _ _ _))⟩))); try go_wp2_with (first | (go_at_call 30; (with_reducible refine (impl_KeyValid.calls k1 ((rd_T65 l0 x10_1).f0) false _ A9.out).mono ?_); rintro e w' ⟨rfl, ⟨nd, rfl⟩⟩; (try first | exact ⟨rfl, _, World.drewN_drewN _ _ _⟩ | exact ⟨rfl, _, Eq.trans (World.drewN_drewN _ _ _) (congrArg (World.drewN _) (Nat.add_assoc _ _ _))⟩))))
         go_meet
         case rel => exact ⟨_, (true), (by first | rfl | (simp [*]; done)), H', ⟨by have := HK1.out; first | omega | exact Nat.le_refl _⟩, ⟨by (with_reducible repeat (first | refine kN ?_ _ | refine kD ?_ | refine kA ?_ _)); refine blk_put (cs := #[.string ((rd_T65 l0 x10_1).f0), .int .i64 0]) ?_ 1 _ rfl; (with_reducible repeat (first | refine kN ?_ _ | refine kD ?_ | refine kA ?_ _)); refine blk_put (cs := #[.string (⟨#[]⟩ : ByteArray), .int .i64 0]) ?_ 0 _ rfl; exact hop BK308.out⟩, ⟨by repeat (first | exact HB.out | apply bA | apply bN | apply bD | refine bS ?_ GE308.out)⟩⟩
       case rest =>
        clear HC6
        try clear c1
        try clear c2
        try clear c2b0
        try clear c2b1
        try clear p2
        try clear c3
        try clear c3b0
        try clear p3
        try clear q3
        try clear hx3
        try clear c4
        try clear c4b0
        try clear c5
        try clear c5b0
        try clear c10
        try clear hcz12_0
        try clear hcz12_1
        try clear hcz13_0
        try clear hcz13_1
        try clear hcz8_0
        try clear hcz8_1
        try clear hfz12_0
        try clear hfz12_1
        try clear hfz13_0
        try clear hfz13_1
        try clear hfz8_0
        try clear hfz8_1
        try clear hx307_0
        try clear hx307_1
        try clear p2
        try clear p307
        try clear q307
        obtain ⟨kq, x24_5, rfl, HA, HJ5, BK308, HB⟩ := hcut
        cases kq with
        | zero => exact absurd HA.out (by simp [impl_PairsValid.j1])
        | succ kj5 =>
         have H := HA.out
         clear HA
         simp only [impl_PairsValid.j1] at H
         by_cases c14 : x24_5 = true
         ·subst c14
          rw [if_pos rfl] at H
          obtain rfl := Option.some.inj H
          go_wp2
          repeat (go_quiet (fail); try go_wp2)
          go_ret
          exact ⟨by first | rfl | (simp [*, errW_none, errW_some] <;> rfl), by repeat (first | exact HB.out | apply bA | apply bN | apply bD | refine bS ?_ GE308.out)⟩
         ·replace c14 := Bool.eq_false_iff.mpr c14
          subst c14
          rw [if_neg (show ¬ (false = true) by decide)] at H
          by_cases c15 : x10_1 > 0
          ·rw [if_pos c15] at H
           have c15b0 : decide (0 < x10_1) = true := decide_eq_true c15
           clear c15
           obtain ⟨ji16, hji16⟩ : ∃ j_ : Int, (wrap64 (x10_1 - 1)) = j_ := ⟨_, rfl⟩
           replace H : (if 0 ≤ (ji16) then (if (ji16) < (l0.length : Int) then (if ((Op.bytesLess (((rd_T65 l0 (ji16)).f0).toList) ((rd_T65 l0 x10_1).f0).toList) = true) then (impl_PairsValid.l0 kj5 l0 l0 (l0.length : Int) (wrap64 (x10_1 + 1))) else (some false)) else (none)) else (none)) = some r := by first | (rw [hji16] at H; exact H) | (simp only [hji16] at H ⊢; exact H)
           have hji16w : (IntKind.i64.wrap (x10_1 - 1)) = ji16 := (i64_w _).trans hji16
           by_cases c17 : 0 ≤ (ji16)
           ·rw [if_pos c17] at H
            have c17b0 : decide (0 ≤ (ji16)) = true := decide_eq_true c17
            clear c17
            by_cases c18 : (ji16) < (l0.length : Int)
            ·rw [if_pos c18] at H
             have c18b0 : decide ((ji16) < (l0.length : Int)) = true := decide_eq_true c18
             clear c18
             by_cases c19 : ((Op.bytesLess (((rd_T65 l0 (ji16)).f0).toList) ((rd_T65 l0 x10_1).f0).toList) = true)
             ·rw [if_pos c19] at H
              have c19b0 : (Op.bytesLess (((rd_T65 l0 (ji16)).f0).toList) ((rd_T65 l0 x10_1).f0).toList) = true := c19
              clear c19
              have H' := ak H
              clear H
              have p311 : 0 ≤ ((ji16) : Int) := of_decide_eq_true (by assumption)
              have q311 : (ji16) < (l0.length : Int) := of_decide_eq_true (by assumption)
              obtain ⟨ad311, e311, hx311_0, hx311_1⟩ := at_T65 HR0.out (ji16) p311 q311
              obtain rfl : ad307 = ad311 := (by injection e311)
              replace hx311_0 := bc HB.out hx311_0
              replace hx311_1 := bc HB.out hx311_1
              replace p311 := eq_true p311
              replace q311 := eq_true q311
              have hcz20_0 : wc.cell? ⟨gb308, 0, none⟩ = some (.string ((rd_T65 l0 x10_1).f0)) := (blk_cell BK308.out 0).trans rfl
              have hcz20_1 : wc.cell? ⟨gb308, 1, none⟩ = some (.int .i64 ((rd_T65 l0 x10_1).f1)) := (blk_cell BK308.out 1).trans rfl
              have hfz20_0 := blk_frozen BK308.out 0
              have hfz20_1 := blk_frozen BK308.out 1
              go_wp2
              repeat (go_quiet (fail); try go_wp2)
              go_roundg kj5
              case measure => have := HK1.out; have := HJ5.out; omega
              case rel => exact ⟨(wrap64 (x10_1 + 1)), (by first | rfl | (simp [*]; done)), H', ⟨by have := HK1.out; have := HJ5.out; omega⟩, ⟨by repeat (first | exact HB.out | apply bA | apply bN | apply bD | refine bS ?_ GE308.out)⟩⟩
             ·rw [if_neg c19] at H
              have c19b0 : (Op.bytesLess (((rd_T65 l0 (ji16)).f0).toList) ((rd_T65 l0 x10_1).f0).toList) = false := by simpa using c19
              clear c19
              obtain rfl := Option.some.inj H
              have p311 : 0 ≤ ((ji16) : Int) := of_decide_eq_true (by assumption)
              have q311 : (ji16) < (l0.length : Int) := of_decide_eq_true (by assumption)
              obtain ⟨ad311, e311, hx311_0, hx311_1⟩ := at_T65 HR0.out (ji16) p311 q311
              obtain rfl : ad307 = ad311 := (by injection e311)
              replace hx311_0 := bc HB.out hx311_0
              replace hx311_1 := bc HB.out hx311_1
              replace p311 := eq_true p311
              replace q311 := eq_true q311
              have hcz21_0 : wc.cell? ⟨gb308, 0, none⟩ = some (.string ((rd_T65 l0 x10_1).f0)) := (blk_cell BK308.out 0).trans rfl
              have hcz21_1 : wc.cell? ⟨gb308, 1, none⟩ = some (.int .i64 ((rd_T65 l0 x10_1).f1)) := (blk_cell BK308.out 1).trans rfl
              have hfz21_0 := blk_frozen BK308.out 0
              have hfz21_1 := blk_frozen BK308.out 1
              go_wp2
              repeat (go_quiet (fail); try go_wp2)
              go_ret
              exact ⟨by first | rfl | (simp only [u8_w_, w64_u8_] <;> rfl) | (simp [errW_none, errW_some] <;> rfl) | (simp only [← hji16]; first | rfl | (simp [errW_none, errW_some] <;> rfl)) | (simp [*, errW_none, errW_some] <;> rfl), by repeat (first | exact HB.out | apply bA | apply bN | apply bD | refine bS ?_ GE308.out)⟩
            ·rw [if_neg c18] at H
             exact absurd H (by simp)
           ·rw [if_neg c17] at H
            exact absurd H (by simp)
          ·rw [if_neg c15] at H
           have c15b0 : decide (0 < x10_1) = false := decide_eq_false c15
           clear c15
           have H' := ak H
           clear H
           go_wp2
           repeat (go_quiet (fail); try go_wp2)
           go_roundg kj5
           case measure => have := HK1.out; have := HJ5.out; omega
           case rel => exact ⟨(wrap64 (x10_1 + 1)), (by first | rfl | (simp [*]; done)), H', ⟨by have := HK1.out; have := HJ5.out; omega⟩, ⟨by repeat (first | exact HB.out | apply bA | apply bN | apply bD | refine bS ?_ GE308.out)⟩⟩
      ·rw [if_neg c5] at H
       exact absurd H (by simp)
     ·rw [if_neg c4] at H
      exact absurd H (by simp)
    ·rw [if_neg c3] at H
     have c3b0 : decide (x10_1 < (l0.length : Int)) = false := decide_eq_false c3
     clear c3
     obtain rfl := Option.some.inj H
     go_wp2
     repeat (go_quiet (fail); try go_wp2)
     go_ret
     exact ⟨by first | rfl | (simp [*, errW_none, errW_some] <;> rfl), by exact hopb HB.out⟩

/-! ### impl_PagesValid: function 20 -/
def impl_PagesValid.l0 : Nat → List (S53) → List (S53) → Int → Int → Option (Bool)
 | 0, _, _, _, _ => none
 | k + 1, x0, x9, x10, x11 => if x11 < x10 then (if 0 ≤ x11 then (if x11 < (x9.length : Int) then (if (x0.length : Int) = 1 then (if (((rd_T53 x9 x11).f0).length : Int) < 1 then (some false) else (if (((rd_T53 x9 x11).f0).length : Int) > 4 then (some false) else (impl_PagesValid.l0 k x0 x9 x10 (wrap64 (x11 + 1))))) else (if (((rd_T53 x9 x11).f0).length : Int) < 2 then (some false) else (if (((rd_T53 x9 x11).f0).length : Int) > 4 then (some false) else (impl_PagesValid.l0 k x0 x9 x10 (wrap64 (x11 + 1)))))) else (none)) else (none)) else ((impl_allPairs.f k x0).bind fun t312 => ((impl_PairsValid.f k t312).bind fun t315 => (some t315)))
def impl_PagesValid.f (k : Nat) (l0 : List (S53)) : Option (Bool) := if (l0.length : Int) > 48 then (some false) else (impl_PagesValid.l0 k l0 l0 (l0.length : Int) 0)
theorem impl_PagesValid.mono_l : ∀ k, (∀ y0 y1 y2 y3, LeO (impl_PagesValid.l0 k y0 y1 y2 y3) (impl_PagesValid.l0 (k + 1) y0 y1 y2 y3))
 | 0 => fun _ _ _ _ r h => by simp [impl_PagesValid.l0] at h
 | k + 1 => by
  have ih0 := impl_PagesValid.mono_l k
  ·intro y0 y1 y2 y3
   unfold impl_PagesValid.l0
   repeat' first
   | (with_reducible exact ih0 _ _ _ _)
   | (with_reducible exact impl_PairsValid.mono _ _)
   | (with_reducible exact impl_allPairs.mono _ _)
   | (with_reducible exact LeO.refl _)
   | (with_reducible exact LeO.none _)
   | (with_reducible refine LeO.ite ?_ ?_)
   | (with_reducible refine LeO.bind ?_ (fun _ => ?_))
   | exact ih0 _ _ _ _
   | exact LeO.none _
   | refine LeO.ite ?_ ?_
   | refine LeO.bind ?_ (fun _ => ?_)
theorem impl_PagesValid.mono : ∀ a0 k, LeO (impl_PagesValid.f k a0) (impl_PagesValid.f (k + 1) a0) := by
 intro a0 k
 have ih0 := impl_PagesValid.mono_l k
 unfold impl_PagesValid.f
 repeat' first
   | (with_reducible exact ih0 _ _ _ _)
   | (with_reducible exact impl_PairsValid.mono _ _)
   | (with_reducible exact impl_allPairs.mono _ _)
   | (with_reducible exact LeO.refl _)
   | (with_reducible exact LeO.none _)
   | (with_reducible refine LeO.ite ?_ ?_)
   | (with_reducible refine LeO.bind ?_ (fun _ => ?_))
   | exact ih0 _ _ _ _
   | exact LeO.none _
   | refine LeO.ite ?_ ?_
   | refine LeO.bind ?_ (fun _ => ?_)
theorem impl_PagesValid.calls (k : Nat) (A0 : Option Addr) (c0 : Nat) (l0 : List (S53)) (r : Bool) (w : World) (hr0 : Kd.C k53 w A0 l0.length l0) (hc0 : l0.length ≤ c0) (h : impl_PagesValid.f k l0 = some r) :
  Calls Try.prog 20 #[.slice A0 l0.length c0] w fun e w' => e = .returned (.bool r) ∧ Below w.heap.size w w' := by
 have hu53 := Try.underlying53
 have HR0 := ak hr0
 have HC0 := ak hc0
 clear hr0 hc0
 have HB := ak (Below.refl w.heap.size w)
 have H : (if (l0.length : Int) > 48 then (some false) else (impl_PagesValid.l0 k l0 l0 (l0.length : Int) 0)) = some r := h
 clear h
 by_cases c2 : (l0.length : Int) > 48
 ·rw [if_pos c2] at H
  have c2b0 : decide (48 < (l0.length : Int)) = true := decide_eq_true c2
  have c2b1 : decide (48 < l0.length) = true := decide_eq_true (by omega)
  clear c2
  obtain rfl := Option.some.inj H
  go_enter Try.func20, Try.ntmps20
  go_wp2
  go_ret
  exact ⟨by first | rfl | (simp [*, errW_none, errW_some] <;> rfl), by exact hopb HB.out⟩
 ·rw [if_neg c2] at H
  have c2b0 : decide (48 < (l0.length : Int)) = false := decide_eq_false c2
  have c2b1 : decide (48 < l0.length) = false := decide_eq_false (by omega)
  clear c2
  have H' := ak H
  clear H
  go_enter Try.func20, Try.ntmps20
  go_wp2
  go_loopg [11] k (fun kq v11 w' => ∃ (x11_1 : Int), v11 = .int .i64 x11_1 ∧ Aside0 (impl_PagesValid.l0 kq l0 l0 (l0.length : Int) x11_1 = some r) ∧ Aside0 (kq ≤ k) ∧ Aside0 (Below w.heap.size w w'))
  case atStart => exact ⟨(0), (by first | rfl | (simp [*]; done)), H', ⟨Nat.le_refl _⟩, ⟨by exact hopb HB.out⟩⟩
  case round =>
   clear H'
   try clear c2
   try clear c2b0
   try clear c2b1
   try clear p2
   obtain ⟨x11_1, rfl, HA, HK1, HB⟩ := hrel
   cases gk with
   | zero => exact absurd HA.out (by simp [impl_PagesValid.l0])
   | succ k1 =>
    have H := HA.out
    clear HA
    simp only [impl_PagesValid.l0] at H
    by_cases c3 : x11_1 < (l0.length : Int)
    ·rw [if_pos c3] at H
     have c3b0 : decide (x11_1 < (l0.length : Int)) = true := decide_eq_true c3
     clear c3
     by_cases c4 : 0 ≤ x11_1
     ·rw [if_pos c4] at H
      have c4b0 : decide (0 ≤ x11_1) = true := decide_eq_true c4
      clear c4
      by_cases c5 : x11_1 < (l0.length : Int)
      ·rw [if_pos c5] at H
       have c5b0 : decide (x11_1 < (l0.length : Int)) = true := decide_eq_true c5
       clear c5
       by_cases c6 : (l0.length : Int) = 1
       ·rw [if_pos c6] at H
        have c6b0 : ((l0.length : Int) == 1) = true := beq_iff_eq.mpr c6
        have c6b1 : ((l0.length : Int) != 1) = false := bne_eq_false_iff_eq.mpr c6
        clear c6
        by_cases c7 : (((rd_T53 l0 x11_1).f0).length : Int) < 1
        ·rw [if_pos c7] at H
         have c7b0 : decide ((((rd_T53 l0 x11_1).f0).length : Int) < 1) = true := decide_eq_true c7
         have c7b1 : decide (((rd_T53 l0 x11_1).f0).length < 1) = true := decide_eq_true (by omega)
         clear c7
         obtain rfl := Option.some.inj H
         have p316 : 0 ≤ (x11_1 : Int) := of_decide_eq_true (by assumption)
         have q316 : x11_1 < (l0.length : Int) := of_decide_eq_true (by assumption)
         obtain ⟨ad316, A316_0, c316_0, e316, hx316_0, hl316_0, hi316_0⟩ := at_T53 HR0.out x11_1 p316 q316
         cases e316
         replace hx316_0 := bc HB.out hx316_0
         have HR316_0 := ak hi316_0
         have HC316_0 := ak hl316_0
         clear hi316_0 hl316_0
         replace p316 := eq_true p316
         replace q316 := eq_true q316
         go_wp2_with (first | ((with_reducible refine gate_dst (N := 4) rfl ?_); (try (refine gate_guard (by rfl) ?_; dsimp only)); refine box_event ?hg (N := 4) ?hd (cs := #[.slice none 0 0]) (t := 53) ?hr ?_; (case hd => rfl); (case hg => rfl); (case hr => first | (go_simp; done) | (go_simp; rfl)); intro gb317 hg w8 hbox hb; have n0_ := ak (below_step (by exact hopb HB.out) hb); have n1_ := ak (hbox); have n2_ := ak ((by rw [hg]; exact (below_size (by exact hopb HB.out)) : w.heap.size ≤ gb317)); have n3_ := n2_; clear HB; have HB := n0_; have BK317 := n1_; have GW317 := n2_; have GE317 := n3_; clear n0_ n1_ n2_ n3_; clear hb hbox hg; have hcz9_0 : w8.cell? ⟨gb317, 0, none⟩ = some (.slice none 0 0) := (blk_cell BK317.out 0).trans rfl; have hfz9_0 := blk_frozen BK317.out 0))
         go_ret
         exact ⟨by first | rfl | (simp [*, errW_none, errW_some] <;> rfl), by repeat (first | exact HB.out | apply bA | apply bN | apply bD | refine bS ?_ GE317.out)⟩
        ·rw [if_neg c7] at H
         have c7b0 : decide ((((rd_T53 l0 x11_1).f0).length : Int) < 1) = false := decide_eq_false c7
         have c7b1 : decide (((rd_T53 l0 x11_1).f0).length < 1) = false := decide_eq_false (by omega)
         clear c7
         by_cases c10 : (((rd_T53 l0 x11_1).f0).length : Int) > 4
         ·rw [if_pos c10] at H
          have c10b0 : decide (4 < (((rd_T53 l0 x11_1).f0).length : Int)) = true := decide_eq_true c10
          have c10b1 : decide (4 < ((rd_T53 l0 x11_1).f0).length) = true := decide_eq_true (by omega)
          clear c10
          obtain rfl := Option.some.inj H
          have p316 : 0 ≤ (x11_1 : Int) := of_decide_eq_true (by assumption)
          have q316 : x11_1 < (l0.length : Int) := of_decide_eq_true (by assumption)
          obtain ⟨ad316, A316_0, c316_0, e316, hx316_0, hl316_0, hi316_0⟩ := at_T53 HR0.out x11_1 p316 q316
          cases e316
          replace hx316_0 := bc HB.out hx316_0
          have HR316_0 := ak hi316_0
          have HC316_0 := ak hl316_0
          clear hi316_0 hl316_0
          replace p316 := eq_true p316
          replace q316 := eq_true q316
          go_wp2_with (first | ((with_reducible refine gate_dst (N := 4) rfl ?_); (try (refine gate_guard (by rfl) ?_; dsimp only)); refine box_event ?hg (N := 4) ?hd (cs := #[.slice none 0 0]) (t := 53) ?hr ?_; (case hd => rfl); (case hg => rfl); (case hr => first | (go_simp; done) | (go_simp; rfl)); intro gb317 hg w11 hbox hb; have n0_ := ak (below_step (by exact hopb HB.out) hb); have n1_ := ak (hbox); have n2_ := ak ((by rw [hg]; exact (below_size (by exact hopb HB.out)) : w.heap.size ≤ gb317)); have n3_ := n2_; clear HB; have HB := n0_; have BK317 := n1_; have GW317 := n2_; have GE317 := n3_; clear n0_ n1_ n2_ n3_; clear hb hbox hg; have hcz12_0 : w11.cell? ⟨gb317, 0, none⟩ = some (.slice none 0 0) := (blk_cell BK317.out 0).trans rfl; have hfz12_0 := blk_frozen BK317.out 0))
          go_ret
          exact ⟨by first | rfl | (simp [*, errW_none, errW_some] <;> rfl), by repeat (first | exact HB.out | apply bA | apply bN | apply bD | refine bS ?_ GE317.out)⟩
         ·rw [if_neg c10] at H
          have c10b0 : decide (4 < (((rd_T53 l0 x11_1).f0).length : Int)) = false := decide_eq_false c10
          have c10b1 : decide (4 < ((rd_T53 l0 x11_1).f0).length) = false := decide_eq_false (by omega)
          clear c10
          have H' := ak H
          clear H
          have p316 : 0 ≤ (x11_1 : Int) := of_decide_eq_true (by assumption)
          have q316 : x11_1 < (l0.length : Int) := of_decide_eq_true (by assumption)
          obtain ⟨ad316, A316_0, c316_0, e316, hx316_0, hl316_0, hi316_0⟩ := at_T53 HR0.out x11_1 p316 q316
          cases e316
          replace hx316_0 := bc HB.out hx316_0
          have HR316_0 := ak hi316_0
          have HC316_0 := ak hl316_0
          clear hi316_0 hl316_0
          replace p316 := eq_true p316
          replace q316 := eq_true q316
          go_wp2_with (first | ((with_reducible refine gate_dst (N := 4) rfl ?_); (try (refine gate_guard (by rfl) ?_; dsimp only)); refine box_event ?hg (N := 4) ?hd (cs := #[.slice none 0 0]) (t := 53) ?hr ?_; (case hd => rfl); (case hg => rfl); (case hr => first | (go_simp; done) | (go_simp; rfl)); intro gb317 hg w13 hbox hb; have n0_ := ak (below_step (by exact hopb HB.out) hb); have n1_ := ak (hbox); have n2_ := ak ((by rw [hg]; exact (below_size (by exact hopb HB.out)) : w.heap.size ≤ gb317)); have n3_ := n2_; clear HB; have HB := n0_; have BK317 := n1_; have GW317 := n2_; have GE317 := n3_; clear n0_ n1_ n2_ n3_; clear hb hbox hg; have hcz14_0 : w13.cell? ⟨gb317, 0, none⟩ = some (.slice none 0 0) := (blk_cell BK317.out 0).trans rfl; have hfz14_0 := blk_frozen BK317.out 0))
          go_roundg k1
          case measure => have := HK1.out; omega
          case rel => exact ⟨(wrap64 (x11_1 + 1)), (by first | rfl | (simp [*]; done)), H', ⟨by have := HK1.out; omega⟩, ⟨by repeat (first | exact HB.out | apply bA | apply bN | apply bD | refine bS ?_ GE317.out)⟩⟩
       ·rw [if_neg c6] at H
        have c6b0 : ((l0.length : Int) == 1) = false := beq_eq_false_iff_ne.mpr c6
        have c6b1 : ((l0.length : Int) != 1) = true := bne_iff_ne.mpr c6
        by_cases c15 : (((rd_T53 l0 x11_1).f0).length : Int) < 2
        ·rw [if_pos c15] at H
         have c15b0 : decide ((((rd_T53 l0 x11_1).f0).length : Int) < 2) = true := decide_eq_true c15
         have c15b1 : decide (((rd_T53 l0 x11_1).f0).length < 2) = true := decide_eq_true (by omega)
         clear c15
         obtain rfl := Option.some.inj H
         have p316 : 0 ≤ (x11_1 : Int) := of_decide_eq_true (by assumption)
         have q316 : x11_1 < (l0.length : Int) := of_decide_eq_true (by assumption)
         obtain ⟨ad316, A316_0, c316_0, e316, hx316_0, hl316_0, hi316_0⟩ := at_T53 HR0.out x11_1 p316 q316
         cases e316
         replace hx316_0 := bc HB.out hx316_0
         have HR316_0 := ak hi316_0
         have HC316_0 := ak hl316_0
         clear hi316_0 hl316_0
         replace p316 := eq_true p316
         replace q316 := eq_true q316
         go_wp2_with (first | ((with_reducible refine gate_dst (N := 4) rfl ?_); (try (refine gate_guard (by rfl) ?_; dsimp only)); refine box_event ?hg (N := 4) ?hd (cs := #[.slice none 0 0]) (t := 53) ?hr ?_; (case hd => rfl); (case hg => rfl); (case hr => first | (go_simp; done) | (go_simp; rfl)); intro gb317 hg w16 hbox hb; have n0_ := ak (below_step (by exact hopb HB.out) hb); have n1_ := ak (hbox); have n2_ := ak ((by rw [hg]; exact (below_size (by exact hopb HB.out)) : w.heap.size ≤ gb317)); have n3_ := n2_; clear HB; have HB := n0_; have BK317 := n1_; have GW317 := n2_; have GE317 := n3_; clear n0_ n1_ n2_ n3_; clear hb hbox hg; have hcz17_0 : w16.cell? ⟨gb317, 0, none⟩ = some (.slice none 0 0) := (blk_cell BK317.out 0).trans rfl; have hfz17_0 := blk_frozen BK317.out 0))
         go_ret
         exact ⟨by first | rfl | (simp [*, errW_none, errW_some] <;> rfl), by repeat (first | exact HB.out | apply bA | apply bN | apply bD | refine bS ?_ GE317.out)⟩
        ·rw [if_neg c15] at H
         have c15b0 : decide ((((rd_T53 l0 x11_1).f0).length : Int) < 2) = false := decide_eq_false c15
         have c15b1 : decide (((rd_T53 l0 x11_1).f0).length < 2) = false := decide_eq_false (by omega)
         clear c15
         by_cases c18 : (((rd_T53 l0 x11_1).f0).length : Int) > 4
         ·rw [if_pos c18] at H
          have c18b0 : decide (4 < (((rd_T53 l0 x11_1).f0).length : Int)) = true := decide_eq_true c18
          have c18b1 : decide (4 < ((rd_T53 l0 x11_1).f0).length) = true := decide_eq_true (by omega)
          clear c18
          obtain rfl := Option.some.inj H
          have p316 : 0 ≤ (x11_1 : Int) := of_decide_eq_true (by assumption)
          have q316 : x11_1 < (l0.length : Int) := of_decide_eq_true (by assumption)
          obtain ⟨ad316, A316_0, c316_0, e316, hx316_0, hl316_0, hi316_0⟩ := at_T53 HR0.out x11_1 p316 q316
          cases e316
          replace hx316_0 := bc HB.out hx316_0
          have HR316_0 := ak hi316_0
          have HC316_0 := ak hl316_0
          clear hi316_0 hl316_0
          replace p316 := eq_true p316
          replace q316 := eq_true q316
          go_wp2_with (first | ((with_reducible refine gate_dst (N := 4) rfl ?_); (try (refine gate_guard (by rfl) ?_; dsimp only)); refine box_event ?hg (N := 4) ?hd (cs := #[.slice none 0 0]) (t := 53) ?hr ?_; (case hd => rfl); (case hg => rfl); (case hr => first | (go_simp; done) | (go_simp; rfl)); intro gb317 hg w19 hbox hb; have n0_ := ak (below_step (by exact hopb HB.out) hb); have n1_ := ak (hbox); have n2_ := ak ((by rw [hg]; exact (below_size (by exact hopb HB.out)) : w.heap.size ≤ gb317)); have n3_ := n2_; clear HB; have HB := n0_; have BK317 := n1_; have GW317 := n2_; have GE317 := n3_; clear n0_ n1_ n2_ n3_; clear hb hbox hg; have hcz20_0 : w19.cell? ⟨gb317, 0, none⟩ = some (.slice none 0 0) := (blk_cell BK317.out 0).trans rfl; have hfz20_0 := blk_frozen BK317.out 0))
          go_ret
          exact ⟨by first | rfl | (simp [*, errW_none, errW_some] <;> rfl), by repeat (first | exact HB.out | apply bA | apply bN | apply bD | refine bS ?_ GE317.out)⟩
         ·rw [if_neg c18] at H
          have c18b0 : decide (4 < (((rd_T53 l0 x11_1).f0).length : Int)) = false := decide_eq_false c18
          have c18b1 : decide (4 < ((rd_T53 l0 x11_1).f0).length) = false := decide_eq_false (by omega)
          clear c18
          have H' := ak H
          clear H
          have p316 : 0 ≤ (x11_1 : Int) := of_decide_eq_true (by assumption)
          have q316 : x11_1 < (l0.length : Int) := of_decide_eq_true (by assumption)
          obtain ⟨ad316, A316_0, c316_0, e316, hx316_0, hl316_0, hi316_0⟩ := at_T53 HR0.out x11_1 p316 q316
          cases e316
          replace hx316_0 := bc HB.out hx316_0
          have HR316_0 := ak hi316_0
          have HC316_0 := ak hl316_0
          clear hi316_0 hl316_0
          replace p316 := eq_true p316
          replace q316 := eq_true q316
          go_wp2_with (first | ((with_reducible refine gate_dst (N := 4) rfl ?_); (try (refine gate_guard (by rfl) ?_; dsimp only)); refine box_event ?hg (N := 4) ?hd (cs := #[.slice none 0 0]) (t := 53) ?hr ?_; (case hd => rfl); (case hg => rfl); (case hr => first | (go_simp; done) | (go_simp; rfl)); intro gb317 hg w21 hbox hb; have n0_ := ak (below_step (by exact hopb HB.out) hb); have n1_ := ak (hbox); have n2_ := ak ((by rw [hg]; exact (below_size (by exact hopb HB.out)) : w.heap.size ≤ gb317)); have n3_ := n2_; clear HB; have HB := n0_; have BK317 := n1_; have GW317 := n2_; have GE317 := n3_; clear n0_ n1_ n2_ n3_; clear hb hbox hg; have hcz22_0 : w21.cell? ⟨gb317, 0, none⟩ = some (.slice none 0 0) := (blk_cell BK317.out 0).trans rfl; have hfz22_0 := blk_frozen BK317.out 0))
          go_roundg k1
          case measure => have := HK1.out; omega
          case rel => exact ⟨(wrap64 (x11_1 + 1)), (by first | rfl | (simp [*]; done)), H', ⟨by have := HK1.out; omega⟩, ⟨by repeat (first | exact HB.out | apply bA | apply bN | apply bD | refine bS ?_ GE317.out)⟩⟩
      ·rw [if_neg c5] at H
       exact absurd H (by simp)
     ·rw [if_neg c4] at H
      exact absurd H (by simp)
    ·rw [if_neg c3] at H
     have c3b0 : decide (x11_1 < (l0.length : Int)) = false := decide_eq_false c3
     clear c3
     replace H := Option.bind_eq_some_iff.mp H
     obtain ⟨t312, A230, H⟩ := H
     try dsimp only at H
     have A23 := ak A230
     clear A230
     replace H := Option.bind_eq_some_iff.mp H
     obtain ⟨t315, A240, H⟩ := H
     try dsimp only at H
     have A24 := ak A240
     clear A240
     obtain rfl := Option.some.inj H
     go_wp2_with (first | ((with_reducible refine gate_callee (f := 45) rfl ?_); refine goesL_ (some 31) rfl rfl Try.func45 (by kernel_rfl) rfl #[.slice A0 l0.length c0] rfl (by (try simp only [List.map_toArray, List.map_cons, List.map_nil]); first | done | rfl | (simp only [List.length_drop, List.length_take]; rfl)) ?_; (with_reducible refine (impl_allPairs.calls k1 _ _ l0 t312 _ ?side1 ?side2 A23.out).mono ?_); (case side1 => repeat (first | exact (Kd.C_below HR0.out HB.out) | (with_reducible refine Kd.C_alloc ?_ _) | (with_reducible refine Kd.C_drewN ?_ _) | (with_reducible refine Kd.C_drew ?_))); (case side2 => exact HC0.out); rintro e w25 ⟨v313, rfl, ho0, hb⟩; refine ⟨_, rfl, ?_⟩; have HO314 := ak (Kd.R_lower ho0 (below_size (by exact hopb HB.out))); replace HB := ak (below_step (by exact hopb HB.out) hb); (try clear hb); (try clear ho0); obtain ⟨Ao26, co26, eo26⟩ := Kd.R_slice HO314.out; subst eo26) | ((with_reducible refine gate_callee (f := 51) rfl ?_); refine goesL_ (some 32) rfl rfl Try.func51 (by kernel_rfl) rfl #[.slice Ao26 t312.length co26] rfl (by (try simp only [List.map_toArray, List.map_cons, List.map_nil]); first | done | rfl | (simp only [List.length_drop, List.length_take]; rfl)) ?_; (with_reducible refine (impl_PairsValid.calls k1 _ _ t312 t315 _ ?side1 ?side2 A24.out).mono ?_); (case side1 => repeat (first | exact (Kd.R_reads' HO314.out).2.2 | (with_reducible refine Kd.C_alloc ?_ _) | (with_reducible refine Kd.C_drewN ?_ _) | (with_reducible refine Kd.C_drew ?_))); (case side2 => exact (Kd.R_reads' HO314.out).2.1); rintro e w27 ⟨rfl, hb⟩; refine ⟨_, rfl, ?_⟩; replace HO314 := ak (Kd.R_below (by (with_reducible repeat (first | apply Kd.R_alloc | apply Kd.R_drewN | apply Kd.R_drew)); exact HO314.out) hb); replace HB := ak (below_step (by exact hopb HB.out) hb); (try clear hb)))
     go_ret
     exact ⟨by first | rfl | (simp [*, errW_none, errW_some] <;> rfl), by exact hopb HB.out⟩

/-! ### impl_copyOf_Pair: function 46 -/
def impl_copyOf_Pair.f (l0 : List (S65)) : Option (List (S65)) := if l0.length < 5864062014805 then some l0 else none
theorem impl_copyOf_Pair.calls (A0 : Option Addr) (c0 : Nat) (l0 : List (S65)) (r : List (S65)) (w : World) (hr0 : Kd.C k65 w A0 l0.length l0) (hc0 : l0.length ≤ c0) (h : impl_copyOf_Pair.f l0 = some r) :
  Calls Try.prog 46 #[.slice A0 l0.length c0] w fun e w' => ∃ v0_ : Value, e = .returned (v0_) ∧ Kd.R k65 65 w' w.heap.size (fun _ => True) v0_ r ∧ Below w.heap.size w w' := by
 have HR0 := ak hr0
 clear hr0 hc0
 have H : (if l0.length < 5864062014805 then some l0 else none) = some r := h
 clear h
 by_cases c3 : l0.length < 5864062014805
 ·rw [if_pos c3] at H
  have LM := ak c3
  clear c3
  obtain rfl := Option.some.inj H
  clear H
  go_enter Try.func46, Try.ntmps46
  go_wp2_with (first | ((with_reducible refine gate_builtin (b := .append) (xs := #[.const (.slice none 0 0), .tmp 3]) rfl ?_); (try (refine gate_guard (by rfl) ?_; dsimp only)); at_builtin; refine Kd.R_append_rows k65 (w0 := w) w.heap.size rfl (.const (.slice none 0 0)) (.tmp 3) 36 65 (.agg #[(.string ⟨#[]⟩), (.int .i64 0)]) 24 rfl Try.underlying36 info65 rfl (by decide) (by omega) (.slice none 0 0) [] l0 _ _ _ (fun _ => True) (fun _ => False) rfl rfl ?aO ?aR (fun _ _ h => h) (fun _ h => h.elim) ?aF ?aB ?aS ?aL ?_; (case aR => exact HR0.out); (case aB => exact Below.refl _ _); (case aF => exact (fun _ _ => trivial)); (case aO => exact Kd.R_nil _ _ _ _ _); (case aS => exact Nat.le_refl _); (case aL => have := LM.out; simp only [List.length_nil]; omega); intro v1 w1 ho hb hg hat; rw [List.nil_append] at ho; have HO1 := ak ho; have HB1 := ak hb; clear ho hb hg hat; obtain ⟨Ao1, co1, eo1⟩ := Kd.R_slice HO1.out; subst eo1))
  go_ret
  exact ⟨_, rfl, HO1.out, HB1.out⟩
 ·rw [if_neg c3] at H
  exact absurd H (by simp)

/-! ### impl_copyPages: function 31 -/
def impl_copyPages.l0 : Nat → List (S53) → List (S53) → Int → Int → Option ((List (S53)))
 | 0, _, _, _, _ => none
 | k + 1, x3, x6, x7, x8 => if x8 < x7 then (if 0 ≤ x8 then (if x8 < (x6.length : Int) then ((impl_copyOf_Pair.f ((rd_T53 x6 x8).f0)).bind fun t320 => (if x3.length < 5864062014805 then (impl_copyPages.l0 k (x3 ++ [(⟨t320⟩ : S53)]) x6 x7 (wrap64 (x8 + 1))) else (none))) else (none)) else (none)) else (some x3)
def impl_copyPages.f (k : Nat) (l0 : List (S53)) : Option ((List (S53))) := impl_copyPages.l0 k ([] : List (S53)) l0 (l0.length : Int) 0
theorem impl_copyPages.mono_l : ∀ k, (∀ y0 y1 y2 y3, LeO (impl_copyPages.l0 k y0 y1 y2 y3) (impl_copyPages.l0 (k + 1) y0 y1 y2 y3))
 | 0 => fun _ _ _ _ r h => by simp [impl_copyPages.l0] at h
 | k + 1 => by
  have ih0 := impl_copyPages.mono_l k
  ·intro y0 y1 y2 y3
   unfold impl_copyPages.l0
   repeat' first
   | (with_reducible exact ih0 _ _ _ _)
   | (with_reducible exact LeO.refl _)
   | (with_reducible exact LeO.none _)
   | (with_reducible refine LeO.ite ?_ ?_)
   | (with_reducible refine LeO.bind ?_ (fun _ => ?_))
   | exact ih0 _ _ _ _
   | exact LeO.none _
   | refine LeO.ite ?_ ?_
   | refine LeO.bind ?_ (fun _ => ?_)
theorem impl_copyPages.mono : ∀ a0 k, LeO (impl_copyPages.f k a0) (impl_copyPages.f (k + 1) a0) := by
 intro a0 k
 have ih0 := impl_copyPages.mono_l k
 unfold impl_copyPages.f
 repeat' first
   | (with_reducible exact ih0 _ _ _ _)
   | (with_reducible exact LeO.refl _)
   | (with_reducible exact LeO.none _)
   | (with_reducible refine LeO.ite ?_ ?_)
   | (with_reducible refine LeO.bind ?_ (fun _ => ?_))
   | exact ih0 _ _ _ _
   | exact LeO.none _
   | refine LeO.ite ?_ ?_
   | refine LeO.bind ?_ (fun _ => ?_)
theorem impl_copyPages.calls (k : Nat) (A0 : Option Addr) (c0 : Nat) (l0 : List (S53)) (r : List (S53)) (w : World) (hr0 : Kd.C k53 w A0 l0.length l0) (hc0 : l0.length ≤ c0) (h : impl_copyPages.f k l0 = some r) :
  Calls Try.prog 31 #[.slice A0 l0.length c0] w fun e w' => ∃ v0_ : Value, e = .returned (v0_) ∧ Kd.S k53 53 w' w.heap.size (fun _ => True) v0_ r ∧ Below w.heap.size w w' := by
 have hu53 := Try.underlying53
 have HR0 := ak hr0
 have HC0 := ak hc0
 clear hr0 hc0
 have HB := ak (Below.refl w.heap.size w)
 have H : (impl_copyPages.l0 k ([] : List (S53)) l0 (l0.length : Int) 0) = some r := h
 clear h
 have H' := ak H
 clear H
 go_enter Try.func31, Try.ntmps31
 go_wp2
 go_loopg [3, 8] k (fun kq v3 v8 w' => ∃ (x3_1 : List (S53)) (x8_1 : Int), v8 = .int .i64 x8_1 ∧ Aside0 (impl_copyPages.l0 kq x3_1 l0 (l0.length : Int) x8_1 = some r) ∧ Aside0 (kq ≤ k) ∧ Aside0 (Kd.S k53 53 w' w.heap.size (fun _ => True) v3 x3_1) ∧ Aside0 (Below w.heap.size w w'))
 case atStart => exact ⟨(([] : List (S53))), (0), (by first | rfl | (simp [*]; done)), H', ⟨Nat.le_refl _⟩, ⟨by first | exact Kd.S_nil _ _ _ _ _ | exact Kd.N_nil _ _ _ _ _ | exact Kd.V_nil _ _ _ _ _ | exact Kd.Q_nil _ _ _ _ _ | exact Kd.R_nil _ _ _ _ _⟩, ⟨by exact hopb HB.out⟩⟩
 case round =>
  clear H'
  obtain ⟨x3_1, x8_1, rfl, HA, HK1, HO_3, HB⟩ := hrel
  cases gk with
  | zero => exact absurd HA.out (by simp [impl_copyPages.l0])
  | succ k1 =>
   have H := HA.out
   clear HA
   simp only [impl_copyPages.l0] at H
   by_cases c2 : x8_1 < (l0.length : Int)
   ·rw [if_pos c2] at H
    have c2b0 : decide (x8_1 < (l0.length : Int)) = true := decide_eq_true c2
    clear c2
    by_cases c3 : 0 ≤ x8_1
    ·rw [if_pos c3] at H
     have c3b0 : decide (0 ≤ x8_1) = true := decide_eq_true c3
     clear c3
     by_cases c4 : x8_1 < (l0.length : Int)
     ·rw [if_pos c4] at H
      have c4b0 : decide (x8_1 < (l0.length : Int)) = true := decide_eq_true c4
      clear c4
      replace H := Option.bind_eq_some_iff.mp H
      obtain ⟨t320, A50, H⟩ := H
      try dsimp only at H
      have A5 := ak A50
      clear A50
      by_cases c6 : x3_1.length < 5864062014805
      ·rw [if_pos c6] at H
       have LMc6 := ak c6
       clear c6
       obtain ⟨y323, hy323⟩ : ∃ y_ : List (S53), y_ = (x3_1 ++ [(⟨t320⟩ : S53)]) := ⟨_, rfl⟩
       replace H : (impl_copyPages.l0 k1 y323 l0 (l0.length : Int) (wrap64 (x8_1 + 1))) = some r := by first | (rw [hy323]; exact H) | exact H
       have Ny323 := ak hy323
       clear hy323
       have H' := ak H
       clear H
       have p318 : 0 ≤ (x8_1 : Int) := of_decide_eq_true (by assumption)
       have q318 : x8_1 < (l0.length : Int) := of_decide_eq_true (by assumption)
       obtain ⟨ad318, A318_0, c318_0, e318, hx318_0, hl318_0, hi318_0⟩ := at_T53 HR0.out x8_1 p318 q318
       cases e318
       replace hx318_0 := bc HB.out hx318_0
       have HR318_0 := ak hi318_0
       have HC318_0 := ak hl318_0
       clear hi318_0 hl318_0
       replace p318 := eq_true p318
       replace q318 := eq_true q318
       go_wp2_with (first | ((with_reducible refine gate_dst (N := 5) rfl ?_); refine box_event ?hg (N := 5) ?hd (cs := #[.slice none 0 0]) (t := 53) ?hr ?_; (case hd => rfl); (case hg => rfl); (case hr => first | (go_simp; done) | (go_simp; rfl)); intro gb319 hg w7 hbox hb; have n0_ := ak (Kd.S_below (Kd.S_elderB (by (with_reducible repeat (first | apply Kd.S_alloc | apply Kd.S_drewN | apply Kd.S_drew)); exact HO_3.out) gb319 (Nat.le_of_eq hg.symm)) hb); have n1_ := ak (below_step (by exact hopb HB.out) hb); have n2_ := ak (hbox); have n3_ := ak ((by rw [hg]; exact (below_size (by exact hopb HB.out)) : w.heap.size ≤ gb319)); have n4_ := n3_; clear HO_3; clear HB; have HO_3 := n0_; have HB := n1_; have BK319 := n2_; have GW319 := n3_; have GE319 := n4_; clear n0_ n1_ n2_ n3_ n4_; clear hb hbox hg; have hcz8_0 : w7.cell? ⟨gb319, 0, none⟩ = some (.slice none 0 0) := (blk_cell BK319.out 0).trans rfl; have hfz8_0 := blk_frozen BK319.out 0) | ((with_reducible refine gate_callee (f := 46) rfl ?_); refine goesL_ (some 15) rfl rfl Try.func46 (by kernel_rfl) rfl #[.slice A318_0 ((rd_T53 l0 x8_1).f0).length c318_0] rfl (by (try simp only [List.map_toArray, List.map_cons, List.map_nil]); first | done | rfl | (simp only [List.length_drop, List.length_take]; rfl)) ?_; (with_reducible refine (impl_copyOf_Pair.calls _ _ ((rd_T53 l0 x8_1).f0) t320 _ ?side1 ?side2 A5.out).mono ?_); (case side1 => exact Kd.C_below HR318_0.out (by repeat (first | exact HB.out | apply bA | apply bN | apply bD | refine bS ?_ GE319.out))); (case side2 => exact HC318_0.out); rintro e w9 ⟨v321, rfl, ho0, hb⟩; refine ⟨_, rfl, ?_⟩; replace HO_3 := ak (Kd.S_elder' (by (with_reducible repeat (first | apply Kd.S_alloc | apply Kd.S_drewN | apply Kd.S_drew)); exact (Kd.S_mono (Kd.S_far (p := ⟨gb319, 0, none⟩) (Kd.S_mono HO_3.out (fun k_ hk => (⟨hk, hk.2⟩ : _ ∧ k_ ≠ gb319))) (fun _ hk => hk.2) (.slice A318_0 ((rd_T53 l0 x8_1).f0).length c318_0)) (fun _ h_ => h_.1))) (Kd.R_base ho0) hb); have HO322 := ak (Kd.R_lower ho0 (below_size (by repeat (first | exact HB.out | apply bA | apply bN | apply bD | refine bS ?_ GE319.out)))); replace BK319 := ak (blk_below (g := gb319) (o := .cells #[.slice A318_0 ((rd_T53 l0 x8_1).f0).length c318_0] 53 (0, 0)) (by (with_reducible repeat (first | refine kN ?_ _ | refine kD ?_ | refine kA ?_ _)); refine blk_put (cs := #[.slice none 0 0]) ?_ 0 _ rfl; exact hop BK319.out) hb); replace HB := ak (below_step (by repeat (first | exact HB.out | apply bA | apply bN | apply bD | refine bS ?_ GE319.out)) hb); (try clear hb); (try clear ho0); obtain ⟨Ao10, co10, eo10⟩ := Kd.R_slice HO322.out; subst eo10) | ((with_reducible refine gate_builtin (b := .append) (xs := #[.tmp 12, .tmp 17]) rfl ?_); at_builtin; refine Kd.S_append k53 (w0 := w) w.heap.size rfl (.tmp 12) (.tmp 17) 24 53 (.agg #[(.slice none 0 0)]) 24 rfl Try.underlying24 info53 rfl (by decide) (by omega) u3 x3_1 (⟨t320⟩ : S53) [.slice Ao10 t320.length co10] (fun k_ => k_ ≠ gb319) (fun k_ => some k_ = (.slice Ao10 t320.length co10 : Value).ownBlock) rfl rfl ?aP (fun k_ hk_ => ((Kd.R_mono (ok' := fun k_ => ((fun k_ => k_ ≠ gb319)) k_ ∧ some k_ ≠ (u3 : Value).ownBlock) (Kd.R_types (Kd.R_apart' (HO322.out) (Kd.S_typed HO_3.out) (by decide)) BK319.out (by decide)) (fun k_ hk => ⟨hk.2, hk.1.2⟩))).1 k_ hk_.symm) ?aF ?aO ?aB ?aS ?aL ?_; (case aP => exact k53_mkM _ _ _ (⟨t320⟩ : S53) (Kd.R_mono (Kd.R_tight rfl (Kd.R_mono (ok' := fun k_ => ((fun k_ => k_ ≠ gb319)) k_ ∧ some k_ ≠ (u3 : Value).ownBlock) (Kd.R_types (Kd.R_apart' (HO322.out) (Kd.S_typed HO_3.out) (by decide)) BK319.out (by decide)) (fun k_ hk => ⟨hk.2, hk.1.2⟩))) (fun _ h_ => h_))); (case aB => exact (by repeat (first | exact HB.out | apply bA | apply bN | apply bD | refine bS ?_ GE319.out))); (case aF => exact (fun k_ hk => Kd.freshB (g := gb319) (o := .cells #[.slice A318_0 ((rd_T53 l0 x8_1).f0).length c318_0] 53 (0, 0)) (by exact hop BK319.out) k_ hk)); (case aO => exact (by (with_reducible repeat (first | apply Kd.S_alloc | apply Kd.S_drewN | apply Kd.S_drew)); exact Kd.S_mono HO_3.out (fun k_ hk => ⟨hk.1.2, fun e_ => hk.2 e_⟩))); (case aS => exact (below_size (by repeat (first | exact HB.out | apply bA | apply bN | apply bD | refine bS ?_ GE319.out)))); (case aL => have := LMc6.out; omega); intro v324 w11 ho hb hg hat; rw [← Ny323.out] at ho; replace BK319 := ak (blk_grown (g := gb319) (o := .cells #[.slice A318_0 ((rd_T53 l0 x8_1).f0).length c318_0] 53 (0, 0)) (by exact hop BK319.out) hg (Kd.S_away HO_3.out (fun _ hk => hk.1.2))); replace HB := ak (hb); have HO325 := ak (ho); clear HO_3 HO322; clear ho hb hg hat))
       go_roundg k1
       case measure => have := HK1.out; omega
       case rel => exact ⟨(y323), (wrap64 (x8_1 + 1)), (by first | rfl | (simp [*]; done)), H', ⟨by have := HK1.out; omega⟩, ⟨by (with_reducible repeat (first | apply Kd.S_alloc | apply Kd.S_drewN | apply Kd.S_drew)); exact Kd.S_mono HO325.out (fun _ hk => trivial)⟩, ⟨by repeat (first | exact HB.out | apply bA | apply bN | apply bD | refine bS ?_ GE319.out)⟩⟩
      ·rw [if_neg c6] at H
       exact absurd H (by simp)
     ·rw [if_neg c4] at H
      exact absurd H (by simp)
    ·rw [if_neg c3] at H
     exact absurd H (by simp)
   ·rw [if_neg c2] at H
    have c2b0 : decide (x8_1 < (l0.length : Int)) = false := decide_eq_false c2
    clear c2
    obtain rfl := Option.some.inj H
    go_wp2
    go_ret
    exact ⟨_, by first | rfl | (simp [*, errW_none, errW_some] <;> rfl), by (with_reducible repeat (first | apply Kd.S_alloc | apply Kd.S_drewN | apply Kd.S_drew)); exact HO_3.out, by exact hopb HB.out⟩

/-! ### impl_pageOf: function 32 -/
def impl_pageOf.l0 : Nat → ByteArray → Int → List (S53) → Int → Int → Option (Int)
 | 0, _, _, _, _, _ => none
 | k + 1, x1, x5, x8, x9, x10 => if x10 < x9 then (if 0 ≤ x10 then (if x10 < (x8.length : Int) then (if 0 < (((rd_T53 x8 x10).f0).length : Int) then (if (Op.bytesLess (((rd_T65 ((rd_T53 x8 x10).f0) 0).f0).toList) x1.toList) = true then (impl_pageOf.l0 k x1 x10 x8 x9 (wrap64 (x10 + 1))) else (if ((rd_T65 ((rd_T53 x8 x10).f0) 0).f0).toList = x1.toList then (impl_pageOf.l0 k x1 x10 x8 x9 (wrap64 (x10 + 1))) else (impl_pageOf.l0 k x1 x5 x8 x9 (wrap64 (x10 + 1))))) else (none)) else (none)) else (none)) else (some x5)
def impl_pageOf.f (k : Nat) (l0 : List (S53)) (a1 : ByteArray) : Option (Int) := impl_pageOf.l0 k a1 0 l0 (l0.length : Int) 0
theorem impl_pageOf.mono_l : ∀ k, (∀ y0 y1 y2 y3 y4, LeO (impl_pageOf.l0 k y0 y1 y2 y3 y4) (impl_pageOf.l0 (k + 1) y0 y1 y2 y3 y4))
 | 0 => fun _ _ _ _ _ r h => by simp [impl_pageOf.l0] at h
 | k + 1 => by
  have ih0 := impl_pageOf.mono_l k
  ·intro y0 y1 y2 y3 y4
   unfold impl_pageOf.l0
   repeat' first
   | (with_reducible exact ih0 _ _ _ _ _)
   | (with_reducible exact LeO.refl _)
   | (with_reducible exact LeO.none _)
   | (with_reducible refine LeO.ite ?_ ?_)
   | (with_reducible refine LeO.bind ?_ (fun _ => ?_))
   | exact ih0 _ _ _ _ _
   | exact LeO.none _
   | refine LeO.ite ?_ ?_
   | refine LeO.bind ?_ (fun _ => ?_)
theorem impl_pageOf.mono : ∀ a0 a1 k, LeO (impl_pageOf.f k a0 a1) (impl_pageOf.f (k + 1) a0 a1) := by
 intro a0 a1 k
 have ih0 := impl_pageOf.mono_l k
 unfold impl_pageOf.f
 repeat' first
   | (with_reducible exact ih0 _ _ _ _ _)
   | (with_reducible exact LeO.refl _)
   | (with_reducible exact LeO.none _)
   | (with_reducible refine LeO.ite ?_ ?_)
   | (with_reducible refine LeO.bind ?_ (fun _ => ?_))
   | exact ih0 _ _ _ _ _
   | exact LeO.none _
   | refine LeO.ite ?_ ?_
   | refine LeO.bind ?_ (fun _ => ?_)
theorem impl_pageOf.calls (k : Nat) (A0 : Option Addr) (c0 : Nat) (l0 : List (S53)) (a1 : ByteArray) (r : Int) (w : World) (hr0 : Kd.C k53 w A0 l0.length l0) (hc0 : l0.length ≤ c0) (h : impl_pageOf.f k l0 a1 = some r) :
  Calls Try.prog 32 #[.slice A0 l0.length c0, .string a1] w fun e w' => e = .returned (.int .i64 r) ∧ Below w.heap.size w w' := by
 have hu53 := Try.underlying53
 have HR0 := ak hr0
 have HC0 := ak hc0
 clear hr0 hc0
 have HB := ak (Below.refl w.heap.size w)
 have H : (impl_pageOf.l0 k a1 0 l0 (l0.length : Int) 0) = some r := h
 clear h
 have H' := ak H
 clear H
 go_enter Try.func32, Try.ntmps32
 go_wp2
 go_loopg [5, 10] k (fun kq v5 v10 w' => ∃ (x5_1 : Int) (x10_1 : Int), v5 = .int .i64 x5_1 ∧ v10 = .int .i64 x10_1 ∧ Aside0 (impl_pageOf.l0 kq a1 x5_1 l0 (l0.length : Int) x10_1 = some r) ∧ Aside0 (kq ≤ k) ∧ Aside0 (Below w.heap.size w w'))
 case atStart => exact ⟨(0), (0), (by first | rfl | (simp [*]; done)), (by first | rfl | (simp [*]; done)), H', ⟨Nat.le_refl _⟩, ⟨by exact hopb HB.out⟩⟩
 case round =>
  clear H'
  try clear p2
  obtain ⟨x5_1, x10_1, rfl, rfl, HA, HK1, HB⟩ := hrel
  cases gk with
  | zero => exact absurd HA.out (by simp [impl_pageOf.l0])
  | succ k1 =>
   have H := HA.out
   clear HA
   simp only [impl_pageOf.l0] at H
   by_cases c3 : x10_1 < (l0.length : Int)
   ·rw [if_pos c3] at H
    have c3b0 : decide (x10_1 < (l0.length : Int)) = true := decide_eq_true c3
    clear c3
    by_cases c4 : 0 ≤ x10_1
    ·rw [if_pos c4] at H
     have c4b0 : decide (0 ≤ x10_1) = true := decide_eq_true c4
     clear c4
     by_cases c5 : x10_1 < (l0.length : Int)
     ·rw [if_pos c5] at H
      have c5b0 : decide (x10_1 < (l0.length : Int)) = true := decide_eq_true c5
      clear c5
      by_cases c6 : 0 < (((rd_T53 l0 x10_1).f0).length : Int)
      ·rw [if_pos c6] at H
       have c6b0 : decide (0 < (((rd_T53 l0 x10_1).f0).length : Int)) = true := decide_eq_true c6
       have c6b1 : decide (0 < ((rd_T53 l0 x10_1).f0).length) = true := decide_eq_true (by omega)
       clear c6
       by_cases c7 : (Op.bytesLess (((rd_T65 ((rd_T53 l0 x10_1).f0) 0).f0).toList) a1.toList) = true
       ·rw [if_pos c7] at H
        have c7b0 : (Op.bytesLess (((rd_T65 ((rd_T53 l0 x10_1).f0) 0).f0).toList) a1.toList) = true := c7
        clear c7
        have H' := ak H
        clear H
        have p326 : 0 ≤ (x10_1 : Int) := of_decide_eq_true (by assumption)
        have q326 : x10_1 < (l0.length : Int) := of_decide_eq_true (by assumption)
        obtain ⟨ad326, A326_0, c326_0, e326, hx326_0, hl326_0, hi326_0⟩ := at_T53 HR0.out x10_1 p326 q326
        cases e326
        replace hx326_0 := bc HB.out hx326_0
        have HR326_0 := ak hi326_0
        have HC326_0 := ak hl326_0
        clear hi326_0 hl326_0
        replace p326 := eq_true p326
        replace q326 := eq_true q326
        go_wp2_with (first | ((with_reducible refine gate_dst (N := 7) rfl ?_); refine box_event ?hg (N := 7) ?hd (cs := #[.slice none 0 0]) (t := 53) ?hr ?_; (case hd => rfl); (case hg => rfl); (case hr => first | (go_simp; done) | (go_simp; rfl)); intro gb327 hg w8 hbox hb; have n0_ := ak (below_step (by exact hopb HB.out) hb); have n1_ := ak (hbox); have n2_ := ak ((by rw [hg]; exact (below_size (by exact hopb HB.out)) : w.heap.size ≤ gb327)); have n3_ := n2_; clear HB; have HB := n0_; have BK327 := n1_; have GW327 := n2_; have GE327 := n3_; clear n0_ n1_ n2_ n3_; clear hb hbox hg; have hcz9_0 : w8.cell? ⟨gb327, 0, none⟩ = some (.slice none 0 0) := (blk_cell BK327.out 0).trans rfl; have hfz9_0 := blk_frozen BK327.out 0; have p328 : 0 ≤ (0 : Int) := (by omega); have q328 : 0 < (((rd_T53 l0 x10_1).f0).length : Int) := of_decide_eq_true (by assumption); obtain ⟨ad328, e328, hx328_0, hx328_1⟩ := at_T65 HR326_0.out 0 p328 q328; cases e328; have qi328 : (0 < ((rd_T53 l0 x10_1).f0).length) = True := eq_true (by omega); (try rw [show ((0 : Int)).toNat = 0 from rfl] at hx328_0); (try rw [show 0 * 2 = 0 from rfl] at hx328_0); (try rw [Addr.add_zero'] at hx328_0); (try rw [show ((0 : Int)).toNat = 0 from rfl] at hx328_1); (try rw [show 0 * 2 = 0 from rfl] at hx328_1); (try rw [Addr.add_zero'] at hx328_1); have hn328_0 : ad328.block ≠ gb327 := Nat.ne_of_lt (Nat.lt_of_lt_of_le (by have := World.block_lt_of_cell? _ _ hx328_0; first | rwa [add_block] at this | exact this) GW327.out); replace hx328_0 := (HB.out.cell (World.block_lt_of_cell? w _ hx328_0)).trans hx328_0; replace hx328_1 := (HB.out.cell (World.block_lt_of_cell? w _ hx328_1)).trans hx328_1; replace hx328_0 := (cell_far (p := ⟨gb327, 0, none⟩) (by first | (rw [add_block]; exact hn328_0) | (show (Addr.add _ _).block ≠ _; rw [add_block]; exact hn328_0) | exact hn328_0) (.slice (some ad328) ((rd_T53 l0 x10_1).f0).length c326_0)).trans hx328_0; replace hx328_1 := (cell_far (p := ⟨gb327, 0, none⟩) (by first | (rw [add_block]; exact hn328_0) | (show (Addr.add _ _).block ≠ _; rw [add_block]; exact hn328_0) | exact hn328_0) (.slice (some ad328) ((rd_T53 l0 x10_1).f0).length c326_0)).trans hx328_1; clear hn328_0; replace p328 := eq_true p328; replace q328 := eq_true q328))
        go_roundg k1
        case measure => have := HK1.out; omega
        case rel => exact ⟨(x10_1), (wrap64 (x10_1 + 1)), (by first | rfl | (simp [*]; done)), (by first | rfl | (simp [*]; done)), H', ⟨by have := HK1.out; omega⟩, ⟨by repeat (first | exact HB.out | apply bA | apply bN | apply bD | refine bS ?_ GE327.out)⟩⟩
       ·rw [if_neg c7] at H
        have c7b0 : (Op.bytesLess (((rd_T65 ((rd_T53 l0 x10_1).f0) 0).f0).toList) a1.toList) = false := by simpa using c7
        clear c7
        by_cases c10 : ((rd_T65 ((rd_T53 l0 x10_1).f0) 0).f0).toList = a1.toList
        ·rw [if_pos c10] at H
         have c10b0 : (((rd_T65 ((rd_T53 l0 x10_1).f0) 0).f0).toList == a1.toList) = true := beq_iff_eq.mpr c10
         have c10b1 : (((rd_T65 ((rd_T53 l0 x10_1).f0) 0).f0).toList != a1.toList) = false := bne_eq_false_iff_eq.mpr c10
         clear c10
         have H' := ak H
         clear H
         have p326 : 0 ≤ (x10_1 : Int) := of_decide_eq_true (by assumption)
         have q326 : x10_1 < (l0.length : Int) := of_decide_eq_true (by assumption)
         obtain ⟨ad326, A326_0, c326_0, e326, hx326_0, hl326_0, hi326_0⟩ := at_T53 HR0.out x10_1 p326 q326
         cases e326
         replace hx326_0 := bc HB.out hx326_0
         have HR326_0 := ak hi326_0
         have HC326_0 := ak hl326_0
         clear hi326_0 hl326_0
         replace p326 := eq_true p326
         replace q326 := eq_true q326
         go_wp2_with (first | ((with_reducible refine gate_dst (N := 7) rfl ?_); refine box_event ?hg (N := 7) ?hd (cs := #[.slice none 0 0]) (t := 53) ?hr ?_; (case hd => rfl); (case hg => rfl); (case hr => first | (go_simp; done) | (go_simp; rfl)); intro gb327 hg w11 hbox hb; have n0_ := ak (below_step (by exact hopb HB.out) hb); have n1_ := ak (hbox); have n2_ := ak ((by rw [hg]; exact (below_size (by exact hopb HB.out)) : w.heap.size ≤ gb327)); have n3_ := n2_; clear HB; have HB := n0_; have BK327 := n1_; have GW327 := n2_; have GE327 := n3_; clear n0_ n1_ n2_ n3_; clear hb hbox hg; have hcz12_0 : w11.cell? ⟨gb327, 0, none⟩ = some (.slice none 0 0) := (blk_cell BK327.out 0).trans rfl; have hfz12_0 := blk_frozen BK327.out 0; have p328 : 0 ≤ (0 : Int) := (by omega); have q328 : 0 < (((rd_T53 l0 x10_1).f0).length : Int) := of_decide_eq_true (by assumption); obtain ⟨ad328, e328, hx328_0, hx328_1⟩ := at_T65 HR326_0.out 0 p328 q328; cases e328; have qi328 : (0 < ((rd_T53 l0 x10_1).f0).length) = True := eq_true (by omega); (try rw [show ((0 : Int)).toNat = 0 from rfl] at hx328_0); (try rw [show 0 * 2 = 0 from rfl] at hx328_0); (try rw [Addr.add_zero'] at hx328_0); (try rw [show ((0 : Int)).toNat = 0 from rfl] at hx328_1); (try rw [show 0 * 2 = 0 from rfl] at hx328_1); (try rw [Addr.add_zero'] at hx328_1); have hn328_0 : ad328.block ≠ gb327 := Nat.ne_of_lt (Nat.lt_of_lt_of_le (by have := World.block_lt_of_cell? _ _ hx328_0; first | rwa [add_block] at this | exact this) GW327.out); replace hx328_0 := (HB.out.cell (World.block_lt_of_cell? w _ hx328_0)).trans hx328_0; replace hx328_1 := (HB.out.cell (World.block_lt_of_cell? w _ hx328_1)).trans hx328_1; replace hx328_0 := (cell_far (p := ⟨gb327, 0, none⟩) (by first | (rw [add_block]; exact hn328_0) | (show (Addr.add _ _).block ≠ _; rw [add_block]; exact hn328_0) | exact hn328_0) (.slice (some ad328) ((rd_T53 l0 x10_1).f0).length c326_0)).trans hx328_0; replace hx328_1 := (cell_far (p := ⟨gb327, 0, none⟩) (by first | (rw [add_block]; exact hn328_0) | (show (Addr.add _ _).block ≠ _; rw [add_block]; exact hn328_0) | exact hn328_0) (.slice (some ad328) ((rd_T53 l0 x10_1).f0).length c326_0)).trans hx328_1; clear hn328_0; replace p328 := eq_true p328; replace q328 := eq_true q328))
         go_roundg k1
         case measure => have := HK1.out; omega
         case rel => exact ⟨(x10_1), (wrap64 (x10_1 + 1)), (by first | rfl | (simp [*]; done)), (by first | rfl | (simp [*]; done)), H', ⟨by have := HK1.out; omega⟩, ⟨by repeat (first | exact HB.out | apply bA | apply bN | apply bD | refine bS ?_ GE327.out)⟩⟩
        ·rw [if_neg c10] at H
         have c10b0 : (((rd_T65 ((rd_T53 l0 x10_1).f0) 0).f0).toList == a1.toList) = false := beq_eq_false_iff_ne.mpr c10
         have c10b1 : (((rd_T65 ((rd_T53 l0 x10_1).f0) 0).f0).toList != a1.toList) = true := bne_iff_ne.mpr c10
         have H' := ak H
         clear H
         have p326 : 0 ≤ (x10_1 : Int) := of_decide_eq_true (by assumption)
         have q326 : x10_1 < (l0.length : Int) := of_decide_eq_true (by assumption)
         obtain ⟨ad326, A326_0, c326_0, e326, hx326_0, hl326_0, hi326_0⟩ := at_T53 HR0.out x10_1 p326 q326
         cases e326
         replace hx326_0 := bc HB.out hx326_0
         have HR326_0 := ak hi326_0
         have HC326_0 := ak hl326_0
         clear hi326_0 hl326_0
         replace p326 := eq_true p326
         replace q326 := eq_true q326
         go_wp2_with (first | ((with_reducible refine gate_dst (N := 7) rfl ?_); refine box_event ?hg (N := 7) ?hd (cs := #[.slice none 0 0]) (t := 53) ?hr ?_; (case hd => rfl); (case hg => rfl); (case hr => first | (go_simp; done) | (go_simp; rfl)); intro gb327 hg w13 hbox hb; have n0_ := ak (below_step (by exact hopb HB.out) hb); have n1_ := ak (hbox); have n2_ := ak ((by rw [hg]; exact (below_size (by exact hopb HB.out)) : w.heap.size ≤ gb327)); have n3_ := n2_; clear HB; have HB := n0_; have BK327 := n1_; have GW327 := n2_; have GE327 := n3_; clear n0_ n1_ n2_ n3_; clear hb hbox hg; have hcz14_0 : w13.cell? ⟨gb327, 0, none⟩ = some (.slice none 0 0) := (blk_cell BK327.out 0).trans rfl; have hfz14_0 := blk_frozen BK327.out 0; have p328 : 0 ≤ (0 : Int) := (by omega); have q328 : 0 < (((rd_T53 l0 x10_1).f0).length : Int) := of_decide_eq_true (by assumption); obtain ⟨ad328, e328, hx328_0, hx328_1⟩ := at_T65 HR326_0.out 0 p328 q328; cases e328; have qi328 : (0 < ((rd_T53 l0 x10_1).f0).length) = True := eq_true (by omega); (try rw [show ((0 : Int)).toNat = 0 from rfl] at hx328_0); (try rw [show 0 * 2 = 0 from rfl] at hx328_0); (try rw [Addr.add_zero'] at hx328_0); (try rw [show ((0 : Int)).toNat = 0 from rfl] at hx328_1); (try rw [show 0 * 2 = 0 from rfl] at hx328_1); (try rw [Addr.add_zero'] at hx328_1); have hn328_0 : ad328.block ≠ gb327 := Nat.ne_of_lt (Nat.lt_of_lt_of_le (by have := World.block_lt_of_cell? _ _ hx328_0; first | rwa [add_block] at this | exact this) GW327.out); replace hx328_0 := (HB.out.cell (World.block_lt_of_cell? w _ hx328_0)).trans hx328_0; replace hx328_1 := (HB.out.cell (World.block_lt_of_cell? w _ hx328_1)).trans hx328_1; replace hx328_0 := (cell_far (p := ⟨gb327, 0, none⟩) (by first | (rw [add_block]; exact hn328_0) | (show (Addr.add _ _).block ≠ _; rw [add_block]; exact hn328_0) | exact hn328_0) (.slice (some ad328) ((rd_T53 l0 x10_1).f0).length c326_0)).trans hx328_0; replace hx328_1 := (cell_far (p := ⟨gb327, 0, none⟩) (by first | (rw [add_block]; exact hn328_0) | (show (Addr.add _ _).block ≠ _; rw [add_block]; exact hn328_0) | exact hn328_0) (.slice (some ad328) ((rd_T53 l0 x10_1).f0).length c326_0)).trans hx328_1; clear hn328_0; replace p328 := eq_true p328; replace q328 := eq_true q328))
         go_roundg k1
         case measure => have := HK1.out; omega
         case rel => exact ⟨(x5_1), (wrap64 (x10_1 + 1)), (by first | rfl | (simp [*]; done)), (by first | rfl | (simp [*]; done)), H', ⟨by have := HK1.out; omega⟩, ⟨by repeat (first | exact HB.out | apply bA | apply bN | apply bD | refine bS ?_ GE327.out)⟩⟩
      ·rw [if_neg c6] at H
       exact absurd H (by simp)
     ·rw [if_neg c5] at H
      exact absurd H (by simp)
    ·rw [if_neg c4] at H
     exact absurd H (by simp)
   ·rw [if_neg c3] at H
    have c3b0 : decide (x10_1 < (l0.length : Int)) = false := decide_eq_false c3
    clear c3
    obtain rfl := Option.some.inj H
    go_wp2
    go_ret
    exact ⟨by first | rfl | (simp [*, errW_none, errW_some] <;> rfl), by exact hopb HB.out⟩

-- impl_Pair_string (function 65): told where it is called

/-! ### cmp_isNaN_string: function 73 -/
def cmp_isNaN_string.f (a0 : ByteArray) : Option (Bool) := some (a0.toList != a0.toList)
theorem cmp_isNaN_string.calls (a0 : ByteArray) (r : Bool) (w : World) (h : cmp_isNaN_string.f a0 = some r) :
  Calls Try.prog 73 #[.string a0] w fun e w' => e = .returned (.bool r) ∧ Drawn0 w w' := by
 have H : (some (a0.toList != a0.toList)) = some r := h
 clear h
 obtain rfl := Option.some.inj H
 go_enter Try.func73, Try.ntmps73
 go_wp2
 go_ret
 exact ⟨by first | rfl | (simp; done) | (simp [*]; done), by repeat (first | exact Drawn0.refl _ | apply Drawn0.step)⟩

end Go.Proofs.Ytengnnhehjcfhaa.PFnExactPagesDrop
