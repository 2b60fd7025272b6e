-- Written for this claim by a program of this session (wip/myprint in the proofs' repo)
import Derived.Test.YtengnnhehjcfhaaPFnExactPagesDropx0
import Derived.Test.YtengnnhehjcfhaaWZip
-- slim3
namespace Go.Proofs.Ytengnnhehjcfhaa.PFnExactPagesDrop
open Go.RowKit Go.Proofs.YtengnnhehjcfhaaW.PrintWords Go.Proofs.YtengnnhehjcfhaaW.PrintLast Go.Proofs.YtengnnhehjcfhaaW.PrintMore
attribute [local go_sem] max2_int min2_int max_two min_two max_three min_three max_four min_four max2_strs min2_strs   -- for this text's walks alone
set_option linter.unusedVariables false
set_option linter.unusedSimpArgs false
set_option maxHeartbeats 8000000
set_option maxRecDepth 100000

/-! ### laws_eqPair: function 71 -/
def laws_eqPair.f (a0_0 : ByteArray) (a0_1 : Int) (a1_0 : ByteArray) (a1_1 : Int) : Option (Bool) := if a0_0.toList = a1_0.toList then (if a0_1 = a1_1 then (some true) else (some false)) else (some false)
theorem laws_eqPair.calls (a0_0 : ByteArray) (a0_1 : Int) (a1_0 : ByteArray) (a1_1 : Int) (r : Bool) (w : World) (h : laws_eqPair.f a0_0 a0_1 a1_0 a1_1 = some r) :
  Calls Try.prog 71 #[.agg #[.string a0_0, .int .i64 a0_1], .agg #[.string a1_0, .int .i64 a1_1]] w fun e w' => e = .returned (.bool r) ∧ Below w.heap.size w w' := by
 have hu65 := Try.underlying65
 have HB := ak (Below.refl w.heap.size w)
 have H : (if a0_0.toList = a1_0.toList then (if a0_1 = a1_1 then (some true) else (some false)) else (some false)) = some r := h
 clear h
 by_cases c3 : a0_0.toList = a1_0.toList
 ·rw [if_pos c3] at H
  have c3b0 : (a0_0.toList == a1_0.toList) = true := beq_iff_eq.mpr c3
  have c3b1 : (a0_0.toList != a1_0.toList) = false := bne_eq_false_iff_eq.mpr c3
  clear c3
  by_cases c4 : a0_1 = a1_1
  ·rw [if_pos c4] at H
   have c4b0 : (a0_1 == a1_1) = true := beq_iff_eq.mpr c4
   have c4b1 : (a0_1 != a1_1) = false := bne_eq_false_iff_eq.mpr c4
   clear c4
   obtain rfl := Option.some.inj H
   go_enter Try.func71, Try.ntmps71
   go_wp2_with (first | ((with_reducible refine gate_dst (N := 2) rfl ?_); refine box_event ?hg (N := 2) ?hd (cs := #[.string a0_0, .int .i64 a0_1]) (t := 65) ?hr ?_; (case hd => rfl); (case hg => rfl); (case hr => first | (go_simp; done) | (go_simp; rfl)); intro gb342 hg w5 hbox hb; have n0_ := ak (below_step (by exact hopb HB.out) hb); have n1_ := ak (hbox); have n2_ := ak ((by rw [hg]; exact (below_size (by exact hopb HB.out)) : w.heap.size ≤ gb342)); have n3_ := n2_; clear HB; have HB := n0_; have BK342 := n1_; have GW342 := n2_; have GE342 := n3_; clear n0_ n1_ n2_ n3_; clear hb hbox hg) | ((with_reducible refine gate_dst (N := 3) rfl ?_); refine box_event ?hg (N := 3) ?hd (cs := #[.string a1_0, .int .i64 a1_1]) (t := 65) ?hr ?_; (case hd => rfl); (case hg => rfl); (case hr => first | (go_simp; done) | (go_simp; rfl)); intro gb343 hg w6 hbox hb; have n0_ := ak (blk_below (hop BK342.out) hb); have n1_ := ak (below_step (by repeat (first | exact HB.out | apply bA | apply bN | apply bD | refine bS ?_ GE342.out)) hb); have n2_ := ak (hbox); have n3_ := ak ((by rw [hg]; exact (below_size (by repeat (first | exact HB.out | apply bA | apply bN | apply bD | refine bS ?_ GE342.out))) : w.heap.size ≤ gb343)); have n4_ := n3_; have n5_ := ak ((by rw [hg]; exact Nat.ne_of_lt (blk_lt (hop BK342.out)) : gb342 ≠ gb343)); have n6_ := ak ((by rw [hg]; exact Nat.ne_of_gt (blk_lt (hop BK342.out)) : gb343 ≠ gb342)); clear BK342; clear HB; have BK342 := n0_; have HB := n1_; have BK343 := n2_; have GW343 := n3_; have GE343 := n4_; have NB342_343 := n5_; have NB343_342 := n6_; clear n0_ n1_ n2_ n3_ n4_ n5_ n6_; clear hb hbox hg; have hnb7 := NB342_343.out; have hnc7 := NB343_342.out; have hcz8_0 : w6.cell? ⟨gb342, 0, none⟩ = some (.string a0_0) := (blk_cell BK342.out 0).trans rfl; have hcz8_1 : w6.cell? ⟨gb342, 1, none⟩ = some (.int .i64 a0_1) := (blk_cell BK342.out 1).trans rfl; have hfz8_0 := blk_frozen BK342.out 0; have hfz8_1 := blk_frozen BK342.out 1; have hcz9_0 : w6.cell? ⟨gb343, 0, none⟩ = some (.string a1_0) := (blk_cell BK343.out 0).trans rfl; have hcz9_1 : w6.cell? ⟨gb343, 1, none⟩ = some (.int .i64 a1_1) := (blk_cell BK343.out 1).trans rfl; have hfz9_0 := blk_frozen BK343.out 0; have hfz9_1 := blk_frozen BK343.out 1))
   go_ret
   exact ⟨by first | rfl | (simp [*, errW_none, errW_some] <;> rfl), by repeat (first | exact HB.out | apply bA | apply bN | apply bD | refine bS ?_ GE342.out | refine bS ?_ GE343.out)⟩
  ·rw [if_neg c4] at H
   have c4b0 : (a0_1 == a1_1) = false := beq_eq_false_iff_ne.mpr c4
   have c4b1 : (a0_1 != a1_1) = true := bne_iff_ne.mpr c4
   obtain rfl := Option.some.inj H
   go_enter Try.func71, Try.ntmps71
   go_wp2_with (first | ((with_reducible refine gate_dst (N := 2) rfl ?_); refine box_event ?hg (N := 2) ?hd (cs := #[.string a0_0, .int .i64 a0_1]) (t := 65) ?hr ?_; (case hd => rfl); (case hg => rfl); (case hr => first | (go_simp; done) | (go_simp; rfl)); intro gb342 hg w10 hbox hb; have n0_ := ak (below_step (by exact hopb HB.out) hb); have n1_ := ak (hbox); have n2_ := ak ((by rw [hg]; exact (below_size (by exact hopb HB.out)) : w.heap.size ≤ gb342)); have n3_ := n2_; clear HB; have HB := n0_; have BK342 := n1_; have GW342 := n2_; have GE342 := n3_; clear n0_ n1_ n2_ n3_; clear hb hbox hg) | ((with_reducible refine gate_dst (N := 3) rfl ?_); refine box_event ?hg (N := 3) ?hd (cs := #[.string a1_0, .int .i64 a1_1]) (t := 65) ?hr ?_; (case hd => rfl); (case hg => rfl); (case hr => first | (go_simp; done) | (go_simp; rfl)); intro gb343 hg w11 hbox hb; have n0_ := ak (blk_below (hop BK342.out) hb); have n1_ := ak (below_step (by repeat (first | exact HB.out | apply bA | apply bN | apply bD | refine bS ?_ GE342.out)) hb); have n2_ := ak (hbox); have n3_ := ak ((by rw [hg]; exact (below_size (by repeat (first | exact HB.out | apply bA | apply bN | apply bD | refine bS ?_ GE342.out))) : w.heap.size ≤ gb343)); have n4_ := n3_; have n5_ := ak ((by rw [hg]; exact Nat.ne_of_lt (blk_lt (hop BK342.out)) : gb342 ≠ gb343)); have n6_ := ak ((by rw [hg]; exact Nat.ne_of_gt (blk_lt (hop BK342.out)) : gb343 ≠ gb342)); clear BK342; clear HB; have BK342 := n0_; have HB := n1_; have BK343 := n2_; have GW343 := n3_; have GE343 := n4_; have NB342_343 := n5_; have NB343_342 := n6_; clear n0_ n1_ n2_ n3_ n4_ n5_ n6_; clear hb hbox hg; have hnb12 := NB342_343.out; have hnc12 := NB343_342.out; have hcz13_0 : w11.cell? ⟨gb342, 0, none⟩ = some (.string a0_0) := (blk_cell BK342.out 0).trans rfl; have hcz13_1 : w11.cell? ⟨gb342, 1, none⟩ = some (.int .i64 a0_1) := (blk_cell BK342.out 1).trans rfl; have hfz13_0 := blk_frozen BK342.out 0; have hfz13_1 := blk_frozen BK342.out 1; have hcz14_0 : w11.cell? ⟨gb343, 0, none⟩ = some (.string a1_0) := (blk_cell BK343.out 0).trans rfl; have hcz14_1 : w11.cell? ⟨gb343, 1, none⟩ = some (.int .i64 a1_1) := (blk_cell BK343.out 1).trans rfl; have hfz14_0 := blk_frozen BK343.out 0; have hfz14_1 := blk_frozen BK343.out 1))
   go_ret
   exact ⟨by first | rfl | (simp [*, errW_none, errW_some] <;> rfl), by repeat (first | exact HB.out | apply bA | apply bN | apply bD | refine bS ?_ GE342.out | refine bS ?_ GE343.out)⟩
 ·rw [if_neg c3] at H
  have c3b0 : (a0_0.toList == a1_0.toList) = false := beq_eq_false_iff_ne.mpr c3
  have c3b1 : (a0_0.toList != a1_0.toList) = true := bne_iff_ne.mpr c3
  obtain rfl := Option.some.inj H
  go_enter Try.func71, Try.ntmps71
  go_wp2_with (first | ((with_reducible refine gate_dst (N := 2) rfl ?_); refine box_event ?hg (N := 2) ?hd (cs := #[.string a0_0, .int .i64 a0_1]) (t := 65) ?hr ?_; (case hd => rfl); (case hg => rfl); (case hr => first | (go_simp; done) | (go_simp; rfl)); intro gb342 hg w15 hbox hb; have n0_ := ak (below_step (by exact hopb HB.out) hb); have n1_ := ak (hbox); have n2_ := ak ((by rw [hg]; exact (below_size (by exact hopb HB.out)) : w.heap.size ≤ gb342)); have n3_ := n2_; clear HB; have HB := n0_; have BK342 := n1_; have GW342 := n2_; have GE342 := n3_; clear n0_ n1_ n2_ n3_; clear hb hbox hg) | ((with_reducible refine gate_dst (N := 3) rfl ?_); refine box_event ?hg (N := 3) ?hd (cs := #[.string a1_0, .int .i64 a1_1]) (t := 65) ?hr ?_; (case hd => rfl); (case hg => rfl); (case hr => first | (go_simp; done) | (go_simp; rfl)); intro gb343 hg w16 hbox hb; have n0_ := ak (blk_below (hop BK342.out) hb); have n1_ := ak (below_step (by repeat (first | exact HB.out | apply bA | apply bN | apply bD | refine bS ?_ GE342.out)) hb); have n2_ := ak (hbox); have n3_ := ak ((by rw [hg]; exact (below_size (by repeat (first | exact HB.out | apply bA | apply bN | apply bD | refine bS ?_ GE342.out))) : w.heap.size ≤ gb343)); have n4_ := n3_; have n5_ := ak ((by rw [hg]; exact Nat.ne_of_lt (blk_lt (hop BK342.out)) : gb342 ≠ gb343)); have n6_ := ak ((by rw [hg]; exact Nat.ne_of_gt (blk_lt (hop BK342.out)) : gb343 ≠ gb342)); clear BK342; clear HB; have BK342 := n0_; have HB := n1_; have BK343 := n2_; have GW343 := n3_; have GE343 := n4_; have NB342_343 := n5_; have NB343_342 := n6_; clear n0_ n1_ n2_ n3_ n4_ n5_ n6_; clear hb hbox hg; have hnb17 := NB342_343.out; have hnc17 := NB343_342.out; have hcz18_0 : w16.cell? ⟨gb342, 0, none⟩ = some (.string a0_0) := (blk_cell BK342.out 0).trans rfl; have hcz18_1 : w16.cell? ⟨gb342, 1, none⟩ = some (.int .i64 a0_1) := (blk_cell BK342.out 1).trans rfl; have hfz18_0 := blk_frozen BK342.out 0; have hfz18_1 := blk_frozen BK342.out 1; have hcz19_0 : w16.cell? ⟨gb343, 0, none⟩ = some (.string a1_0) := (blk_cell BK343.out 0).trans rfl; have hcz19_1 : w16.cell? ⟨gb343, 1, none⟩ = some (.int .i64 a1_1) := (blk_cell BK343.out 1).trans rfl; have hfz19_0 := blk_frozen BK343.out 0; have hfz19_1 := blk_frozen BK343.out 1))
  go_ret
  exact ⟨by first | rfl | (simp [*, errW_none, errW_some] <;> rfl), by repeat (first | exact HB.out | apply bA | apply bN | apply bD | refine bS ?_ GE342.out | refine bS ?_ GE343.out)⟩

/-! ### laws_eqPairS: function 58 -/
def laws_eqPairS.l0 : Nat → List (S65) → List (S65) → Int → Option (Bool)
 | 0, _, _, _ => none
 | k + 1, x0, x1, x5 => if x5 < (x0.length : Int) then (if 0 ≤ x5 then (if x5 < (x1.length : Int) then ((laws_eqPair.f ((rd_T65 x0 x5).f0) ((rd_T65 x0 x5).f1) ((rd_T65 x1 x5).f0) ((rd_T65 x1 x5).f1)).bind fun t346 => (if t346 = true then (laws_eqPairS.l0 k x0 x1 (wrap64 (x5 + 1))) else (some false))) else (none)) else (none)) else (some true)
def laws_eqPairS.f (k : Nat) (l0 : List (S65)) (l1 : List (S65)) : Option (Bool) := if (l0.length : Int) = (l1.length : Int) then (laws_eqPairS.l0 k l0 l1 0) else (some false)
theorem laws_eqPairS.mono_l : ∀ k, (∀ y0 y1 y2, LeO (laws_eqPairS.l0 k y0 y1 y2) (laws_eqPairS.l0 (k + 1) y0 y1 y2))
 | 0 => fun _ _ _ r h => by simp [laws_eqPairS.l0] at h
 | k + 1 => by
  have ih0 := laws_eqPairS.mono_l k
  ·intro y0 y1 y2
   unfold laws_eqPairS.l0
   repeat' first
   | (with_reducible exact ih0 _ _ _)
   | (with_reducible exact LeO.refl _)
   | (with_reducible exact LeO.none _)
   | (with_reducible refine LeO.ite ?_ ?_)
   | (with_reducible refine LeO.bind ?_ (fun _ => ?_))
   | exact ih0 _ _ _
   | exact LeO.none _
   | refine LeO.ite ?_ ?_
   | refine LeO.bind ?_ (fun _ => ?_)
theorem laws_eqPairS.mono : ∀ a0 a1 k, LeO (laws_eqPairS.f k a0 a1) (laws_eqPairS.f (k + 1) a0 a1) := by
 intro a0 a1 k
 have ih0 := laws_eqPairS.mono_l k
 unfold laws_eqPairS.f
 repeat' first
   | (with_reducible exact ih0 _ _ _)
   | (with_reducible exact LeO.refl _)
   | (with_reducible exact LeO.none _)
   | (with_reducible refine LeO.ite ?_ ?_)
   | (with_reducible refine LeO.bind ?_ (fun _ => ?_))
   | exact ih0 _ _ _
   | exact LeO.none _
   | refine LeO.ite ?_ ?_
   | refine LeO.bind ?_ (fun _ => ?_)
def laws_eqPairS.T6 : Bool × List (List Nat × List Nat) := (true, [([], []), ([], []), ([0, 1], [0, 1]), ([2], [2]), ([], []), ([], []), ([4, 5], [4, 5]), ([6], [6]), ([3, 7], [3, 7]), ([8], [8])])
def laws_eqPairS.B6 : List Nat := [0, 0, 3, 7, 0, 0, 48, 112, 255, 511]
theorem laws_eqPairS.tab6 : rtab .any (opsOf Try.f58 6) = laws_eqPairS.T6 := by kernel_rfl
theorem laws_eqPairS.bits6 : waitsOk laws_eqPairS.T6.2 laws_eqPairS.B6 = true := by kernel_rfl
theorem laws_eqPairS.calls (k : Nat) (A0 : Option Addr) (c0 : Nat) (l0 : List (S65)) (A1 : Option Addr) (c1 : Nat) (l1 : List (S65)) (r : Bool) (w : World) (hr0 : Kd.C k65 w A0 l0.length l0) (hc0 : l0.length ≤ c0) (hr1 : Kd.C k65 w A1 l1.length l1) (hc1 : l1.length ≤ c1) (h : laws_eqPairS.f k l0 l1 = some r) :
  Calls Try.prog 58 #[.slice A0 l0.length c0, .slice A1 l1.length c1] w fun e w' => e = .returned (.bool r) ∧ Below w.heap.size w w' := by
 have hu65 := Try.underlying65
 have HR0 := ak hr0
 have HC0 := ak hc0
 clear hr0 hc0
 have HR1 := ak hr1
 have HC1 := ak hc1
 clear hr1 hc1
 have HB := ak (Below.refl w.heap.size w)
 have H : (if (l0.length : Int) = (l1.length : Int) then (laws_eqPairS.l0 k l0 l1 0) else (some false)) = some r := h
 clear h
 by_cases c3 : (l0.length : Int) = (l1.length : Int)
 ·rw [if_pos c3] at H
  have c3b0 : ((l0.length : Int) == (l1.length : Int)) = true := beq_iff_eq.mpr c3
  have c3b1 : ((l0.length : Int) != (l1.length : Int)) = false := bne_eq_false_iff_eq.mpr c3
  have c3b2 : (l0.length == l1.length) = true := by first | simpa using c3 | (simp at c3 ⊢; omega)
  clear c3
  have H' := ak H
  clear H
  go_enter Try.func58, Try.ntmps58
  go_wp2
  go_loopg [5] k (fun kq v5 w' => ∃ (x5_1 : Int), v5 = .int .i64 x5_1 ∧ Aside0 (laws_eqPairS.l0 kq l0 l1 x5_1 = some r) ∧ Aside0 (kq ≤ k) ∧ Aside0 (Below w.heap.size w w'))
  case atStart => exact ⟨(0), (by first | rfl | (simp [*]; done)), H', ⟨Nat.le_refl _⟩, ⟨by exact hopb HB.out⟩⟩
  case round =>
   clear H'
   try clear c1
   try clear p2
   try clear c3
   try clear c3b0
   try clear c3b1
   try clear c3b2
   obtain ⟨x5_1, rfl, HA, HK1, HB⟩ := hrel
   cases gk with
   | zero => exact absurd HA.out (by simp [laws_eqPairS.l0])
   | succ k1 =>
    have H := HA.out
    clear HA
    simp only [laws_eqPairS.l0] at H
    by_cases c4 : x5_1 < (l0.length : Int)
    ·rw [if_pos c4] at H
     have c4b0 : decide (x5_1 < (l0.length : Int)) = true := decide_eq_true c4
     clear c4
     by_cases c5 : 0 ≤ x5_1
     ·rw [if_pos c5] at H
      have c5b0 : decide (0 ≤ x5_1) = true := decide_eq_true c5
      clear c5
      by_cases c6 : x5_1 < (l1.length : Int)
      ·rw [if_pos c6] at H
       have c6b0 : decide (x5_1 < (l1.length : Int)) = true := decide_eq_true c6
       clear c6
       replace H := Option.bind_eq_some_iff.mp H
       obtain ⟨t346, A70, H⟩ := H
       try dsimp only at H
       have A7 := ak A70
       clear A70
       by_cases c8 : t346 = true
       ·subst c8
        rw [if_pos rfl] at H
        have H' := ak H
        clear H
        try go_wp2
        replace HB := ak (below_drew1 HB.out)
        have p344 : 0 ≤ (x5_1 : Int) := of_decide_eq_true (by assumption)
        have q344 : x5_1 < (l0.length : Int) := of_decide_eq_true (by assumption)
        obtain ⟨ad344, e344, hx344_0, hx344_1⟩ := at_T65 HR0.out x5_1 p344 q344
        have hw344_1 := hx344_1
        have hw344_0 := hx344_0
        cases e344
        replace hx344_0 := bc HB.out hx344_0
        replace hx344_1 := bc HB.out hx344_1
        replace p344 := eq_true p344
        replace q344 := eq_true q344
        have p345 : 0 ≤ (x5_1 : Int) := of_decide_eq_true (by assumption)
        have q345 : x5_1 < (l1.length : Int) := of_decide_eq_true (by assumption)
        obtain ⟨ad345, e345, hx345_0, hx345_1⟩ := at_T65 HR1.out x5_1 p345 q345
        have hw345_1 := hx345_1
        have hw345_0 := hx345_0
        cases e345
        replace hx345_0 := bc HB.out hx345_0
        replace hx345_1 := bc HB.out hx345_1
        replace p345 := eq_true p345
        replace q345 := eq_true q345
        refine start_ (n := 10) (S := fun w' => w'.cell? (ad344.add ((x5_1).toNat * 2)) = some (.string ((rd_T65 l0 x5_1).f0)) ∧ w'.cell? ⟨(ad344.add ((x5_1).toNat * 2)).block, (ad344.add ((x5_1).toNat * 2)).off + 1, none⟩ = some (.int .i64 ((rd_T65 l0 x5_1).f1)) ∧ w'.cell? (ad345.add ((x5_1).toNat * 2)) = some (.string ((rd_T65 l1 x5_1).f0)) ∧ w'.cell? ⟨(ad345.add ((x5_1).toNat * 2)).block, (ad345.add ((x5_1).toNat * 2)).off + 1, none⟩ = some (.int .i64 ((rd_T65 l1 x5_1).f1))) (ds := []) #[U,U,U,U,U,U,U,U,U,U] (by kernel_rfl) rfl rfl ⟨(bc HB.out hw344_0), (bc HB.out hw344_1), (bc HB.out hw345_0), (bc HB.out hw345_1)⟩ (fun hHeld => ?_); refine with_tabW laws_eqPairS.tab6 laws_eqPairS.bits6 (fun HT_ HW_ => ?_)
        generalize wr.drew = w9 at HB hx344_0 hx344_1 hx345_0 hx345_1 hHeld ⊢
        refine pure_ (i := 0) (N := some 17) (v := ?_) (a' := ?_) #[T,U,U,U,U,U,U,U,U,U] rfl rfl (any_of HT_.out (by kernel_rfl)) (fun _ _ _ h => h) (Or.inl ⟨by rfl, ?_⟩) ?_ ?_
        rotate_left
        ·intro w'
         go_simp
         with_reducible rfl
        rotate_left
        ·simp only [Act.put, lT, lZ, lS, i64_w, i32_w]
         rfl
        refine pure_ (i := 1) (N := some 18) (v := ?_) (a' := ?_) #[T,T,U,U,U,U,U,U,U,U] rfl rfl (any_of HT_.out (by kernel_rfl)) (fun _ _ _ h => h) (Or.inl ⟨by rfl, ?_⟩) ?_ ?_
        rotate_left
        ·intro w'
         go_simp
         with_reducible rfl
        rotate_left
        ·simp only [Act.put, lT, lZ, lS, i64_w, i32_w]
         rfl
        refine pure_ (i := 2) (N := some 19) (v := ?_) (a' := ?_) #[T,T,T,U,U,U,U,U,U,U] rfl rfl (any_of HT_.out (by kernel_rfl)) (fun _ _ _ h => h) (Or.inl ⟨by rfl, ?_⟩) ?_ ?_
        rotate_left
        ·intro w'
         go_simp
         with_reducible rfl
        rotate_left
        ·simp only [Act.put, lT, lZ, lS, i64_w, i32_w]
         rfl
        refine pure_ (i := 4) (N := some 21) (v := ?_) (a' := ?_) #[T,T,T,U,T,U,U,U,U,U] rfl rfl (any_of HT_.out (by kernel_rfl)) (fun _ _ _ h => h) (Or.inl ⟨by rfl, ?_⟩) ?_ ?_
        rotate_left
        ·intro w'
         go_simp
         with_reducible rfl
        rotate_left
        ·simp only [Act.put, lT, lZ, lS, i64_w, i32_w]
         rfl
        refine pure_ (i := 5) (N := some 22) (v := ?_) (a' := ?_) #[T,T,T,U,T,T,U,U,U,U] rfl rfl (any_of HT_.out (by kernel_rfl)) (fun _ _ _ h => h) (Or.inl ⟨by rfl, ?_⟩) ?_ ?_
        rotate_left
        ·intro w'
         go_simp
         with_reducible rfl
        rotate_left
        ·simp only [Act.put, lT, lZ, lS, i64_w, i32_w]
         rfl
        refine pure_ (i := 6) (N := some 23) (v := ?_) (a' := ?_) #[T,T,T,U,T,T,T,U,U,U] rfl rfl (any_of HT_.out (by kernel_rfl)) (fun _ _ _ h => h) (Or.inl ⟨by rfl, ?_⟩) ?_ ?_
        rotate_left
        ·intro w'
         go_simp
         with_reducible rfl
        rotate_left
        ·simp only [Act.put, lT, lZ, lS, i64_w, i32_w]
         rfl
        refine take_ (i := 3) (N := some 20) (v := ?_) (a' := ?_) #[T,T,T,T,T,T,T,U,U,U] rfl rfl (take_ofW HT_.out HW_.out (by kernel_rfl)) (fun _ _ _ h => h) (Or.inl ⟨by rfl, ?_⟩) hHeld ?_ ?_
        rotate_left
        ·rintro w' ⟨s0, s1, s2, s3⟩
         go_simp
         with_reducible rfl
        rotate_left
        ·simp only [Act.put, lT, lZ, lS, i64_w, i32_w]
         rfl
        refine take_ (i := 7) (N := some 24) (v := ?_) (a' := ?_) #[T,T,T,T,T,T,T,T,U,U] rfl rfl (take_ofW HT_.out HW_.out (by kernel_rfl)) (fun _ _ _ h => h) (Or.inl ⟨by rfl, ?_⟩) hHeld ?_ ?_
        rotate_left
        ·rintro w' ⟨s0, s1, s2, s3⟩
         go_simp
         with_reducible rfl
        rotate_left
        ·simp only [Act.put, lT, lZ, lS, i64_w, i32_w]
         rfl
        refine one_ (i := 8) (N := some 25) #[T,T,T,T,T,T,T,T,T,U] rfl rfl (one_of HT_.out (by kernel_rfl)) (by decide) (fun K hK => ?_)
        refine goes_ Try.func71 (by kernel_rfl) rfl #[.agg #[.string ((rd_T65 l0 x5_1).f0), .int .i64 ((rd_T65 l0 x5_1).f1)], .agg #[.string ((rd_T65 l1 x5_1).f0), .int .i64 ((rd_T65 l1 x5_1).f1)]] (by rfl) rfl rfl (by (try simp only [List.map_toArray, List.map_cons, List.map_nil]); first | done | rfl | (simp only [List.length_drop, List.length_take]; rfl)) ?_
        with_reducible refine (laws_eqPair.calls ((rd_T65 l0 x5_1).f0) ((rd_T65 l0 x5_1).f1) ((rd_T65 l1 x5_1).f0) ((rd_T65 l1 x5_1).f1) true _ A7.out).mono ?_
        rintro e w10 ⟨rfl, hb⟩
        refine ⟨_, rfl, ?_⟩
        replace HB := ak (below_step (by exact hopb HB.out) hb)
        (try clear hb)
        (try clear hb2)
        (try clear hk)
        (try clear hi)
        refine hK.out _ _ ⟨(bc HB.out hw344_0), (bc HB.out hw344_1), (bc HB.out hw345_0), (bc HB.out hw345_1)⟩ (fun hHeld => ?_)
        clear hK K
        refine norm_ (a' := ?_) ?_ ?_
        rotate_left
        ·show Act.put _ (some 25) _ = _
         simp only [Act.put, lT, lZ, lS, i64_w, i32_w]
         rfl
        refine pure_ (i := 9) (N := some 26) (v := ?_) (a' := ?_) #[T,T,T,T,T,T,T,T,T,T] rfl rfl (any_of HT_.out (by kernel_rfl)) (fun _ _ _ h => h) (Or.inl ⟨by rfl, ?_⟩) ?_ ?_
        rotate_left
        ·intro w'
         go_simp
         with_reducible rfl
        rotate_left
        ·simp only [Act.put, lT, lZ, lS, i64_w, i32_w]
         rfl
        refine done_ (done_of HT_.out (by kernel_rfl)) ?_
        try go_wp2
        go_roundg k1
        case measure => have := HK1.out; omega
        case rel => exact ⟨(wrap64 (x5_1 + 1)), (by first | rfl | (simp [*]; done)), H', ⟨by have := HK1.out; omega⟩, ⟨by exact hopb HB.out⟩⟩
       ·replace c8 := Bool.eq_false_iff.mpr c8
        subst c8
        rw [if_neg (show ¬ (false = true) by decide)] at H
        obtain rfl := Option.some.inj H
        try go_wp2
        replace HB := ak (below_drew1 HB.out)
        have p344 : 0 ≤ (x5_1 : Int) := of_decide_eq_true (by assumption)
        have q344 : x5_1 < (l0.length : Int) := of_decide_eq_true (by assumption)
        obtain ⟨ad344, e344, hx344_0, hx344_1⟩ := at_T65 HR0.out x5_1 p344 q344
        have hw344_1 := hx344_1
        have hw344_0 := hx344_0
        cases e344
        replace hx344_0 := bc HB.out hx344_0
        replace hx344_1 := bc HB.out hx344_1
        replace p344 := eq_true p344
        replace q344 := eq_true q344
        have p345 : 0 ≤ (x5_1 : Int) := of_decide_eq_true (by assumption)
        have q345 : x5_1 < (l1.length : Int) := of_decide_eq_true (by assumption)
        obtain ⟨ad345, e345, hx345_0, hx345_1⟩ := at_T65 HR1.out x5_1 p345 q345
        have hw345_1 := hx345_1
        have hw345_0 := hx345_0
        cases e345
        replace hx345_0 := bc HB.out hx345_0
        replace hx345_1 := bc HB.out hx345_1
        replace p345 := eq_true p345
        replace q345 := eq_true q345
        refine start_ (n := 10) (S := fun w' => w'.cell? (ad344.add ((x5_1).toNat * 2)) = some (.string ((rd_T65 l0 x5_1).f0)) ∧ w'.cell? ⟨(ad344.add ((x5_1).toNat * 2)).block, (ad344.add ((x5_1).toNat * 2)).off + 1, none⟩ = some (.int .i64 ((rd_T65 l0 x5_1).f1)) ∧ w'.cell? (ad345.add ((x5_1).toNat * 2)) = some (.string ((rd_T65 l1 x5_1).f0)) ∧ w'.cell? ⟨(ad345.add ((x5_1).toNat * 2)).block, (ad345.add ((x5_1).toNat * 2)).off + 1, none⟩ = some (.int .i64 ((rd_T65 l1 x5_1).f1))) (ds := []) #[U,U,U,U,U,U,U,U,U,U] (by kernel_rfl) rfl rfl ⟨(bc HB.out hw344_0), (bc HB.out hw344_1), (bc HB.out hw345_0), (bc HB.out hw345_1)⟩ (fun hHeld => ?_); refine with_tabW laws_eqPairS.tab6 laws_eqPairS.bits6 (fun HT_ HW_ => ?_)
        generalize wr.drew = w11 at HB hx344_0 hx344_1 hx345_0 hx345_1 hHeld ⊢
        refine pure_ (i := 0) (N := some 17) (v := ?_) (a' := ?_) #[T,U,U,U,U,U,U,U,U,U] rfl rfl (any_of HT_.out (by kernel_rfl)) (fun _ _ _ h => h) (Or.inl ⟨by rfl, ?_⟩) ?_ ?_
        rotate_left
        ·intro w'
         go_simp
         with_reducible rfl
        rotate_left
        ·simp only [Act.put, lT, lZ, lS, i64_w, i32_w]
         rfl
        refine pure_ (i := 1) (N := some 18) (v := ?_) (a' := ?_) #[T,T,U,U,U,U,U,U,U,U] rfl rfl (any_of HT_.out (by kernel_rfl)) (fun _ _ _ h => h) (Or.inl ⟨by rfl, ?_⟩) ?_ ?_
        rotate_left
        ·intro w'
         go_simp
         with_reducible rfl
        rotate_left
        ·simp only [Act.put, lT, lZ, lS, i64_w, i32_w]
         rfl
        refine pure_ (i := 2) (N := some 19) (v := ?_) (a' := ?_) #[T,T,T,U,U,U,U,U,U,U] rfl rfl (any_of HT_.out (by kernel_rfl)) (fun _ _ _ h => h) (Or.inl ⟨by rfl, ?_⟩) ?_ ?_
        rotate_left
        ·intro w'
         go_simp
         with_reducible rfl
        rotate_left
        ·simp only [Act.put, lT, lZ, lS, i64_w, i32_w]
         rfl
        refine pure_ (i := 4) (N := some 21) (v := ?_) (a' := ?_) #[T,T,T,U,T,U,U,U,U,U] rfl rfl (any_of HT_.out (by kernel_rfl)) (fun _ _ _ h => h) (Or.inl ⟨by rfl, ?_⟩) ?_ ?_
        rotate_left
        ·intro w'
         go_simp
         with_reducible rfl
        rotate_left
        ·simp only [Act.put, lT, lZ, lS, i64_w, i32_w]
         rfl
        refine pure_ (i := 5) (N := some 22) (v := ?_) (a' := ?_) #[T,T,T,U,T,T,U,U,U,U] rfl rfl (any_of HT_.out (by kernel_rfl)) (fun _ _ _ h => h) (Or.inl ⟨by rfl, ?_⟩) ?_ ?_
        rotate_left
        ·intro w'
         go_simp
         with_reducible rfl
        rotate_left
        ·simp only [Act.put, lT, lZ, lS, i64_w, i32_w]
         rfl
        refine pure_ (i := 6) (N := some 23) (v := ?_) (a' := ?_) #[T,T,T,U,T,T,T,U,U,U] rfl rfl (any_of HT_.out (by kernel_rfl)) (fun _ _ _ h => h) (Or.inl ⟨by rfl, ?_⟩) ?_ ?_
        rotate_left
        ·intro w'
         go_simp
         with_reducible rfl
        rotate_left
        ·simp only [Act.put, lT, lZ, lS, i64_w, i32_w]
         rfl
        refine take_ (i := 3) (N := some 20) (v := ?_) (a' := ?_) #[T,T,T,T,T,T,T,U,U,U] rfl rfl (take_ofW HT_.out HW_.out (by kernel_rfl)) (fun _ _ _ h => h) (Or.inl ⟨by rfl, ?_⟩) hHeld ?_ ?_
        rotate_left
        ·rintro w' ⟨s0, s1, s2, s3⟩
         go_simp
         with_reducible rfl
        rotate_left
        ·simp only [Act.put, lT, lZ, lS, i64_w, i32_w]
         rfl
        refine take_ (i := 7) (N := some 24) (v := ?_) (a' := ?_) #[T,T,T,T,T,T,T,T,U,U] rfl rfl (take_ofW HT_.out HW_.out (by kernel_rfl)) (fun _ _ _ h => h) (Or.inl ⟨by rfl, ?_⟩) hHeld ?_ ?_
        rotate_left
        ·rintro w' ⟨s0, s1, s2, s3⟩
         go_simp
         with_reducible rfl
        rotate_left
        ·simp only [Act.put, lT, lZ, lS, i64_w, i32_w]
         rfl
        refine one_ (i := 8) (N := some 25) #[T,T,T,T,T,T,T,T,T,U] rfl rfl (one_of HT_.out (by kernel_rfl)) (by decide) (fun K hK => ?_)
        refine goes_ Try.func71 (by kernel_rfl) rfl #[.agg #[.string ((rd_T65 l0 x5_1).f0), .int .i64 ((rd_T65 l0 x5_1).f1)], .agg #[.string ((rd_T65 l1 x5_1).f0), .int .i64 ((rd_T65 l1 x5_1).f1)]] (by rfl) rfl rfl (by (try simp only [List.map_toArray, List.map_cons, List.map_nil]); first | done | rfl | (simp only [List.length_drop, List.length_take]; rfl)) ?_
        with_reducible refine (laws_eqPair.calls ((rd_T65 l0 x5_1).f0) ((rd_T65 l0 x5_1).f1) ((rd_T65 l1 x5_1).f0) ((rd_T65 l1 x5_1).f1) false _ A7.out).mono ?_
        rintro e w12 ⟨rfl, hb⟩
        refine ⟨_, rfl, ?_⟩
        replace HB := ak (below_step (by exact hopb HB.out) hb)
        (try clear hb)
        (try clear hb2)
        (try clear hk)
        (try clear hi)
        refine hK.out _ _ ⟨(bc HB.out hw344_0), (bc HB.out hw344_1), (bc HB.out hw345_0), (bc HB.out hw345_1)⟩ (fun hHeld => ?_)
        clear hK K
        refine norm_ (a' := ?_) ?_ ?_
        rotate_left
        ·show Act.put _ (some 25) _ = _
         simp only [Act.put, lT, lZ, lS, i64_w, i32_w]
         rfl
        refine pure_ (i := 9) (N := some 26) (v := ?_) (a' := ?_) #[T,T,T,T,T,T,T,T,T,T] rfl rfl (any_of HT_.out (by kernel_rfl)) (fun _ _ _ h => h) (Or.inl ⟨by rfl, ?_⟩) ?_ ?_
        rotate_left
        ·intro w'
         go_simp
         with_reducible rfl
        rotate_left
        ·simp only [Act.put, lT, lZ, lS, i64_w, i32_w]
         rfl
        refine done_ (done_of HT_.out (by kernel_rfl)) ?_
        try go_wp2
        go_ret
        exact ⟨by first | rfl | (simp [*, errW_none, errW_some] <;> rfl), by exact hopb HB.out⟩
      ·rw [if_neg c6] at H
       exact absurd H (by simp)
     ·rw [if_neg c5] at H
      exact absurd H (by simp)
    ·rw [if_neg c4] at H
     have c4b0 : decide (x5_1 < (l0.length : Int)) = false := decide_eq_false c4
     clear c4
     obtain rfl := Option.some.inj H
     go_wp2
     go_ret
     exact ⟨by first | rfl | (simp [*, errW_none, errW_some] <;> rfl), by exact hopb HB.out⟩
 ·rw [if_neg c3] at H
  have c3b0 : ((l0.length : Int) == (l1.length : Int)) = false := beq_eq_false_iff_ne.mpr c3
  have c3b1 : ((l0.length : Int) != (l1.length : Int)) = true := bne_iff_ne.mpr c3
  have c3b2 : (l0.length == l1.length) = false := by first | simpa using c3 | (simp at c3 ⊢; omega)
  obtain rfl := Option.some.inj H
  go_enter Try.func58, Try.ntmps58
  go_wp2
  go_ret
  exact ⟨by first | rfl | (simp [*, errW_none, errW_some] <;> rfl), by exact hopb HB.out⟩

/-! ### laws_eqPage: function 35 -/
def laws_eqPage.f (k : Nat) (l0_0 : List (S65)) (l1_0 : List (S65)) : Option (Bool) := (laws_eqPairS.f k l0_0 l1_0).bind fun t349 => (if t349 = true then (some true) else (some false))
theorem laws_eqPage.mono : ∀ a0 a1 k, LeO (laws_eqPage.f k a0 a1) (laws_eqPage.f (k + 1) a0 a1) := by
 intro a0 a1 k
 unfold laws_eqPage.f
 repeat' first
   | (with_reducible exact laws_eqPairS.mono _ _ _)
   | (with_reducible exact LeO.refl _)
   | (with_reducible exact LeO.none _)
   | (with_reducible refine LeO.ite ?_ ?_)
   | (with_reducible refine LeO.bind ?_ (fun _ => ?_))
   | exact LeO.none _
   | refine LeO.ite ?_ ?_
   | refine LeO.bind ?_ (fun _ => ?_)
theorem laws_eqPage.calls (k : Nat) (A0_0 : Option Addr) (c0_0 : Nat) (l0_0 : List (S65)) (A1_0 : Option Addr) (c1_0 : Nat) (l1_0 : List (S65)) (r : Bool) (w : World) (hr0_0 : Kd.C k65 w A0_0 l0_0.length l0_0) (hc0_0 : l0_0.length ≤ c0_0) (hr1_0 : Kd.C k65 w A1_0 l1_0.length l1_0) (hc1_0 : l1_0.length ≤ c1_0) (h : laws_eqPage.f k l0_0 l1_0 = some r) :
  Calls Try.prog 35 #[.agg #[.slice A0_0 l0_0.length c0_0], .agg #[.slice A1_0 l1_0.length c1_0]] w fun e w' => e = .returned (.bool r) ∧ Below w.heap.size w w' := by
 have hu53 := Try.underlying53
 have HR0_0 := ak hr0_0
 have HC0_0 := ak hc0_0
 clear hr0_0 hc0_0
 have HR1_0 := ak hr1_0
 have HC1_0 := ak hc1_0
 clear hr1_0 hc1_0
 have HB := ak (Below.refl w.heap.size w)
 have H : ((laws_eqPairS.f k l0_0 l1_0).bind fun t349 => (if t349 = true then (some true) else (some false))) = some r := h
 clear h
 replace H := Option.bind_eq_some_iff.mp H
 obtain ⟨t349, A30, H⟩ := H
 try dsimp only at H
 have A3 := ak A30
 clear A30
 by_cases c4 : t349 = true
 ·subst c4
  rw [if_pos rfl] at H
  obtain rfl := Option.some.inj H
  go_enter Try.func35, Try.ntmps35
  go_wp2_with (first | ((with_reducible refine gate_dst (N := 2) rfl ?_); refine box_event ?hg (N := 2) ?hd (cs := #[.slice A0_0 l0_0.length c0_0]) (t := 53) ?hr ?_; (case hd => rfl); (case hg => rfl); (case hr => first | (go_simp; done) | (go_simp; rfl)); intro gb347 hg w5 hbox hb; have n0_ := ak (below_step (by exact hopb HB.out) hb); have n1_ := ak (hbox); have n2_ := ak ((by rw [hg]; exact (below_size (by exact hopb HB.out)) : w.heap.size ≤ gb347)); have n3_ := n2_; clear HB; have HB := n0_; have BK347 := n1_; have GW347 := n2_; have GE347 := n3_; clear n0_ n1_ n2_ n3_; clear hb hbox hg) | ((with_reducible refine gate_dst (N := 3) rfl ?_); refine box_event ?hg (N := 3) ?hd (cs := #[.slice A1_0 l1_0.length c1_0]) (t := 53) ?hr ?_; (case hd => rfl); (case hg => rfl); (case hr => first | (go_simp; done) | (go_simp; rfl)); intro gb348 hg w6 hbox hb; have n0_ := ak (blk_below (hop BK347.out) hb); have n1_ := ak (below_step (by repeat (first | exact HB.out | apply bA | apply bN | apply bD | refine bS ?_ GE347.out)) hb); have n2_ := ak (hbox); have n3_ := ak ((by rw [hg]; exact (below_size (by repeat (first | exact HB.out | apply bA | apply bN | apply bD | refine bS ?_ GE347.out))) : w.heap.size ≤ gb348)); have n4_ := n3_; have n5_ := ak ((by rw [hg]; exact Nat.ne_of_lt (blk_lt (hop BK347.out)) : gb347 ≠ gb348)); have n6_ := ak ((by rw [hg]; exact Nat.ne_of_gt (blk_lt (hop BK347.out)) : gb348 ≠ gb347)); clear BK347; clear HB; have BK347 := n0_; have HB := n1_; have BK348 := n2_; have GW348 := n3_; have GE348 := n4_; have NB347_348 := n5_; have NB348_347 := n6_; clear n0_ n1_ n2_ n3_ n4_ n5_ n6_; clear hb hbox hg; have hnb7 := NB347_348.out; have hnc7 := NB348_347.out; have hcz8_0 : w6.cell? ⟨gb347, 0, none⟩ = some (.slice A0_0 l0_0.length c0_0) := (blk_cell BK347.out 0).trans rfl; have hfz8_0 := blk_frozen BK347.out 0; have hcz9_0 : w6.cell? ⟨gb348, 0, none⟩ = some (.slice A1_0 l1_0.length c1_0) := (blk_cell BK348.out 0).trans rfl; have hfz9_0 := blk_frozen BK348.out 0) | ((with_reducible refine gate_callee (f := 58) rfl ?_); refine goesL_ (some 9) rfl rfl Try.func58 (by kernel_rfl) rfl #[.slice A0_0 l0_0.length c0_0, .slice A1_0 l1_0.length c1_0] rfl (by (try simp only [List.map_toArray, List.map_cons, List.map_nil]); first | done | rfl | (simp only [List.length_drop, List.length_take]; rfl)) ?_; (with_reducible refine (laws_eqPairS.calls k _ _ l0_0 _ _ l1_0 true _ ?side1 ?side2 ?side3 ?side4 A3.out).mono ?_); (case side1 => repeat (first | exact (Kd.C_below HR0_0.out HB.out) | (with_reducible refine Kd.C_alloc ?_ _) | (with_reducible refine Kd.C_drewN ?_ _) | (with_reducible refine Kd.C_drew ?_))); (case side2 => exact HC0_0.out); (case side3 => repeat (first | exact (Kd.C_below HR1_0.out HB.out) | (with_reducible refine Kd.C_alloc ?_ _) | (with_reducible refine Kd.C_drewN ?_ _) | (with_reducible refine Kd.C_drew ?_))); (case side4 => exact HC1_0.out); rintro e w10 ⟨rfl, hb⟩; refine ⟨_, rfl, ?_⟩; replace BK347 := ak (blk_below (hop BK347.out) hb); replace BK348 := ak (blk_below (hop BK348.out) hb); replace HB := ak (below_step (by repeat (first | exact HB.out | apply bA | apply bN | apply bD | refine bS ?_ GE347.out | refine bS ?_ GE348.out)) hb); (try clear hb)))
  go_ret
  exact ⟨by first | rfl | (simp [*, errW_none, errW_some] <;> rfl), by repeat (first | exact HB.out | apply bA | apply bN | apply bD | refine bS ?_ GE347.out | refine bS ?_ GE348.out)⟩
 ·replace c4 := Bool.eq_false_iff.mpr c4
  subst c4
  rw [if_neg (show ¬ (false = true) by decide)] at H
  obtain rfl := Option.some.inj H
  go_enter Try.func35, Try.ntmps35
  go_wp2_with (first | ((with_reducible refine gate_dst (N := 2) rfl ?_); refine box_event ?hg (N := 2) ?hd (cs := #[.slice A0_0 l0_0.length c0_0]) (t := 53) ?hr ?_; (case hd => rfl); (case hg => rfl); (case hr => first | (go_simp; done) | (go_simp; rfl)); intro gb347 hg w11 hbox hb; have n0_ := ak (below_step (by exact hopb HB.out) hb); have n1_ := ak (hbox); have n2_ := ak ((by rw [hg]; exact (below_size (by exact hopb HB.out)) : w.heap.size ≤ gb347)); have n3_ := n2_; clear HB; have HB := n0_; have BK347 := n1_; have GW347 := n2_; have GE347 := n3_; clear n0_ n1_ n2_ n3_; clear hb hbox hg) | ((with_reducible refine gate_dst (N := 3) rfl ?_); refine box_event ?hg (N := 3) ?hd (cs := #[.slice A1_0 l1_0.length c1_0]) (t := 53) ?hr ?_; (case hd => rfl); (case hg => rfl); (case hr => first | (go_simp; done) | (go_simp; rfl)); intro gb348 hg w12 hbox hb; have n0_ := ak (blk_below (hop BK347.out) hb); have n1_ := ak (below_step (by repeat (first | exact HB.out | apply bA | apply bN | apply bD | refine bS ?_ GE347.out)) hb); have n2_ := ak (hbox); have n3_ := ak ((by rw [hg]; exact (below_size (by repeat (first | exact HB.out | apply bA | apply bN | apply bD | refine bS ?_ GE347.out))) : w.heap.size ≤ gb348)); have n4_ := n3_; have n5_ := ak ((by rw [hg]; exact Nat.ne_of_lt (blk_lt (hop BK347.out)) : gb347 ≠ gb348)); have n6_ := ak ((by rw [hg]; exact Nat.ne_of_gt (blk_lt (hop BK347.out)) : gb348 ≠ gb347)); clear BK347; clear HB; have BK347 := n0_; have HB := n1_; have BK348 := n2_; have GW348 := n3_; have GE348 := n4_; have NB347_348 := n5_; have NB348_347 := n6_; clear n0_ n1_ n2_ n3_ n4_ n5_ n6_; clear hb hbox hg; have hnb13 := NB347_348.out; have hnc13 := NB348_347.out; have hcz14_0 : w12.cell? ⟨gb347, 0, none⟩ = some (.slice A0_0 l0_0.length c0_0) := (blk_cell BK347.out 0).trans rfl; have hfz14_0 := blk_frozen BK347.out 0; have hcz15_0 : w12.cell? ⟨gb348, 0, none⟩ = some (.slice A1_0 l1_0.length c1_0) := (blk_cell BK348.out 0).trans rfl; have hfz15_0 := blk_frozen BK348.out 0) | ((with_reducible refine gate_callee (f := 58) rfl ?_); refine goesL_ (some 9) rfl rfl Try.func58 (by kernel_rfl) rfl #[.slice A0_0 l0_0.length c0_0, .slice A1_0 l1_0.length c1_0] rfl (by (try simp only [List.map_toArray, List.map_cons, List.map_nil]); first | done | rfl | (simp only [List.length_drop, List.length_take]; rfl)) ?_; (with_reducible refine (laws_eqPairS.calls k _ _ l0_0 _ _ l1_0 false _ ?side1 ?side2 ?side3 ?side4 A3.out).mono ?_); (case side1 => repeat (first | exact (Kd.C_below HR0_0.out HB.out) | (with_reducible refine Kd.C_alloc ?_ _) | (with_reducible refine Kd.C_drewN ?_ _) | (with_reducible refine Kd.C_drew ?_))); (case side2 => exact HC0_0.out); (case side3 => repeat (first | exact (Kd.C_below HR1_0.out HB.out) | (with_reducible refine Kd.C_alloc ?_ _) | (with_reducible refine Kd.C_drewN ?_ _) | (with_reducible refine Kd.C_drew ?_))); (case side4 => exact HC1_0.out); rintro e w16 ⟨rfl, hb⟩; refine ⟨_, rfl, ?_⟩; replace BK347 := ak (blk_below (hop BK347.out) hb); replace BK348 := ak (blk_below (hop BK348.out) hb); replace HB := ak (below_step (by repeat (first | exact HB.out | apply bA | apply bN | apply bD | refine bS ?_ GE347.out | refine bS ?_ GE348.out)) hb); (try clear hb)))
  go_ret
  exact ⟨by first | rfl | (simp [*, errW_none, errW_some] <;> rfl), by repeat (first | exact HB.out | apply bA | apply bN | apply bD | refine bS ?_ GE347.out | refine bS ?_ GE348.out)⟩

/-! ### laws_eqPageS: function 10 -/
def laws_eqPageS.l0 : Nat → List (S53) → List (S53) → Int → Option (Bool)
 | 0, _, _, _ => none
 | k + 1, x0, x1, x5 => if x5 < (x0.length : Int) then (if 0 ≤ x5 then (if x5 < (x1.length : Int) then ((laws_eqPage.f k ((rd_T53 x0 x5).f0) ((rd_T53 x1 x5).f0)).bind fun t352 => (if t352 = true then (laws_eqPageS.l0 k x0 x1 (wrap64 (x5 + 1))) else (some false))) else (none)) else (none)) else (some true)
def laws_eqPageS.f (k : Nat) (l0 : List (S53)) (l1 : List (S53)) : Option (Bool) := if (l0.length : Int) = (l1.length : Int) then (laws_eqPageS.l0 k l0 l1 0) else (some false)
theorem laws_eqPageS.mono_l : ∀ k, (∀ y0 y1 y2, LeO (laws_eqPageS.l0 k y0 y1 y2) (laws_eqPageS.l0 (k + 1) y0 y1 y2))
 | 0 => fun _ _ _ r h => by simp [laws_eqPageS.l0] at h
 | k + 1 => by
  have ih0 := laws_eqPageS.mono_l k
  ·intro y0 y1 y2
   unfold laws_eqPageS.l0
   repeat' first
   | (with_reducible exact ih0 _ _ _)
   | (with_reducible exact laws_eqPage.mono _ _ _)
   | (with_reducible exact LeO.refl _)
   | (with_reducible exact LeO.none _)
   | (with_reducible refine LeO.ite ?_ ?_)
   | (with_reducible refine LeO.bind ?_ (fun _ => ?_))
   | exact ih0 _ _ _
   | exact LeO.none _
   | refine LeO.ite ?_ ?_
   | refine LeO.bind ?_ (fun _ => ?_)
theorem laws_eqPageS.mono : ∀ a0 a1 k, LeO (laws_eqPageS.f k a0 a1) (laws_eqPageS.f (k + 1) a0 a1) := by
 intro a0 a1 k
 have ih0 := laws_eqPageS.mono_l k
 unfold laws_eqPageS.f
 repeat' first
   | (with_reducible exact ih0 _ _ _)
   | (with_reducible exact laws_eqPage.mono _ _ _)
   | (with_reducible exact LeO.refl _)
   | (with_reducible exact LeO.none _)
   | (with_reducible refine LeO.ite ?_ ?_)
   | (with_reducible refine LeO.bind ?_ (fun _ => ?_))
   | exact ih0 _ _ _
   | exact LeO.none _
   | refine LeO.ite ?_ ?_
   | refine LeO.bind ?_ (fun _ => ?_)
def laws_eqPageS.T6 : Bool × List (List Nat × List Nat) := (true, [([], []), ([], []), ([0, 1], [0, 1]), ([2], [2]), ([], []), ([], []), ([4, 5], [4, 5]), ([6], [6]), ([3, 7], [3, 7]), ([8], [8])])
def laws_eqPageS.B6 : List Nat := [0, 0, 3, 7, 0, 0, 48, 112, 255, 511]
theorem laws_eqPageS.tab6 : rtab .any (opsOf Try.f10 6) = laws_eqPageS.T6 := by kernel_rfl
theorem laws_eqPageS.bits6 : waitsOk laws_eqPageS.T6.2 laws_eqPageS.B6 = true := by kernel_rfl
theorem laws_eqPageS.calls (k : Nat) (A0 : Option Addr) (c0 : Nat) (l0 : List (S53)) (A1 : Option Addr) (c1 : Nat) (l1 : List (S53)) (r : Bool) (w : World) (hr0 : Kd.C k53 w A0 l0.length l0) (hc0 : l0.length ≤ c0) (hr1 : Kd.C k53 w A1 l1.length l1) (hc1 : l1.length ≤ c1) (h : laws_eqPageS.f k l0 l1 = some r) :
  Calls Try.prog 10 #[.slice A0 l0.length c0, .slice A1 l1.length c1] w fun e w' => e = .returned (.bool r) ∧ Below w.heap.size w w' := by
 have hu53 := Try.underlying53
 have HR0 := ak hr0
 have HC0 := ak hc0
 clear hr0 hc0
 have HR1 := ak hr1
 have HC1 := ak hc1
 clear hr1 hc1
 have HB := ak (Below.refl w.heap.size w)
 have H : (if (l0.length : Int) = (l1.length : Int) then (laws_eqPageS.l0 k l0 l1 0) else (some false)) = some r := h
 clear h
 by_cases c3 : (l0.length : Int) = (l1.length : Int)
 ·rw [if_pos c3] at H
  have c3b0 : ((l0.length : Int) == (l1.length : Int)) = true := beq_iff_eq.mpr c3
  have c3b1 : ((l0.length : Int) != (l1.length : Int)) = false := bne_eq_false_iff_eq.mpr c3
  have c3b2 : (l0.length == l1.length) = true := by first | simpa using c3 | (simp at c3 ⊢; omega)
  clear c3
  have H' := ak H
  clear H
  go_enter Try.func10, Try.ntmps10
  go_wp2
  go_loopg [5] k (fun kq v5 w' => ∃ (x5_1 : Int), v5 = .int .i64 x5_1 ∧ Aside0 (laws_eqPageS.l0 kq l0 l1 x5_1 = some r) ∧ Aside0 (kq ≤ k) ∧ Aside0 (Below w.heap.size w w'))
  case atStart => exact ⟨(0), (by first | rfl | (simp [*]; done)), H', ⟨Nat.le_refl _⟩, ⟨by exact hopb HB.out⟩⟩
  case round =>
   clear H'
   try clear c1
   try clear p2
   try clear c3
   try clear c3b0
   try clear c3b1
   try clear c3b2
   obtain ⟨x5_1, rfl, HA, HK1, HB⟩ := hrel
   cases gk with
   | zero => exact absurd HA.out (by simp [laws_eqPageS.l0])
   | succ k1 =>
    have H := HA.out
    clear HA
    simp only [laws_eqPageS.l0] at H
    by_cases c4 : x5_1 < (l0.length : Int)
    ·rw [if_pos c4] at H
     have c4b0 : decide (x5_1 < (l0.length : Int)) = true := decide_eq_true c4
     clear c4
     by_cases c5 : 0 ≤ x5_1
     ·rw [if_pos c5] at H
      have c5b0 : decide (0 ≤ x5_1) = true := decide_eq_true c5
      clear c5
      by_cases c6 : x5_1 < (l1.length : Int)
      ·rw [if_pos c6] at H
       have c6b0 : decide (x5_1 < (l1.length : Int)) = true := decide_eq_true c6
       clear c6
       replace H := Option.bind_eq_some_iff.mp H
       obtain ⟨t352, A70, H⟩ := H
       try dsimp only at H
       have A7 := ak A70
       clear A70
       by_cases c8 : t352 = true
       ·subst c8
        rw [if_pos rfl] at H
        have H' := ak H
        clear H
        try go_wp2
        replace HB := ak (below_drew1 HB.out)
        have p350 : 0 ≤ (x5_1 : Int) := of_decide_eq_true (by assumption)
        have q350 : x5_1 < (l0.length : Int) := of_decide_eq_true (by assumption)
        obtain ⟨ad350, A350_0, c350_0, e350, hx350_0, hl350_0, hi350_0⟩ := at_T53 HR0.out x5_1 p350 q350
        have hw350_0 := hx350_0
        cases e350
        replace hx350_0 := bc HB.out hx350_0
        have HR350_0 := ak hi350_0
        have HC350_0 := ak hl350_0
        clear hi350_0 hl350_0
        replace p350 := eq_true p350
        replace q350 := eq_true q350
        have p351 : 0 ≤ (x5_1 : Int) := of_decide_eq_true (by assumption)
        have q351 : x5_1 < (l1.length : Int) := of_decide_eq_true (by assumption)
        obtain ⟨ad351, A351_0, c351_0, e351, hx351_0, hl351_0, hi351_0⟩ := at_T53 HR1.out x5_1 p351 q351
        have hw351_0 := hx351_0
        cases e351
        replace hx351_0 := bc HB.out hx351_0
        have HR351_0 := ak hi351_0
        have HC351_0 := ak hl351_0
        clear hi351_0 hl351_0
        replace p351 := eq_true p351
        replace q351 := eq_true q351
        refine start_ (n := 10) (S := fun w' => w'.cell? (ad350.add (x5_1).toNat) = some (.slice A350_0 ((rd_T53 l0 x5_1).f0).length c350_0) ∧ w'.cell? (ad351.add (x5_1).toNat) = some (.slice A351_0 ((rd_T53 l1 x5_1).f0).length c351_0)) (ds := []) #[U,U,U,U,U,U,U,U,U,U] (by kernel_rfl) rfl rfl ⟨(bc HB.out hw350_0), (bc HB.out hw351_0)⟩ (fun hHeld => ?_); refine with_tabW laws_eqPageS.tab6 laws_eqPageS.bits6 (fun HT_ HW_ => ?_)
        generalize wr.drew = w9 at HB HR350_0 HR351_0 hx350_0 hx351_0 hHeld ⊢
        refine pure_ (i := 0) (N := some 17) (v := ?_) (a' := ?_) #[T,U,U,U,U,U,U,U,U,U] rfl rfl (any_of HT_.out (by kernel_rfl)) (fun _ _ _ h => h) (Or.inl ⟨by rfl, ?_⟩) ?_ ?_
        rotate_left
        ·intro w'
         go_simp
         with_reducible rfl
        rotate_left
        ·simp only [Act.put, lT, lZ, lS, i64_w, i32_w]
         rfl
        refine pure_ (i := 1) (N := some 18) (v := ?_) (a' := ?_) #[T,T,U,U,U,U,U,U,U,U] rfl rfl (any_of HT_.out (by kernel_rfl)) (fun _ _ _ h => h) (Or.inl ⟨by rfl, ?_⟩) ?_ ?_
        rotate_left
        ·intro w'
         go_simp
         with_reducible rfl
        rotate_left
        ·simp only [Act.put, lT, lZ, lS, i64_w, i32_w]
         rfl
        refine pure_ (i := 2) (N := some 19) (v := ?_) (a' := ?_) #[T,T,T,U,U,U,U,U,U,U] rfl rfl (any_of HT_.out (by kernel_rfl)) (fun _ _ _ h => h) (Or.inl ⟨by rfl, ?_⟩) ?_ ?_
        rotate_left
        ·intro w'
         go_simp
         with_reducible rfl
        rotate_left
        ·simp only [Act.put, lT, lZ, lS, i64_w, i32_w]
         rfl
        refine pure_ (i := 4) (N := some 21) (v := ?_) (a' := ?_) #[T,T,T,U,T,U,U,U,U,U] rfl rfl (any_of HT_.out (by kernel_rfl)) (fun _ _ _ h => h) (Or.inl ⟨by rfl, ?_⟩) ?_ ?_
        rotate_left
        ·intro w'
         go_simp
         with_reducible rfl
        rotate_left
        ·simp only [Act.put, lT, lZ, lS, i64_w, i32_w]
         rfl
        refine pure_ (i := 5) (N := some 22) (v := ?_) (a' := ?_) #[T,T,T,U,T,T,U,U,U,U] rfl rfl (any_of HT_.out (by kernel_rfl)) (fun _ _ _ h => h) (Or.inl ⟨by rfl, ?_⟩) ?_ ?_
        rotate_left
        ·intro w'
         go_simp
         with_reducible rfl
        rotate_left
        ·simp only [Act.put, lT, lZ, lS, i64_w, i32_w]
         rfl
        refine pure_ (i := 6) (N := some 23) (v := ?_) (a' := ?_) #[T,T,T,U,T,T,T,U,U,U] rfl rfl (any_of HT_.out (by kernel_rfl)) (fun _ _ _ h => h) (Or.inl ⟨by rfl, ?_⟩) ?_ ?_
        rotate_left
        ·intro w'
         go_simp
         with_reducible rfl
        rotate_left
        ·simp only [Act.put, lT, lZ, lS, i64_w, i32_w]
         rfl
        refine take_ (i := 3) (N := some 20) (v := ?_) (a' := ?_) #[T,T,T,T,T,T,T,U,U,U] rfl rfl (take_ofW HT_.out HW_.out (by kernel_rfl)) (fun _ _ _ h => h) (Or.inl ⟨by rfl, ?_⟩) hHeld ?_ ?_
        rotate_left
        ·rintro w' ⟨s0, s1⟩
         go_simp
         with_reducible rfl
        rotate_left
        ·simp only [Act.put, lT, lZ, lS, i64_w, i32_w]
         rfl
        refine take_ (i := 7) (N := some 24) (v := ?_) (a' := ?_) #[T,T,T,T,T,T,T,T,U,U] rfl rfl (take_ofW HT_.out HW_.out (by kernel_rfl)) (fun _ _ _ h => h) (Or.inl ⟨by rfl, ?_⟩) hHeld ?_ ?_
        rotate_left
        ·rintro w' ⟨s0, s1⟩
         go_simp
         with_reducible rfl
        rotate_left
        ·simp only [Act.put, lT, lZ, lS, i64_w, i32_w]
         rfl
        refine one_ (i := 8) (N := some 25) #[T,T,T,T,T,T,T,T,T,U] rfl rfl (one_of HT_.out (by kernel_rfl)) (by decide) (fun K hK => ?_)
        refine goes_ Try.func35 (by kernel_rfl) rfl #[.agg #[.slice A350_0 ((rd_T53 l0 x5_1).f0).length c350_0], .agg #[.slice A351_0 ((rd_T53 l1 x5_1).f0).length c351_0]] (by rfl) rfl rfl (by (try simp only [List.map_toArray, List.map_cons, List.map_nil]); first | done | rfl | (simp only [List.length_drop, List.length_take]; rfl)) ?_
        with_reducible refine (laws_eqPage.calls k1 _ _ ((rd_T53 l0 x5_1).f0) _ _ ((rd_T53 l1 x5_1).f0) true _ ?side1 ?side2 ?side3 ?side4 A7.out).mono ?_
        (case side1 => repeat (first | exact (Kd.C_below HR350_0.out HB.out) | (with_reducible refine Kd.C_alloc ?_ _) | (with_reducible refine Kd.C_drewN ?_ _) | (with_reducible refine Kd.C_drew ?_)))
        (case side2 => exact HC350_0.out)
        (case side3 => repeat (first | exact (Kd.C_below HR351_0.out HB.out) | (with_reducible refine Kd.C_alloc ?_ _) | (with_reducible refine Kd.C_drewN ?_ _) | (with_reducible refine Kd.C_drew ?_)))
        (case side4 => exact HC351_0.out)
        rintro e w10 ⟨rfl, hb⟩
        refine ⟨_, rfl, ?_⟩
        replace HB := ak (below_step (by exact hopb HB.out) hb)
        (try clear hb)
        (try clear hb2)
        (try clear hk)
        (try clear hi)
        refine hK.out _ _ ⟨(bc HB.out hw350_0), (bc HB.out hw351_0)⟩ (fun hHeld => ?_)
        clear hK K
        refine norm_ (a' := ?_) ?_ ?_
        rotate_left
        ·show Act.put _ (some 25) _ = _
         simp only [Act.put, lT, lZ, lS, i64_w, i32_w]
         rfl
        refine pure_ (i := 9) (N := some 26) (v := ?_) (a' := ?_) #[T,T,T,T,T,T,T,T,T,T] rfl rfl (any_of HT_.out (by kernel_rfl)) (fun _ _ _ h => h) (Or.inl ⟨by rfl, ?_⟩) ?_ ?_
        rotate_left
        ·intro w'
         go_simp
         with_reducible rfl
        rotate_left
        ·simp only [Act.put, lT, lZ, lS, i64_w, i32_w]
         rfl
        refine done_ (done_of HT_.out (by kernel_rfl)) ?_
        try go_wp2
        go_roundg k1
        case measure => have := HK1.out; omega
        case rel => exact ⟨(wrap64 (x5_1 + 1)), (by first | rfl | (simp [*]; done)), H', ⟨by have := HK1.out; omega⟩, ⟨by exact hopb HB.out⟩⟩
       ·replace c8 := Bool.eq_false_iff.mpr c8
        subst c8
        rw [if_neg (show ¬ (false = true) by decide)] at H
        obtain rfl := Option.some.inj H
        try go_wp2
        replace HB := ak (below_drew1 HB.out)
        have p350 : 0 ≤ (x5_1 : Int) := of_decide_eq_true (by assumption)
        have q350 : x5_1 < (l0.length : Int) := of_decide_eq_true (by assumption)
        obtain ⟨ad350, A350_0, c350_0, e350, hx350_0, hl350_0, hi350_0⟩ := at_T53 HR0.out x5_1 p350 q350
        have hw350_0 := hx350_0
        cases e350
        replace hx350_0 := bc HB.out hx350_0
        have HR350_0 := ak hi350_0
        have HC350_0 := ak hl350_0
        clear hi350_0 hl350_0
        replace p350 := eq_true p350
        replace q350 := eq_true q350
        have p351 : 0 ≤ (x5_1 : Int) := of_decide_eq_true (by assumption)
        have q351 : x5_1 < (l1.length : Int) := of_decide_eq_true (by assumption)
        obtain ⟨ad351, A351_0, c351_0, e351, hx351_0, hl351_0, hi351_0⟩ := at_T53 HR1.out x5_1 p351 q351
        have hw351_0 := hx351_0
        cases e351
        replace hx351_0 := bc HB.out hx351_0
        have HR351_0 := ak hi351_0
        have HC351_0 := ak hl351_0
        clear hi351_0 hl351_0
        replace p351 := eq_true p351
        replace q351 := eq_true q351
        refine start_ (n := 10) (S := fun w' => w'.cell? (ad350.add (x5_1).toNat) = some (.slice A350_0 ((rd_T53 l0 x5_1).f0).length c350_0) ∧ w'.cell? (ad351.add (x5_1).toNat) = some (.slice A351_0 ((rd_T53 l1 x5_1).f0).length c351_0)) (ds := []) #[U,U,U,U,U,U,U,U,U,U] (by kernel_rfl) rfl rfl ⟨(bc HB.out hw350_0), (bc HB.out hw351_0)⟩ (fun hHeld => ?_); refine with_tabW laws_eqPageS.tab6 laws_eqPageS.bits6 (fun HT_ HW_ => ?_)
        generalize wr.drew = w11 at HB HR350_0 HR351_0 hx350_0 hx351_0 hHeld ⊢
        refine pure_ (i := 0) (N := some 17) (v := ?_) (a' := ?_) #[T,U,U,U,U,U,U,U,U,U] rfl rfl (any_of HT_.out (by kernel_rfl)) (fun _ _ _ h => h) (Or.inl ⟨by rfl, ?_⟩) ?_ ?_
        rotate_left
        ·intro w'
         go_simp
         with_reducible rfl
        rotate_left
        ·simp only [Act.put, lT, lZ, lS, i64_w, i32_w]
         rfl
        refine pure_ (i := 1) (N := some 18) (v := ?_) (a' := ?_) #[T,T,U,U,U,U,U,U,U,U] rfl rfl (any_of HT_.out (by kernel_rfl)) (fun _ _ _ h => h) (Or.inl ⟨by rfl, ?_⟩) ?_ ?_
        rotate_left
        ·intro w'
         go_simp
         with_reducible rfl
        rotate_left
        ·simp only [Act.put, lT, lZ, lS, i64_w, i32_w]
         rfl
        refine pure_ (i := 2) (N := some 19) (v := ?_) (a' := ?_) #[T,T,T,U,U,U,U,U,U,U] rfl rfl (any_of HT_.out (by kernel_rfl)) (fun _ _ _ h => h) (Or.inl ⟨by rfl, ?_⟩) ?_ ?_
        rotate_left
        ·intro w'
         go_simp
         with_reducible rfl
        rotate_left
        ·simp only [Act.put, lT, lZ, lS, i64_w, i32_w]
         rfl
        refine pure_ (i := 4) (N := some 21) (v := ?_) (a' := ?_) #[T,T,T,U,T,U,U,U,U,U] rfl rfl (any_of HT_.out (by kernel_rfl)) (fun _ _ _ h => h) (Or.inl ⟨by rfl, ?_⟩) ?_ ?_
        rotate_left
        ·intro w'
         go_simp
         with_reducible rfl
        rotate_left
        ·simp only [Act.put, lT, lZ, lS, i64_w, i32_w]
         rfl
        refine pure_ (i := 5) (N := some 22) (v := ?_) (a' := ?_) #[T,T,T,U,T,T,U,U,U,U] rfl rfl (any_of HT_.out (by kernel_rfl)) (fun _ _ _ h => h) (Or.inl ⟨by rfl, ?_⟩) ?_ ?_
        rotate_left
        ·intro w'
         go_simp
         with_reducible rfl
        rotate_left
        ·simp only [Act.put, lT, lZ, lS, i64_w, i32_w]
         rfl
        refine pure_ (i := 6) (N := some 23) (v := ?_) (a' := ?_) #[T,T,T,U,T,T,T,U,U,U] rfl rfl (any_of HT_.out (by kernel_rfl)) (fun _ _ _ h => h) (Or.inl ⟨by rfl, ?_⟩) ?_ ?_
        rotate_left
        ·intro w'
         go_simp
         with_reducible rfl
        rotate_left
        ·simp only [Act.put, lT, lZ, lS, i64_w, i32_w]
         rfl
        refine take_ (i := 3) (N := some 20) (v := ?_) (a' := ?_) #[T,T,T,T,T,T,T,U,U,U] rfl rfl (take_ofW HT_.out HW_.out (by kernel_rfl)) (fun _ _ _ h => h) (Or.inl ⟨by rfl, ?_⟩) hHeld ?_ ?_
        rotate_left
        ·rintro w' ⟨s0, s1⟩
         go_simp
         with_reducible rfl
        rotate_left
        ·simp only [Act.put, lT, lZ, lS, i64_w, i32_w]
         rfl
        refine take_ (i := 7) (N := some 24) (v := ?_) (a' := ?_) #[T,T,T,T,T,T,T,T,U,U] rfl rfl (take_ofW HT_.out HW_.out (by kernel_rfl)) (fun _ _ _ h => h) (Or.inl ⟨by rfl, ?_⟩) hHeld ?_ ?_
        rotate_left
        ·rintro w' ⟨s0, s1⟩
         go_simp
         with_reducible rfl
        rotate_left
        ·simp only [Act.put, lT, lZ, lS, i64_w, i32_w]
         rfl
        refine one_ (i := 8) (N := some 25) #[T,T,T,T,T,T,T,T,T,U] rfl rfl (one_of HT_.out (by kernel_rfl)) (by decide) (fun K hK => ?_)
        refine goes_ Try.func35 (by kernel_rfl) rfl #[.agg #[.slice A350_0 ((rd_T53 l0 x5_1).f0).length c350_0], .agg #[.slice A351_0 ((rd_T53 l1 x5_1).f0).length c351_0]] (by rfl) rfl rfl (by (try simp only [List.map_toArray, List.map_cons, List.map_nil]); first | done | rfl | (simp only [List.length_drop, List.length_take]; rfl)) ?_
        with_reducible refine (laws_eqPage.calls k1 _ _ ((rd_T53 l0 x5_1).f0) _ _ ((rd_T53 l1 x5_1).f0) false _ ?side1 ?side2 ?side3 ?side4 A7.out).mono ?_
        (case side1 => repeat (first | exact (Kd.C_below HR350_0.out HB.out) | (with_reducible refine Kd.C_alloc ?_ _) | (with_reducible refine Kd.C_drewN ?_ _) | (with_reducible refine Kd.C_drew ?_)))
        (case side2 => exact HC350_0.out)
        (case side3 => repeat (first | exact (Kd.C_below HR351_0.out HB.out) | (with_reducible refine Kd.C_alloc ?_ _) | (with_reducible refine Kd.C_drewN ?_ _) | (with_reducible refine Kd.C_drew ?_)))
        (case side4 => exact HC351_0.out)
        rintro e w12 ⟨rfl, hb⟩
        refine ⟨_, rfl, ?_⟩
        replace HB := ak (below_step (by exact hopb HB.out) hb)
        (try clear hb)
        (try clear hb2)
        (try clear hk)
        (try clear hi)
        refine hK.out _ _ ⟨(bc HB.out hw350_0), (bc HB.out hw351_0)⟩ (fun hHeld => ?_)
        clear hK K
        refine norm_ (a' := ?_) ?_ ?_
        rotate_left
        ·show Act.put _ (some 25) _ = _
         simp only [Act.put, lT, lZ, lS, i64_w, i32_w]
         rfl
        refine pure_ (i := 9) (N := some 26) (v := ?_) (a' := ?_) #[T,T,T,T,T,T,T,T,T,T] rfl rfl (any_of HT_.out (by kernel_rfl)) (fun _ _ _ h => h) (Or.inl ⟨by rfl, ?_⟩) ?_ ?_
        rotate_left
        ·intro w'
         go_simp
         with_reducible rfl
        rotate_left
        ·simp only [Act.put, lT, lZ, lS, i64_w, i32_w]
         rfl
        refine done_ (done_of HT_.out (by kernel_rfl)) ?_
        try go_wp2
        go_ret
        exact ⟨by first | rfl | (simp [*, errW_none, errW_some] <;> rfl), by exact hopb HB.out⟩
      ·rw [if_neg c6] at H
       exact absurd H (by simp)
     ·rw [if_neg c5] at H
      exact absurd H (by simp)
    ·rw [if_neg c4] at H
     have c4b0 : decide (x5_1 < (l0.length : Int)) = false := decide_eq_false c4
     clear c4
     obtain rfl := Option.some.inj H
     go_wp2
     go_ret
     exact ⟨by first | rfl | (simp [*, errW_none, errW_some] <;> rfl), by exact hopb HB.out⟩
 ·rw [if_neg c3] at H
  have c3b0 : ((l0.length : Int) == (l1.length : Int)) = false := beq_eq_false_iff_ne.mpr c3
  have c3b1 : ((l0.length : Int) != (l1.length : Int)) = true := bne_iff_ne.mpr c3
  have c3b2 : (l0.length == l1.length) = false := by first | simpa using c3 | (simp at c3 ⊢; omega)
  obtain rfl := Option.some.inj H
  go_enter Try.func10, Try.ntmps10
  go_wp2
  go_ret
  exact ⟨by first | rfl | (simp [*, errW_none, errW_some] <;> rfl), by exact hopb HB.out⟩

end Go.Proofs.Ytengnnhehjcfhaa.PFnExactPagesDrop
