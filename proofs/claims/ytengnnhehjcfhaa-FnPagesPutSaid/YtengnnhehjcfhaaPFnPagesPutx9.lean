-- Written for this claim by a program of this session (wip/myprint in the proofs' repo)
import Derived.Test.YtengnnhehjcfhaaPFnPagesPutx0
import Derived.Test.YtengnnhehjcfhaaPFnPagesPutx2
import Derived.Test.YtengnnhehjcfhaaWZip
-- slim4
namespace Go.Proofs.Ytengnnhehjcfhaa.PFnPagesPut
open Go.RowKit Go.Proofs.YtengnnhehjcfhaaW.PrintWords Go.Proofs.YtengnnhehjcfhaaW.PrintLast Go.Proofs.YtengnnhehjcfhaaW.PrintMore
attribute [local go_sem] max2_int min2_int max_two min_two max_three min_three max_four min_four max2_strs min2_strs   -- for this text's walks alone
set_option linter.unusedVariables false
set_option linter.unusedSimpArgs false
set_option maxHeartbeats 8000000
set_option maxRecDepth 100000

/-! ### spec_l20Rd_pick: function 62 -/
def spec_l20Rd_pick.j0 : Nat → Int → Bool → List Int → Int → Option (Int × Int)
 | 0, _, _, _, _ => none
 | k + 1, x1, x24, x1000, x1001 => if x24 = true then (some (0, x1001)) else (if (wrap64 (x1001 - 1)) < (x1000.length : Int) then (if 0 ≤ (wrap64 (x1001 - 1)) then (if x1 = 0 then (none) else (some (Int.tmod (wrap64 (rd x1000 (wrap64 (x1001 - 1)))) x1, x1001))) else (none)) else (if (x1000.length : Int) = 0 then (none) else (if 0 ≤ (Int.tmod (wrap64 (x1001 - 1)) (x1000.length : Int)) then (if (Int.tmod (wrap64 (x1001 - 1)) (x1000.length : Int)) < (x1000.length : Int) then (if 0 ≤ (Int.tmod (wrap64 ((wrap64 ((wrap64 (x1001 - 1)) * 7)) + 3)) (x1000.length : Int)) then (if (Int.tmod (wrap64 ((wrap64 ((wrap64 (x1001 - 1)) * 7)) + 3)) (x1000.length : Int)) < (x1000.length : Int) then (if x1 = 0 then (none) else (some (Int.tmod (Go.bits .xor .i64 (wrap64 ((wrap64 ((wrap64 ((wrap64 ((wrap64 (rd x1000 (Int.tmod (wrap64 (x1001 - 1)) (x1000.length : Int)))) * 131)) + (wrap64 ((wrap64 (rd x1000 (Int.tmod (wrap64 ((wrap64 ((wrap64 (x1001 - 1)) * 7)) + 3)) (x1000.length : Int)))) * 1117)))) + (wrap64 ((wrap64 (x1001 - 1)) * 29)))) + (wrap64 ((wrap64 (Int.tdiv (wrap64 (x1001 - 1)) (x1000.length : Int))) * 53)))) (wrap64 (Int.tdiv (wrap64 ((wrap64 ((wrap64 ((wrap64 ((wrap64 (rd x1000 (Int.tmod (wrap64 (x1001 - 1)) (x1000.length : Int)))) * 131)) + (wrap64 ((wrap64 (rd x1000 (Int.tmod (wrap64 ((wrap64 ((wrap64 (x1001 - 1)) * 7)) + 3)) (x1000.length : Int)))) * 1117)))) + (wrap64 ((wrap64 (x1001 - 1)) * 29)))) + (wrap64 ((wrap64 (Int.tdiv (wrap64 (x1001 - 1)) (x1000.length : Int))) * 53)))) 64))) x1, x1001))) else (none)) else (none)) else (none)) else (none))))
def spec_l20Rd_pick.f (k : Nat) (s0_0 : List Int) (s0_1 : Int) (a1 : Int) : Option (Int × Int) := if a1 < 1 then (spec_l20Rd_pick.j0 k a1 true s0_0 (wrap64 (s0_1 + 1))) else (spec_l20Rd_pick.j0 k a1 ((s0_0.length : Int) == 0) s0_0 (wrap64 (s0_1 + 1)))
theorem spec_l20Rd_pick.mono_l : ∀ k, (∀ y0 y1 y2 y3, LeO (spec_l20Rd_pick.j0 k y0 y1 y2 y3) (spec_l20Rd_pick.j0 (k + 1) y0 y1 y2 y3))
 | 0 => fun _ _ _ _ r h => by simp [spec_l20Rd_pick.j0] at h
 | k + 1 => by
  have ih0 := spec_l20Rd_pick.mono_l k
  ·intro y0 y1 y2 y3
   unfold spec_l20Rd_pick.j0
   repeat' first
   | (with_reducible exact ih0 _ _ _ _)
   | (with_reducible exact LeO.refl _)
   | (with_reducible exact LeO.none _)
   | (with_reducible refine LeO.ite ?_ ?_)
   | (with_reducible refine LeO.bind ?_ (fun _ => ?_))
   | exact ih0 _ _ _ _
   | exact LeO.none _
   | refine LeO.ite ?_ ?_
   | refine LeO.bind ?_ (fun _ => ?_)
theorem spec_l20Rd_pick.mono : ∀ a0 a1 a2 k, LeO (spec_l20Rd_pick.f k a0 a1 a2) (spec_l20Rd_pick.f (k + 1) a0 a1 a2) := by
 intro a0 a1 a2 k
 have ih0 := spec_l20Rd_pick.mono_l k
 unfold spec_l20Rd_pick.f
 repeat' first
   | (with_reducible exact ih0 _ _ _ _)
   | (with_reducible exact LeO.refl _)
   | (with_reducible exact LeO.none _)
   | (with_reducible refine LeO.ite ?_ ?_)
   | (with_reducible refine LeO.bind ?_ (fun _ => ?_))
   | exact ih0 _ _ _ _
   | exact LeO.none _
   | refine LeO.ite ?_ ?_
   | refine LeO.bind ?_ (fun _ => ?_)
theorem spec_l20Rd_pick.calls (k : Nat) (g : Nat) (s0_0 : List Int) (s0_1 : Int) (a1 : Int) (r1 : Int) (r2 : Int) (w0 w : World) (hI : IsS79 w0 w g s0_0 s0_1) (hB : Below w0.heap.size w0 w) (h : spec_l20Rd_pick.f k s0_0 s0_1 a1 = some (r1, r2)) :
  Calls Try.prog 62 #[.pointer (some ⟨g, 0, none⟩), .int .i64 a1] w fun e w' => e = .returned (.int .i64 r1) ∧ IsS79 w0 w' g s0_0 r2 ∧ Below w0.heap.size w0 w' ∧ KeepBut w w' g none := by
 have HI0 := ak hI
 have HK := ak (KeepBut.refl w g none)
 have HL := ak hB.size
 clear hI
 have HW0 := ak hB.size
 have HB := ak hB
 clear hB
 have H : (if a1 < 1 then (spec_l20Rd_pick.j0 k a1 true s0_0 (wrap64 (s0_1 + 1))) else (spec_l20Rd_pick.j0 k a1 ((s0_0.length : Int) == 0) s0_0 (wrap64 (s0_1 + 1)))) = some (r1, r2) := h
 clear h
 have HC3 := ak H
 clear H
 obtain ⟨ASz4_0, cSz4_0, HGz4, hgz4, HSz4_0⟩ := HI0.out
 have hcz4_0 := cellS79_0 HGz4
 have hcz4_1 := cellS79_1 HGz4
 have hfz4_1 := blk_frozen HGz4 1
 clear HGz4 hgz4
 go_enter Try.func62, Try.ntmps62
 go_upto_region 2 with (fail)
 repeat (go_quiet (fail); go_upto_region 2 with (fail))
 go_cut [24] (fun v24 wc => ∃ (kq : Nat) (x24_2 : Bool), v24 = .bool x24_2 ∧ Aside0 (spec_l20Rd_pick.j0 kq a1 x24_2 s0_0 (wrap64 (s0_1 + 1)) = some (r1, r2)) ∧ Aside0 (kq ≤ k) ∧ Aside0 (IsS79 w0 wc g s0_0 (wrap64 (s0_1 + 1))) ∧ Aside0 (KeepBut w wc g none) ∧ Aside0 (Below w0.heap.size w0 wc))
 case first =>
  have H := HC3.out
  clear HC3
  by_cases c5 : a1 < 1
  ·rw [if_pos c5] at H
   have c5b0 : decide (a1 < 1) = true := decide_eq_true c5
   clear c5
   (first | rw [c5b0] | (simp only [i64_w, i32_w]; rw [c5b0]) | skip)
   have H' := ak H
   clear H
   go_wp2
   repeat (go_quiet (fail); try go_wp2)
   go_meet
   case rel => exact ⟨_, (true), (by first | rfl | (simp [*]; done)), H', ⟨by first | omega | exact Nat.le_refl _⟩, ⟨by repeat (first | exact HI0.out | apply IsS79.alloc | apply IsS79.drewN | apply IsS79.drew | apply IsS79.set_1)⟩, ⟨by repeat (first | exact HK.out | apply KeepBut.set_ | apply keep_drewN | apply keep_drew | apply keep_alloc)⟩, ⟨by repeat (first | exact HB.out | apply bA | apply bN | apply bD | refine bS ?_ (IsS79.ge HI0.out))⟩⟩
  ·rw [if_neg c5] at H
   have c5b0 : decide (a1 < 1) = false := decide_eq_false c5
   clear c5
   (first | rw [c5b0] | (simp only [i64_w, i32_w]; rw [c5b0]) | skip)
   have H' := ak H
   clear H
   obtain ⟨ASz6_0, cSz6_0, HGz6, hgz6, HSz6_0⟩ := HI0.out
   have hcz6_0 := cellS79_0 HGz6
   have hcz6_1 := cellS79_1 HGz6
   have hfz6_1 := blk_frozen HGz6 1
   clear HGz6 hgz6
   go_wp2
   repeat (go_quiet (fail); try go_wp2)
   go_meet
   case rel => exact ⟨_, (((s0_0.length : Int) == 0)), (by first | rfl | (simp [*]; done)), H', ⟨by first | omega | exact Nat.le_refl _⟩, ⟨by repeat (first | exact HI0.out | apply IsS79.alloc | apply IsS79.drewN | apply IsS79.drew | apply IsS79.set_1)⟩, ⟨by repeat (first | exact HK.out | apply KeepBut.set_ | apply keep_drewN | apply keep_drew | apply keep_alloc)⟩, ⟨by repeat (first | exact HB.out | apply bA | apply bN | apply bD | refine bS ?_ (IsS79.ge HI0.out))⟩⟩
 case rest =>
  clear HC3
  try clear p2
  try clear c5
  try clear c5b0
  try clear c6
  try clear p6
  try clear hcz4_0
  try clear hcz4_1
  try clear hcz6_0
  try clear hcz6_1
  try clear hfz4_1
  try clear hfz6_1
  obtain ⟨kq, x24_2, rfl, HA, HJ2, HI0, HK, HB⟩ := hcut
  cases kq with
  | zero => exact absurd HA.out (by simp [spec_l20Rd_pick.j0])
  | succ kj2 =>
   have H := HA.out
   clear HA
   simp only [spec_l20Rd_pick.j0] at H
   by_cases c7 : x24_2 = true
   ·subst c7
    rw [if_pos rfl] at H
    simp only [Option.some.injEq, Prod.mk.injEq] at H
    obtain ⟨rfl, rfl⟩ := H
    go_wp2
    repeat (go_quiet (fail); try go_wp2)
    go_ret
    exact ⟨by first | rfl | (simp [*, errW_none, errW_some] <;> rfl), by repeat (first | exact HI0.out | apply IsS79.alloc | apply IsS79.drewN | apply IsS79.drew | apply IsS79.set_1), by repeat (first | exact HB.out | apply bA | apply bN | apply bD | refine bS ?_ (IsS79.ge HI0.out)), by repeat (first | exact HK.out | apply KeepBut.set_ | apply keep_drewN | apply keep_drew | apply keep_alloc)⟩
   ·replace c7 := Bool.eq_false_iff.mpr c7
    subst c7
    rw [if_neg (show ¬ (false = true) by decide)] at H
    by_cases c8 : (wrap64 ((wrap64 (s0_1 + 1)) - 1)) < (s0_0.length : Int)
    ·rw [if_pos c8] at H
     have c8b0 : decide ((wrap64 ((wrap64 (s0_1 + 1)) - 1)) < (s0_0.length : Int)) = true := decide_eq_true c8
     clear c8
     obtain ⟨ji9, hji9⟩ : ∃ j_ : Int, (wrap64 ((wrap64 (s0_1 + 1)) - 1)) = j_ := ⟨_, rfl⟩
     replace H : (if 0 ≤ (ji9) then (if a1 = 0 then (none) else (some (Int.tmod (wrap64 (rd s0_0 (ji9))) a1, (wrap64 (s0_1 + 1))))) else (none)) = some (r1, r2) := by first | (rw [hji9] at H; exact H) | (simp only [hji9] at H ⊢; exact H)
     (try rw [hji9] at c8b0)
     have hji9w : (IntKind.i64.wrap ((wrap64 (s0_1 + 1)) - 1)) = ji9 := (i64_w _).trans hji9
     by_cases c10 : 0 ≤ (ji9)
     ·rw [if_pos c10] at H
      have c10b0 : decide (0 ≤ (ji9)) = true := decide_eq_true c10
      clear c10
      by_cases c11 : a1 = 0
      ·rw [if_pos c11] at H
       exact absurd H (by simp)
      ·rw [if_neg c11] at H
       have c11b0 : (a1 == 0) = false := beq_eq_false_iff_ne.mpr c11
       have c11b1 : (a1 != 0) = true := bne_iff_ne.mpr c11
       simp only [Option.some.injEq, Prod.mk.injEq] at H
       obtain ⟨rfl, rfl⟩ := H
       obtain ⟨ASz12_0, cSz12_0, HGz12, hgz12, HSz12_0⟩ := HI0.out
       have hcz12_0 := cellS79_0 HGz12
       have hcz12_1 := cellS79_1 HGz12
       have hfz12_1 := blk_frozen HGz12 1
       clear HGz12 hgz12
       have p388 : 0 ≤ ((ji9) : Int) := of_decide_eq_true (by assumption)
       have q388 : (ji9) < (s0_0.length : Int) := of_decide_eq_true (by assumption)
       obtain ⟨ad388, e388, hx388_0⟩ := Kd.at_int HSz12_0 (ji9) p388 q388
       cases e388
       replace hx388_0 := pw_cell_below HB.out hx388_0
       replace p388 := eq_true p388
       replace q388 := eq_true q388
       go_wp2
       repeat (go_quiet (fail); try go_wp2)
       go_ret
       exact ⟨by first | rfl | (simp only [u8_w_, w64_u8_] <;> rfl) | (simp [errW_none, errW_some] <;> rfl) | (simp only [← hji9]; first | rfl | (simp [errW_none, errW_some] <;> rfl)) | (simp [*, errW_none, errW_some] <;> rfl), by repeat (first | exact HI0.out | apply IsS79.alloc | apply IsS79.drewN | apply IsS79.drew | apply IsS79.set_1), by repeat (first | exact HB.out | apply bA | apply bN | apply bD | refine bS ?_ (IsS79.ge HI0.out)), by repeat (first | exact HK.out | apply KeepBut.set_ | apply keep_drewN | apply keep_drew | apply keep_alloc)⟩
     ·rw [if_neg c10] at H
      exact absurd H (by simp)
    ·rw [if_neg c8] at H
     have c8b0 : decide ((wrap64 ((wrap64 (s0_1 + 1)) - 1)) < (s0_0.length : Int)) = false := decide_eq_false c8
     clear c8
     by_cases c13 : (s0_0.length : Int) = 0
     ·rw [if_pos c13] at H
      exact absurd H (by simp)
     ·rw [if_neg c13] at H
      have c13b0 : ((s0_0.length : Int) == 0) = false := beq_eq_false_iff_ne.mpr c13
      have c13b1 : ((s0_0.length : Int) != 0) = true := bne_iff_ne.mpr c13
      have c13b2 : ¬ (s0_0 = []) := fun h_ => c13 (by rw [h_]; rfl)
      obtain ⟨ji14, hji14⟩ : ∃ j_ : Int, (Int.tmod (wrap64 ((wrap64 (s0_1 + 1)) - 1)) (s0_0.length : Int)) = j_ := ⟨_, rfl⟩
      replace H : (if 0 ≤ (ji14) then (if (ji14) < (s0_0.length : Int) then (if 0 ≤ (Int.tmod (wrap64 ((wrap64 ((wrap64 ((wrap64 (s0_1 + 1)) - 1)) * 7)) + 3)) (s0_0.length : Int)) then (if (Int.tmod (wrap64 ((wrap64 ((wrap64 ((wrap64 (s0_1 + 1)) - 1)) * 7)) + 3)) (s0_0.length : Int)) < (s0_0.length : Int) then (if a1 = 0 then (none) else (some (Int.tmod (Go.bits .xor .i64 (wrap64 ((wrap64 ((wrap64 ((wrap64 ((wrap64 (rd s0_0 (ji14))) * 131)) + (wrap64 ((wrap64 (rd s0_0 (Int.tmod (wrap64 ((wrap64 ((wrap64 ((wrap64 (s0_1 + 1)) - 1)) * 7)) + 3)) (s0_0.length : Int)))) * 1117)))) + (wrap64 ((wrap64 ((wrap64 (s0_1 + 1)) - 1)) * 29)))) + (wrap64 ((wrap64 (Int.tdiv (wrap64 ((wrap64 (s0_1 + 1)) - 1)) (s0_0.length : Int))) * 53)))) (wrap64 (Int.tdiv (wrap64 ((wrap64 ((wrap64 ((wrap64 ((wrap64 (rd s0_0 (ji14))) * 131)) + (wrap64 ((wrap64 (rd s0_0 (Int.tmod (wrap64 ((wrap64 ((wrap64 ((wrap64 (s0_1 + 1)) - 1)) * 7)) + 3)) (s0_0.length : Int)))) * 1117)))) + (wrap64 ((wrap64 ((wrap64 (s0_1 + 1)) - 1)) * 29)))) + (wrap64 ((wrap64 (Int.tdiv (wrap64 ((wrap64 (s0_1 + 1)) - 1)) (s0_0.length : Int))) * 53)))) 64))) a1, (wrap64 (s0_1 + 1))))) else (none)) else (none)) else (none)) else (none)) = some (r1, r2) := by first | (rw [hji14] at H; exact H) | (simp only [hji14] at H ⊢; exact H)
      by_cases c15 : 0 ≤ (ji14)
      ·rw [if_pos c15] at H
       have c15b0 : decide (0 ≤ (ji14)) = true := decide_eq_true c15
       clear c15
       by_cases c16 : (ji14) < (s0_0.length : Int)
       ·rw [if_pos c16] at H
        have c16b0 : decide ((ji14) < (s0_0.length : Int)) = true := decide_eq_true c16
        clear c16
        obtain ⟨ji17, hji17⟩ : ∃ j_ : Int, (Int.tmod (wrap64 ((wrap64 ((wrap64 ((wrap64 (s0_1 + 1)) - 1)) * 7)) + 3)) (s0_0.length : Int)) = j_ := ⟨_, rfl⟩
        replace H : (if 0 ≤ (ji17) then (if (ji17) < (s0_0.length : Int) then (if a1 = 0 then (none) else (some (Int.tmod (Go.bits .xor .i64 (wrap64 ((wrap64 ((wrap64 ((wrap64 ((wrap64 (rd s0_0 (ji14))) * 131)) + (wrap64 ((wrap64 (rd s0_0 (ji17))) * 1117)))) + (wrap64 ((wrap64 ((wrap64 (s0_1 + 1)) - 1)) * 29)))) + (wrap64 ((wrap64 (Int.tdiv (wrap64 ((wrap64 (s0_1 + 1)) - 1)) (s0_0.length : Int))) * 53)))) (wrap64 (Int.tdiv (wrap64 ((wrap64 ((wrap64 ((wrap64 ((wrap64 (rd s0_0 (ji14))) * 131)) + (wrap64 ((wrap64 (rd s0_0 (ji17))) * 1117)))) + (wrap64 ((wrap64 ((wrap64 (s0_1 + 1)) - 1)) * 29)))) + (wrap64 ((wrap64 (Int.tdiv (wrap64 ((wrap64 (s0_1 + 1)) - 1)) (s0_0.length : Int))) * 53)))) 64))) a1, (wrap64 (s0_1 + 1))))) else (none)) else (none)) = some (r1, r2) := by first | (rw [hji17] at H; exact H) | (simp only [hji17] at H ⊢; exact H)
        by_cases c18 : 0 ≤ (ji17)
        ·rw [if_pos c18] at H
         have c18b0 : decide (0 ≤ (ji17)) = true := decide_eq_true c18
         clear c18
         by_cases c19 : (ji17) < (s0_0.length : Int)
         ·rw [if_pos c19] at H
          have c19b0 : decide ((ji17) < (s0_0.length : Int)) = true := decide_eq_true c19
          clear c19
          by_cases c20 : a1 = 0
          ·rw [if_pos c20] at H
           exact absurd H (by simp)
          ·rw [if_neg c20] at H
           have c20b0 : (a1 == 0) = false := beq_eq_false_iff_ne.mpr c20
           have c20b1 : (a1 != 0) = true := bne_iff_ne.mpr c20
           simp only [Option.some.injEq, Prod.mk.injEq] at H
           obtain ⟨rfl, rfl⟩ := H
           obtain ⟨ASz21_0, cSz21_0, HGz21, hgz21, HSz21_0⟩ := HI0.out
           have hcz21_0 := cellS79_0 HGz21
           have hcz21_1 := cellS79_1 HGz21
           have hfz21_1 := blk_frozen HGz21 1
           clear HGz21 hgz21
           have p389 : 0 ≤ ((ji14) : Int) := of_decide_eq_true (by assumption)
           have q389 : (ji14) < (s0_0.length : Int) := of_decide_eq_true (by assumption)
           obtain ⟨ad389, e389, hx389_0⟩ := Kd.at_int HSz21_0 (ji14) p389 q389
           cases e389
           replace hx389_0 := pw_cell_below HB.out hx389_0
           replace p389 := eq_true p389
           replace q389 := eq_true q389
           have p390 : 0 ≤ ((ji17) : Int) := of_decide_eq_true (by assumption)
           have q390 : (ji17) < (s0_0.length : Int) := of_decide_eq_true (by assumption)
           obtain ⟨ad390, e390, hx390_0⟩ := Kd.at_int HSz21_0 (ji17) p390 q390
           obtain rfl : ad389 = ad390 := (by injection e390)
           replace hx390_0 := pw_cell_below HB.out hx390_0
           replace p390 := eq_true p390
           replace q390 := eq_true q390
           go_wp2
           repeat (go_quiet (fail); try go_wp2)
           go_ret
           exact ⟨by first | rfl | (simp only [u8_w_, w64_u8_] <;> rfl) | (simp [errW_none, errW_some] <;> rfl) | (simp only [← hji14, ← hji17]; first | rfl | (simp [errW_none, errW_some] <;> rfl)) | (simp [*, errW_none, errW_some] <;> rfl), by repeat (first | exact HI0.out | apply IsS79.alloc | apply IsS79.drewN | apply IsS79.drew | apply IsS79.set_1), by repeat (first | exact HB.out | apply bA | apply bN | apply bD | refine bS ?_ (IsS79.ge HI0.out)), by repeat (first | exact HK.out | apply KeepBut.set_ | apply keep_drewN | apply keep_drew | apply keep_alloc)⟩
         ·rw [if_neg c19] at H
          exact absurd H (by simp)
        ·rw [if_neg c18] at H
         exact absurd H (by simp)
       ·rw [if_neg c16] at H
        exact absurd H (by simp)
      ·rw [if_neg c15] at H
       exact absurd H (by simp)

/-! ### spec_l20Rd_odd: function 63 -/
def spec_l20Rd_odd.f (k : Nat) (s0_0 : List Int) (s0_1 : Int) (a1 : Int) : Option (Bool × Int) := if a1 > 0 then ((spec_l20Rd_pick.f k s0_0 s0_1 a1).bind fun bt391 => (some ((bt391.1 == (wrap64 (a1 - 1))), bt391.2))) else (some (false, s0_1))
theorem spec_l20Rd_odd.mono : ∀ a0 a1 a2 k, LeO (spec_l20Rd_odd.f k a0 a1 a2) (spec_l20Rd_odd.f (k + 1) a0 a1 a2) := by
 intro a0 a1 a2 k
 unfold spec_l20Rd_odd.f
 repeat' first
   | (with_reducible exact spec_l20Rd_pick.mono _ _ _ _)
   | (with_reducible exact LeO.refl _)
   | (with_reducible exact LeO.none _)
   | (with_reducible refine LeO.ite ?_ ?_)
   | (with_reducible refine LeO.bind ?_ (fun _ => ?_))
   | exact LeO.none _
   | refine LeO.ite ?_ ?_
   | refine LeO.bind ?_ (fun _ => ?_)
theorem spec_l20Rd_odd.calls (k : Nat) (g : Nat) (s0_0 : List Int) (s0_1 : Int) (a1 : Int) (r1 : Bool) (r2 : Int) (w0 w : World) (hI : IsS79 w0 w g s0_0 s0_1) (hB : Below w0.heap.size w0 w) (h : spec_l20Rd_odd.f k s0_0 s0_1 a1 = some (r1, r2)) :
  Calls Try.prog 63 #[.pointer (some ⟨g, 0, none⟩), .int .i64 a1] w fun e w' => e = .returned (.bool r1) ∧ IsS79 w0 w' g s0_0 r2 ∧ Below w0.heap.size w0 w' ∧ KeepBut w w' g none := by
 have HI0 := ak hI
 have HK := ak (KeepBut.refl w g none)
 have HL := ak hB.size
 clear hI
 have HW0 := ak hB.size
 have HB := ak hB
 clear hB
 have H : (if a1 > 0 then ((spec_l20Rd_pick.f k s0_0 s0_1 a1).bind fun bt391 => (some ((bt391.1 == (wrap64 (a1 - 1))), bt391.2))) else (some (false, s0_1))) = some (r1, r2) := h
 clear h
 by_cases c3 : a1 > 0
 ·rw [if_pos c3] at H
  have c3b0 : decide (0 < a1) = true := decide_eq_true c3
  clear c3
  replace H := Option.bind_eq_some_iff.mp H
  obtain ⟨⟨t391, t392⟩, A40, H⟩ := H
  try dsimp only at H
  have A4 := ak A40
  clear A40
  simp only [Option.some.injEq, Prod.mk.injEq] at H
  obtain ⟨rfl, rfl⟩ := H
  go_enter Try.func63, Try.ntmps63
  go_wp2_with (first | (go_at_call 62; (with_reducible refine (spec_l20Rd_pick.calls k g s0_0 s0_1 a1 t391 t392 w0 _ ?side1 ?side2 A4.out).mono ?_); (case side1 => repeat (first | exact HI0.out | apply IsS79.alloc | apply IsS79.drewN | apply IsS79.drew | apply IsS79.set_1)); (case side2 => repeat (first | exact HB.out | apply bA | apply bN | apply bD | refine bS ?_ (IsS79.ge HI0.out))); rintro e w5 ⟨rfl, hi, hb, hk⟩; replace HK := ak (KeepBut.trans (by repeat (first | exact HK.out | apply KeepBut.set_ | apply keep_drewN | apply keep_drew | apply keep_alloc)) hk (.inl rfl)); replace HB := ak (hb); replace HI0 := ak (hi); (try clear hb)))
  go_ret
  exact ⟨by first | rfl | (simp [*, errW_none, errW_some] <;> rfl), by repeat (first | exact HI0.out | apply IsS79.alloc | apply IsS79.drewN | apply IsS79.drew | apply IsS79.set_1), by repeat (first | exact HB.out | apply bA | apply bN | apply bD | refine bS ?_ (IsS79.ge HI0.out)), by repeat (first | exact HK.out | apply KeepBut.set_ | apply keep_drewN | apply keep_drew | apply keep_alloc)⟩
 ·rw [if_neg c3] at H
  have c3b0 : decide (0 < a1) = false := decide_eq_false c3
  clear c3
  simp only [Option.some.injEq, Prod.mk.injEq] at H
  obtain ⟨rfl, rfl⟩ := H
  go_enter Try.func63, Try.ntmps63
  go_wp2
  go_ret
  exact ⟨by first | rfl | (simp [*, errW_none, errW_some] <;> rfl), by repeat (first | exact HI0.out | apply IsS79.alloc | apply IsS79.drewN | apply IsS79.drew | apply IsS79.set_1), by repeat (first | exact HB.out | apply bA | apply bN | apply bD | refine bS ?_ (IsS79.ge HI0.out)), by repeat (first | exact HK.out | apply KeepBut.set_ | apply keep_drewN | apply keep_drew | apply keep_alloc)⟩

/-! ### spec_l20Key: function 64 -/
def spec_l20Key.l0 : Nat → ByteArray → Int → List Int → Int → Option (ByteArray × Int)
 | 0, _, _, _, _ => none
 | k + 1, x5, x6, x1000, x1001 => if x6 > 0 then ((spec_l20Rd_pick.f k x1000 x1001 4).bind fun bt411 => ((some (([(wrap64 (97 + bt411.1)) % 256] : List Int) : List Int)).bind fun y413 => (if x5.size + (strOfNums y413).size ≤ 9223372036854775807 then (spec_l20Key.l0 k (x5 ++ (strOfNums y413)) (wrap64 (x6 - 1)) x1000 bt411.2) else (none)))) else (some (x5, x1001))
def spec_l20Key.f (k : Nat) (s0_0 : List Int) (s0_1 : Int) (a1 : Int) : Option (ByteArray × Int) := (spec_l20Rd_odd.f k s0_0 s0_1 a1).bind fun bt393 => (if bt393.1 = true then ((some (([(⟨#[]⟩ : ByteArray), (⟨#[65]⟩ : ByteArray), (⟨#[97, 49]⟩ : ByteArray), (⟨#[97, 98, 99, 100, 101]⟩ : ByteArray), (⟨#[98, 123]⟩ : ByteArray), (⟨#[97, 32, 98]⟩ : ByteArray)] : List ByteArray) : List ByteArray)).bind fun y395 => ((spec_l20Rd_pick.f k s0_0 bt393.2 6).bind fun bt398 => (if 0 ≤ bt398.1 then (if bt398.1 < (y395.length : Int) then (some (rdOf ByteArray.empty y395 bt398.1, bt398.2)) else (none)) else (none)))) else ((spec_l20Rd_pick.f k s0_0 bt393.2 12).bind fun bt401 => (if bt401.1 = 11 then ((some (([(⟨#[122, 122, 122, 122]⟩ : ByteArray), (⟨#[122, 122, 122]⟩ : ByteArray), (⟨#[97, 122, 122, 122]⟩ : ByteArray), (⟨#[122]⟩ : ByteArray), (⟨#[97, 97, 97, 97]⟩ : ByteArray)] : List ByteArray) : List ByteArray)).bind fun y403 => ((spec_l20Rd_pick.f k s0_0 bt401.2 5).bind fun bt406 => (if 0 ≤ bt406.1 then (if bt406.1 < (y403.length : Int) then (some (rdOf ByteArray.empty y403 bt406.1, bt406.2)) else (none)) else (none)))) else ((spec_l20Rd_pick.f k s0_0 bt401.2 2).bind fun bt409 => (spec_l20Key.l0 k (⟨#[]⟩ : ByteArray) (wrap64 (1 + bt409.1)) s0_0 bt409.2)))))
theorem spec_l20Key.mono_l : ∀ k, (∀ y0 y1 y2 y3, LeO (spec_l20Key.l0 k y0 y1 y2 y3) (spec_l20Key.l0 (k + 1) y0 y1 y2 y3))
 | 0 => fun _ _ _ _ r h => by simp [spec_l20Key.l0] at h
 | k + 1 => by
  have ih0 := spec_l20Key.mono_l k
  ·intro y0 y1 y2 y3
   unfold spec_l20Key.l0
   repeat' first
   | (with_reducible exact ih0 _ _ _ _)
   | (with_reducible exact spec_l20Rd_odd.mono _ _ _ _)
   | (with_reducible exact spec_l20Rd_pick.mono _ _ _ _)
   | (with_reducible exact LeO.refl _)
   | (with_reducible exact LeO.none _)
   | (with_reducible refine LeO.ite ?_ ?_)
   | (with_reducible refine LeO.bind ?_ (fun _ => ?_))
   | exact ih0 _ _ _ _
   | exact LeO.none _
   | refine LeO.ite ?_ ?_
   | refine LeO.bind ?_ (fun _ => ?_)
theorem spec_l20Key.mono : ∀ a0 a1 a2 k, LeO (spec_l20Key.f k a0 a1 a2) (spec_l20Key.f (k + 1) a0 a1 a2) := by
 intro a0 a1 a2 k
 have ih0 := spec_l20Key.mono_l k
 unfold spec_l20Key.f
 repeat' first
   | (with_reducible exact ih0 _ _ _ _)
   | (with_reducible exact spec_l20Rd_odd.mono _ _ _ _)
   | (with_reducible exact spec_l20Rd_pick.mono _ _ _ _)
   | (with_reducible exact LeO.refl _)
   | (with_reducible exact LeO.none _)
   | (with_reducible refine LeO.ite ?_ ?_)
   | (with_reducible refine LeO.bind ?_ (fun _ => ?_))
   | exact ih0 _ _ _ _
   | exact LeO.none _
   | refine LeO.ite ?_ ?_
   | refine LeO.bind ?_ (fun _ => ?_)
theorem spec_l20Key.calls (k : Nat) (g : Nat) (s0_0 : List Int) (s0_1 : Int) (a1 : Int) (r1 : ByteArray) (r2 : Int) (w0 w : World) (hI : IsS79 w0 w g s0_0 s0_1) (hB : Below w0.heap.size w0 w) (h : spec_l20Key.f k s0_0 s0_1 a1 = some (r1, r2)) :
  Calls Try.prog 64 #[.pointer (some ⟨g, 0, none⟩), .int .i64 a1] w fun e w' => e = .returned (.string r1) ∧ IsS79 w0 w' g s0_0 r2 ∧ Below w0.heap.size w0 w' ∧ KeepBut w w' g none := by
 have HI0 := ak hI
 have HK := ak (KeepBut.refl w g none)
 have HL := ak hB.size
 clear hI
 have HW0 := ak hB.size
 have HB := ak hB
 clear hB
 have H : ((spec_l20Rd_odd.f k s0_0 s0_1 a1).bind fun bt393 => (if bt393.1 = true then ((some (([(⟨#[]⟩ : ByteArray), (⟨#[65]⟩ : ByteArray), (⟨#[97, 49]⟩ : ByteArray), (⟨#[97, 98, 99, 100, 101]⟩ : ByteArray), (⟨#[98, 123]⟩ : ByteArray), (⟨#[97, 32, 98]⟩ : ByteArray)] : List ByteArray) : List ByteArray)).bind fun y395 => ((spec_l20Rd_pick.f k s0_0 bt393.2 6).bind fun bt398 => (if 0 ≤ bt398.1 then (if bt398.1 < (y395.length : Int) then (some (rdOf ByteArray.empty y395 bt398.1, bt398.2)) else (none)) else (none)))) else ((spec_l20Rd_pick.f k s0_0 bt393.2 12).bind fun bt401 => (if bt401.1 = 11 then ((some (([(⟨#[122, 122, 122, 122]⟩ : ByteArray), (⟨#[122, 122, 122]⟩ : ByteArray), (⟨#[97, 122, 122, 122]⟩ : ByteArray), (⟨#[122]⟩ : ByteArray), (⟨#[97, 97, 97, 97]⟩ : ByteArray)] : List ByteArray) : List ByteArray)).bind fun y403 => ((spec_l20Rd_pick.f k s0_0 bt401.2 5).bind fun bt406 => (if 0 ≤ bt406.1 then (if bt406.1 < (y403.length : Int) then (some (rdOf ByteArray.empty y403 bt406.1, bt406.2)) else (none)) else (none)))) else ((spec_l20Rd_pick.f k s0_0 bt401.2 2).bind fun bt409 => (spec_l20Key.l0 k (⟨#[]⟩ : ByteArray) (wrap64 (1 + bt409.1)) s0_0 bt409.2)))))) = some (r1, r2) := h
 clear h
 replace H := Option.bind_eq_some_iff.mp H
 obtain ⟨⟨t393, t394⟩, A30, H⟩ := H
 try dsimp only at H
 have A3 := ak A30
 clear A30
 by_cases c4 : t393 = true
 ·subst c4
  rw [if_pos rfl] at H
  obtain ⟨y395, hy395⟩ : ∃ y_ : List ByteArray, y_ = (([(⟨#[]⟩ : ByteArray), (⟨#[65]⟩ : ByteArray), (⟨#[97, 49]⟩ : ByteArray), (⟨#[97, 98, 99, 100, 101]⟩ : ByteArray), (⟨#[98, 123]⟩ : ByteArray), (⟨#[97, 32, 98]⟩ : ByteArray)] : List ByteArray)) := ⟨_, rfl⟩
  replace H : ((spec_l20Rd_pick.f k s0_0 t394 6).bind fun bt398 => (if 0 ≤ bt398.1 then (if bt398.1 < (y395.length : Int) then (some (rdOf ByteArray.empty y395 bt398.1, bt398.2)) else (none)) else (none))) = some (r1, r2) := by first | (rw [hy395]; exact H) | exact H
  have Ny395 := ak hy395
  clear hy395
  replace H := Option.bind_eq_some_iff.mp H
  obtain ⟨⟨t398, t399⟩, A50, H⟩ := H
  try dsimp only at H
  have A5 := ak A50
  clear A50
  by_cases c6 : 0 ≤ t398
  ·rw [if_pos c6] at H
   have c6b0 : decide (0 ≤ t398) = true := decide_eq_true c6
   clear c6
   by_cases c7 : t398 < (y395.length : Int)
   ·rw [if_pos c7] at H
    have c7b0 : decide (t398 < (y395.length : Int)) = true := decide_eq_true c7
    clear c7
    simp only [Option.some.injEq, Prod.mk.injEq] at H
    obtain ⟨rfl, rfl⟩ := H
    go_enter Try.func64, Try.ntmps64
    go_wp2_with (first | ((with_reducible refine gate_callee (f := 63) rfl ?_); refine gL (some 9) Try.func63 #[.pointer (some ⟨g, 0, none⟩), .int .i64 a1] ?_; (with_reducible refine (spec_l20Rd_odd.calls k g s0_0 s0_1 a1 true t394 w0 _ ?side1 ?side2 A3.out).mono ?_); (case side1 => repeat (first | exact HI0.out | apply IsS79.alloc | apply IsS79.drewN | apply IsS79.drew | apply IsS79.set_1)); (case side2 => repeat (first | exact HB.out | apply bA | apply bN | apply bD | refine bS ?_ (IsS79.ge HI0.out))); rintro e w8 ⟨rfl, hi, hb, hk⟩; refine ⟨_, rfl, ?_⟩; replace HK := ak (KeepBut.trans (by repeat (first | exact HK.out | apply KeepBut.set_ | apply keep_drewN | apply keep_drew | apply keep_alloc)) hk (.inl rfl)); replace HB := ak (hb); replace HI0 := ak (hi); (try clear hb)) | ((with_reducible refine gate_dst (N := 10) rfl ?_); refine Kd.R_lit Kd.string _ 9 ?hg (N := 10) ?hd (xs := ([(⟨#[]⟩ : ByteArray), (⟨#[65]⟩ : ByteArray), (⟨#[97, 49]⟩ : ByteArray), (⟨#[97, 98, 99, 100, 101]⟩ : ByteArray), (⟨#[98, 123]⟩ : ByteArray), (⟨#[97, 32, 98]⟩ : ByteArray)] : List ByteArray)) (inner := [.string (⟨#[]⟩ : ByteArray), .string (⟨#[65]⟩ : ByteArray), .string (⟨#[97, 49]⟩ : ByteArray), .string (⟨#[97, 98, 99, 100, 101]⟩ : ByteArray), .string (⟨#[98, 123]⟩ : ByteArray), .string (⟨#[97, 32, 98]⟩ : ByteArray)]) (ok := fun _ => True) (okp := fun _ => True) ?hr ?hp (fun _ hk => hk) trivial (Below.refl _ _) (Nat.le_refl _) (by simp) ?_; (case hd => rfl); (case hg => rfl); (case hr => go_simp <;> rfl); (case hp => exact (Reps.one (show Kd.M Kd.string _ _ _ (⟨#[]⟩ : ByteArray) [.string (⟨#[]⟩ : ByteArray)] from rfl) (Reps.one (show Kd.M Kd.string _ _ _ (⟨#[65]⟩ : ByteArray) [.string (⟨#[65]⟩ : ByteArray)] from rfl) (Reps.one (show Kd.M Kd.string _ _ _ (⟨#[97, 49]⟩ : ByteArray) [.string (⟨#[97, 49]⟩ : ByteArray)] from rfl) (Reps.one (show Kd.M Kd.string _ _ _ (⟨#[97, 98, 99, 100, 101]⟩ : ByteArray) [.string (⟨#[97, 98, 99, 100, 101]⟩ : ByteArray)] from rfl) (Reps.one (show Kd.M Kd.string _ _ _ (⟨#[98, 123]⟩ : ByteArray) [.string (⟨#[98, 123]⟩ : ByteArray)] from rfl) (Reps.one (show Kd.M Kd.string _ _ _ (⟨#[97, 32, 98]⟩ : ByteArray) [.string (⟨#[97, 32, 98]⟩ : ByteArray)] from rfl) (Reps.none _ _)))))))); intro v396 w9 ho10 hb hg_ hnew_; clear hg_ hnew_; (first | rw [← Ny395.out] at ho10 | (simp only [Int.reduceToNat] at ho10; rw [← Ny395.out] at ho10)); have HO397 := ak (Kd.R_lower ho10 (keep_size (w := w) (g := g) (row := none) (by repeat (first | exact HK.out | apply KeepBut.set_ | apply keep_drewN | apply keep_drew | apply keep_alloc)))); replace HK := ak (KeepBut.trans (by repeat (first | exact HK.out | apply KeepBut.set_ | apply keep_drewN | apply keep_drew | apply keep_alloc)) (KeepBut.of_below hb g none) (.inl rfl)); replace HB := ak (below_step (by repeat (first | exact HB.out | apply bA | apply bN | apply bD | refine bS ?_ (IsS79.ge HI0.out))) hb); replace HI0 := ak (IsS79.below (by repeat (first | exact HI0.out | apply IsS79.alloc | apply IsS79.drewN | apply IsS79.drew | apply IsS79.set_1)) hb); clear hb ho10) | ((with_reducible refine gate_callee (f := 62) rfl ?_); refine gL (some 12) Try.func62 #[.pointer (some ⟨g, 0, none⟩), .int .i64 6] ?_; (with_reducible refine (spec_l20Rd_pick.calls k g s0_0 t394 6 t398 t399 w0 _ ?side1 ?side2 A5.out).mono ?_); (case side1 => repeat (first | exact HI0.out | apply IsS79.alloc | apply IsS79.drewN | apply IsS79.drew | apply IsS79.set_1)); (case side2 => repeat (first | exact HB.out | apply bA | apply bN | apply bD | refine bS ?_ (IsS79.ge HI0.out))); rintro e w11 ⟨rfl, hi, hb, hk⟩; refine ⟨_, rfl, ?_⟩; replace HO397 := ak (Kd.R_mono (Kd.R_keep (IsS79.apart (show IsS79 w0 _ g s0_0 t394 from by repeat (first | exact HI0.out | apply IsS79.alloc | apply IsS79.drewN | apply IsS79.drew | apply IsS79.set_1)) (hR HO397.out) (by decide)) hk (fun _ h => h.2)) (fun _ h => h.1)); replace HK := ak (KeepBut.trans (by repeat (first | exact HK.out | apply KeepBut.set_ | apply keep_drewN | apply keep_drew | apply keep_alloc)) hk (.inl rfl)); replace HB := ak (hb); replace HI0 := ak (hi); (try clear hb); obtain ⟨Ao12, co12, eo12⟩ := Kd.R_slice HO397.out; subst eo12; have p400 : 0 ≤ (t398 : Int) := of_decide_eq_true (by assumption); have q400 : t398 < (y395.length : Int) := of_decide_eq_true (by assumption); obtain ⟨ad400, e400, hx400_0⟩ := Kd.at_string (Kd.R_reads' HO397.out).2.2 t398 p400 q400; cases e400; replace p400 := eq_true p400; replace q400 := eq_true q400))
    go_ret
    exact ⟨by first | rfl | (simp [*, errW_none, errW_some] <;> rfl), by repeat (first | exact HI0.out | apply IsS79.alloc | apply IsS79.drewN | apply IsS79.drew | apply IsS79.set_1), by repeat (first | exact HB.out | apply bA | apply bN | apply bD | refine bS ?_ (IsS79.ge HI0.out)), by repeat (first | exact HK.out | apply KeepBut.set_ | apply keep_drewN | apply keep_drew | apply keep_alloc)⟩
   ·rw [if_neg c7] at H
    exact absurd H (by simp)
  ·rw [if_neg c6] at H
   exact absurd H (by simp)
 ·replace c4 := Bool.eq_false_iff.mpr c4
  subst c4
  rw [if_neg (show ¬ (false = true) by decide)] at H
  replace H := Option.bind_eq_some_iff.mp H
  obtain ⟨⟨t401, t402⟩, A130, H⟩ := H
  try dsimp only at H
  have A13 := ak A130
  clear A130
  by_cases c14 : t401 = 11
  ·rw [if_pos c14] at H
   have c14b0 : (t401 == 11) = true := beq_iff_eq.mpr c14
   have c14b1 : (t401 != 11) = false := bne_eq_false_iff_eq.mpr c14
   clear c14
   obtain ⟨y403, hy403⟩ : ∃ y_ : List ByteArray, y_ = (([(⟨#[122, 122, 122, 122]⟩ : ByteArray), (⟨#[122, 122, 122]⟩ : ByteArray), (⟨#[97, 122, 122, 122]⟩ : ByteArray), (⟨#[122]⟩ : ByteArray), (⟨#[97, 97, 97, 97]⟩ : ByteArray)] : List ByteArray)) := ⟨_, rfl⟩
   replace H : ((spec_l20Rd_pick.f k s0_0 t402 5).bind fun bt406 => (if 0 ≤ bt406.1 then (if bt406.1 < (y403.length : Int) then (some (rdOf ByteArray.empty y403 bt406.1, bt406.2)) else (none)) else (none))) = some (r1, r2) := by first | (rw [hy403]; exact H) | exact H
   have Ny403 := ak hy403
   clear hy403
   replace H := Option.bind_eq_some_iff.mp H
   obtain ⟨⟨t406, t407⟩, A150, H⟩ := H
   try dsimp only at H
   have A15 := ak A150
   clear A150
   by_cases c16 : 0 ≤ t406
   ·rw [if_pos c16] at H
    have c16b0 : decide (0 ≤ t406) = true := decide_eq_true c16
    clear c16
    by_cases c17 : t406 < (y403.length : Int)
    ·rw [if_pos c17] at H
     have c17b0 : decide (t406 < (y403.length : Int)) = true := decide_eq_true c17
     clear c17
     simp only [Option.some.injEq, Prod.mk.injEq] at H
     obtain ⟨rfl, rfl⟩ := H
     go_enter Try.func64, Try.ntmps64
     go_wp2_with (first | ((with_reducible refine gate_callee (f := 63) rfl ?_); refine gL (some 9) Try.func63 #[.pointer (some ⟨g, 0, none⟩), .int .i64 a1] ?_; (with_reducible refine (spec_l20Rd_odd.calls k g s0_0 s0_1 a1 false t394 w0 _ ?side1 ?side2 A3.out).mono ?_); (case side1 => repeat (first | exact HI0.out | apply IsS79.alloc | apply IsS79.drewN | apply IsS79.drew | apply IsS79.set_1)); (case side2 => repeat (first | exact HB.out | apply bA | apply bN | apply bD | refine bS ?_ (IsS79.ge HI0.out))); rintro e w18 ⟨rfl, hi, hb, hk⟩; refine ⟨_, rfl, ?_⟩; replace HK := ak (KeepBut.trans (by repeat (first | exact HK.out | apply KeepBut.set_ | apply keep_drewN | apply keep_drew | apply keep_alloc)) hk (.inl rfl)); replace HB := ak (hb); replace HI0 := ak (hi); (try clear hb)) | ((with_reducible refine gate_callee (f := 62) rfl ?_); refine gL (some 16) Try.func62 #[.pointer (some ⟨g, 0, none⟩), .int .i64 12] ?_; (with_reducible refine (spec_l20Rd_pick.calls k g s0_0 t394 12 t401 t402 w0 _ ?side1 ?side2 A13.out).mono ?_); (case side1 => repeat (first | exact HI0.out | apply IsS79.alloc | apply IsS79.drewN | apply IsS79.drew | apply IsS79.set_1)); (case side2 => repeat (first | exact HB.out | apply bA | apply bN | apply bD | refine bS ?_ (IsS79.ge HI0.out))); rintro e w19 ⟨rfl, hi, hb, hk⟩; refine ⟨_, rfl, ?_⟩; replace HK := ak (KeepBut.trans (by repeat (first | exact HK.out | apply KeepBut.set_ | apply keep_drewN | apply keep_drew | apply keep_alloc)) hk (.inl rfl)); replace HB := ak (hb); replace HI0 := ak (hi); (try clear hb)) | ((with_reducible refine gate_dst (N := 18) rfl ?_); refine Kd.R_lit Kd.string _ 9 ?hg (N := 18) ?hd (xs := ([(⟨#[122, 122, 122, 122]⟩ : ByteArray), (⟨#[122, 122, 122]⟩ : ByteArray), (⟨#[97, 122, 122, 122]⟩ : ByteArray), (⟨#[122]⟩ : ByteArray), (⟨#[97, 97, 97, 97]⟩ : ByteArray)] : List ByteArray)) (inner := [.string (⟨#[122, 122, 122, 122]⟩ : ByteArray), .string (⟨#[122, 122, 122]⟩ : ByteArray), .string (⟨#[97, 122, 122, 122]⟩ : ByteArray), .string (⟨#[122]⟩ : ByteArray), .string (⟨#[97, 97, 97, 97]⟩ : ByteArray)]) (ok := fun _ => True) (okp := fun _ => True) ?hr ?hp (fun _ hk => hk) trivial (Below.refl _ _) (Nat.le_refl _) (by simp) ?_; (case hd => rfl); (case hg => rfl); (case hr => go_simp <;> rfl); (case hp => exact (Reps.one (show Kd.M Kd.string _ _ _ (⟨#[122, 122, 122, 122]⟩ : ByteArray) [.string (⟨#[122, 122, 122, 122]⟩ : ByteArray)] from rfl) (Reps.one (show Kd.M Kd.string _ _ _ (⟨#[122, 122, 122]⟩ : ByteArray) [.string (⟨#[122, 122, 122]⟩ : ByteArray)] from rfl) (Reps.one (show Kd.M Kd.string _ _ _ (⟨#[97, 122, 122, 122]⟩ : ByteArray) [.string (⟨#[97, 122, 122, 122]⟩ : ByteArray)] from rfl) (Reps.one (show Kd.M Kd.string _ _ _ (⟨#[122]⟩ : ByteArray) [.string (⟨#[122]⟩ : ByteArray)] from rfl) (Reps.one (show Kd.M Kd.string _ _ _ (⟨#[97, 97, 97, 97]⟩ : ByteArray) [.string (⟨#[97, 97, 97, 97]⟩ : ByteArray)] from rfl) (Reps.none _ _))))))); intro v404 w20 ho21 hb hg_ hnew_; clear hg_ hnew_; (first | rw [← Ny403.out] at ho21 | (simp only [Int.reduceToNat] at ho21; rw [← Ny403.out] at ho21)); have HO405 := ak (Kd.R_lower ho21 (keep_size (w := w) (g := g) (row := none) (by repeat (first | exact HK.out | apply KeepBut.set_ | apply keep_drewN | apply keep_drew | apply keep_alloc)))); replace HK := ak (KeepBut.trans (by repeat (first | exact HK.out | apply KeepBut.set_ | apply keep_drewN | apply keep_drew | apply keep_alloc)) (KeepBut.of_below hb g none) (.inl rfl)); replace HB := ak (below_step (by repeat (first | exact HB.out | apply bA | apply bN | apply bD | refine bS ?_ (IsS79.ge HI0.out))) hb); replace HI0 := ak (IsS79.below (by repeat (first | exact HI0.out | apply IsS79.alloc | apply IsS79.drewN | apply IsS79.drew | apply IsS79.set_1)) hb); clear hb ho21) | ((with_reducible refine gate_callee (f := 62) rfl ?_); refine gL (some 20) Try.func62 #[.pointer (some ⟨g, 0, none⟩), .int .i64 5] ?_; (with_reducible refine (spec_l20Rd_pick.calls k g s0_0 t402 5 t406 t407 w0 _ ?side1 ?side2 A15.out).mono ?_); (case side1 => repeat (first | exact HI0.out | apply IsS79.alloc | apply IsS79.drewN | apply IsS79.drew | apply IsS79.set_1)); (case side2 => repeat (first | exact HB.out | apply bA | apply bN | apply bD | refine bS ?_ (IsS79.ge HI0.out))); rintro e w22 ⟨rfl, hi, hb, hk⟩; refine ⟨_, rfl, ?_⟩; replace HO405 := ak (Kd.R_mono (Kd.R_keep (IsS79.apart (show IsS79 w0 _ g s0_0 t402 from by repeat (first | exact HI0.out | apply IsS79.alloc | apply IsS79.drewN | apply IsS79.drew | apply IsS79.set_1)) (hR HO405.out) (by decide)) hk (fun _ h => h.2)) (fun _ h => h.1)); replace HK := ak (KeepBut.trans (by repeat (first | exact HK.out | apply KeepBut.set_ | apply keep_drewN | apply keep_drew | apply keep_alloc)) hk (.inl rfl)); replace HB := ak (hb); replace HI0 := ak (hi); (try clear hb); obtain ⟨Ao23, co23, eo23⟩ := Kd.R_slice HO405.out; subst eo23; have p408 : 0 ≤ (t406 : Int) := of_decide_eq_true (by assumption); have q408 : t406 < (y403.length : Int) := of_decide_eq_true (by assumption); obtain ⟨ad408, e408, hx408_0⟩ := Kd.at_string (Kd.R_reads' HO405.out).2.2 t406 p408 q408; cases e408; replace p408 := eq_true p408; replace q408 := eq_true q408))
     go_ret
     exact ⟨by first | rfl | (simp [*, errW_none, errW_some] <;> rfl), by repeat (first | exact HI0.out | apply IsS79.alloc | apply IsS79.drewN | apply IsS79.drew | apply IsS79.set_1), by repeat (first | exact HB.out | apply bA | apply bN | apply bD | refine bS ?_ (IsS79.ge HI0.out)), by repeat (first | exact HK.out | apply KeepBut.set_ | apply keep_drewN | apply keep_drew | apply keep_alloc)⟩
    ·rw [if_neg c17] at H
     exact absurd H (by simp)
   ·rw [if_neg c16] at H
    exact absurd H (by simp)
  ·rw [if_neg c14] at H
   have c14b0 : (t401 == 11) = false := beq_eq_false_iff_ne.mpr c14
   have c14b1 : (t401 != 11) = true := bne_iff_ne.mpr c14
   replace H := Option.bind_eq_some_iff.mp H
   obtain ⟨⟨t409, t410⟩, A240, H⟩ := H
   try dsimp only at H
   have A24 := ak A240
   clear A240
   have H' := ak H
   clear H
   go_enter Try.func64, Try.ntmps64
   go_wp2_with (first | ((with_reducible refine gate_callee (f := 63) rfl ?_); refine gL (some 9) Try.func63 #[.pointer (some ⟨g, 0, none⟩), .int .i64 a1] ?_; (with_reducible refine (spec_l20Rd_odd.calls k g s0_0 s0_1 a1 false t394 w0 _ ?side1 ?side2 A3.out).mono ?_); (case side1 => repeat (first | exact HI0.out | apply IsS79.alloc | apply IsS79.drewN | apply IsS79.drew | apply IsS79.set_1)); (case side2 => repeat (first | exact HB.out | apply bA | apply bN | apply bD | refine bS ?_ (IsS79.ge HI0.out))); rintro e w25 ⟨rfl, hi, hb, hk⟩; refine ⟨_, rfl, ?_⟩; replace HK := ak (KeepBut.trans (by repeat (first | exact HK.out | apply KeepBut.set_ | apply keep_drewN | apply keep_drew | apply keep_alloc)) hk (.inl rfl)); replace HB := ak (hb); replace HI0 := ak (hi); (try clear hb)) | ((with_reducible refine gate_callee (f := 62) rfl ?_); refine gL (some 16) Try.func62 #[.pointer (some ⟨g, 0, none⟩), .int .i64 12] ?_; (with_reducible refine (spec_l20Rd_pick.calls k g s0_0 t394 12 t401 t402 w0 _ ?side1 ?side2 A13.out).mono ?_); (case side1 => repeat (first | exact HI0.out | apply IsS79.alloc | apply IsS79.drewN | apply IsS79.drew | apply IsS79.set_1)); (case side2 => repeat (first | exact HB.out | apply bA | apply bN | apply bD | refine bS ?_ (IsS79.ge HI0.out))); rintro e w26 ⟨rfl, hi, hb, hk⟩; refine ⟨_, rfl, ?_⟩; replace HK := ak (KeepBut.trans (by repeat (first | exact HK.out | apply KeepBut.set_ | apply keep_drewN | apply keep_drew | apply keep_alloc)) hk (.inl rfl)); replace HB := ak (hb); replace HI0 := ak (hi); (try clear hb)) | ((with_reducible refine gate_callee (f := 62) rfl ?_); refine gL (some 24) Try.func62 #[.pointer (some ⟨g, 0, none⟩), .int .i64 2] ?_; (with_reducible refine (spec_l20Rd_pick.calls k g s0_0 t402 2 t409 t410 w0 _ ?side1 ?side2 A24.out).mono ?_); (case side1 => repeat (first | exact HI0.out | apply IsS79.alloc | apply IsS79.drewN | apply IsS79.drew | apply IsS79.set_1)); (case side2 => repeat (first | exact HB.out | apply bA | apply bN | apply bD | refine bS ?_ (IsS79.ge HI0.out))); rintro e w27 ⟨rfl, hi, hb, hk⟩; refine ⟨_, rfl, ?_⟩; replace HK := ak (KeepBut.trans (by repeat (first | exact HK.out | apply KeepBut.set_ | apply keep_drewN | apply keep_drew | apply keep_alloc)) hk (.inl rfl)); replace HB := ak (hb); replace HI0 := ak (hi); (try clear hb)))
   go_loopg [5, 6] k (fun kq v5 v6 w' => ∃ (x5_1 : ByteArray) (x6_1 : Int) (x1001_1 : Int), v5 = .string x5_1 ∧ v6 = .int .i64 x6_1 ∧ Aside0 (spec_l20Key.l0 kq x5_1 x6_1 s0_0 x1001_1 = some (r1, r2)) ∧ Aside0 (kq ≤ k) ∧ Aside0 (IsS79 w0 w' g s0_0 x1001_1) ∧ Aside0 (KeepBut w w' g none) ∧ Aside0 (Below w0.heap.size w0 w'))
   case atStart => exact ⟨((⟨#[]⟩ : ByteArray)), (wrap64 (1 + t409)), (t410), (by first | rfl | (simp [*]; done)), (by first | rfl | (simp [*]; done)), H', ⟨Nat.le_refl _⟩, ⟨by repeat (first | exact HI0.out | apply IsS79.alloc | apply IsS79.drewN | apply IsS79.drew | apply IsS79.set_1)⟩, ⟨by repeat (first | exact HK.out | apply KeepBut.set_ | apply keep_drewN | apply keep_drew | apply keep_alloc)⟩, ⟨by repeat (first | exact HB.out | apply bA | apply bN | apply bD | refine bS ?_ (IsS79.ge HI0.out))⟩⟩
   case round =>
    clear H'
    try clear c1
    try clear p2
    try clear c4
    try clear p4
    try clear q4
    try clear hx4
    try clear c6
    try clear c6b0
    try clear p6
    try clear c7
    try clear c7b0
    try clear c14
    try clear c14b0
    try clear c14b1
    try clear c16
    try clear c16b0
    try clear c17
    try clear c17b0
    try clear hx400_0
    try clear hx408_0
    try clear p400
    try clear p408
    try clear q400
    try clear q408
    obtain ⟨x5_1, x6_1, x1001_1, rfl, rfl, HA, HK1, HI0, HK, HB⟩ := hrel
    cases gk with
    | zero => exact absurd HA.out (by simp [spec_l20Key.l0])
    | succ k1 =>
     have H := HA.out
     clear HA
     simp only [spec_l20Key.l0] at H
     by_cases c28 : x6_1 > 0
     ·rw [if_pos c28] at H
      have c28b0 : decide (0 < x6_1) = true := decide_eq_true c28
      clear c28
      replace H := Option.bind_eq_some_iff.mp H
      obtain ⟨⟨t411, t412⟩, A290, H⟩ := H
      try dsimp only at H
      have A29 := ak A290
      clear A290
      obtain ⟨y413, hy413⟩ : ∃ y_ : List Int, y_ = (([(wrap64 (97 + t411)) % 256] : List Int)) := ⟨_, rfl⟩
      replace H : (if x5_1.size + (strOfNums y413).size ≤ 9223372036854775807 then (spec_l20Key.l0 k1 (x5_1 ++ (strOfNums y413)) (wrap64 (x6_1 - 1)) s0_0 t412) else (none)) = some (r1, r2) := by first | (rw [hy413]; exact H) | exact H
      have Ny413 := ak hy413
      clear hy413
      by_cases c30 : x5_1.size + (strOfNums y413).size ≤ 9223372036854775807
      ·rw [if_pos c30] at H
       have c30b0 := eq_true c30
       have c30b1 : decide (x5_1.size + (strOfNums y413).size ≤ 9223372036854775807) = true := decide_eq_true c30
       try have c30b2 : (9223372036854775807 < x5_1.size + (strOfNums y413).size) = False := eq_false (Nat.not_lt.2 c30)
       have H' := ak H
       clear H
       go_wp2_with (first | ((with_reducible refine gate_callee (f := 62) rfl ?_); refine gL (some 32) Try.func62 #[.pointer (some ⟨g, 0, none⟩), .int .i64 4] ?_; (with_reducible refine (spec_l20Rd_pick.calls k1 g s0_0 x1001_1 4 t411 t412 w0 _ ?side1 ?side2 A29.out).mono ?_); (case side1 => repeat (first | exact HI0.out | apply IsS79.alloc | apply IsS79.drewN | apply IsS79.drew | apply IsS79.set_1)); (case side2 => repeat (first | exact HB.out | apply bA | apply bN | apply bD | refine bS ?_ (IsS79.ge HI0.out))); rintro e w31 ⟨rfl, hi, hb, hk⟩; refine ⟨_, rfl, ?_⟩; replace HK := ak (KeepBut.trans (by repeat (first | exact HK.out | apply KeepBut.set_ | apply keep_drewN | apply keep_drew | apply keep_alloc)) hk (.inl rfl)); replace HB := ak (hb); replace HI0 := ak (hi); (try clear hb)) | ((with_reducible refine gate_dst (N := 35) rfl ?_); refine Kd.R_lit (Kd.int .u8) _ 5 ?hg (N := 35) ?hd (xs := ([(wrap64 (97 + t411)) % 256] : List Int)) (inner := [.int .u8 ((wrap64 (97 + t411)) % 256)]) (ok := fun _ => True) (okp := fun _ => True) ?hr ?hp (fun _ hk => hk) trivial (Below.refl _ _) (Nat.le_refl _) (by simp) ?_; (case hd => rfl); (case hg => rfl); (case hr => go_simp <;> rfl); (case hp => exact (Reps.one (show Kd.M (Kd.int .u8) _ _ _ ((wrap64 (97 + t411)) % 256) [.int .u8 ((wrap64 (97 + t411)) % 256)] from rfl) (Reps.none _ _))); intro v414 w32 ho33 hb hg_ hnew_; clear hg_ hnew_; (first | rw [← Ny413.out] at ho33 | (simp only [Int.reduceToNat] at ho33; rw [← Ny413.out] at ho33)); have HO415 := ak (Kd.R_lower ho33 (keep_size (w := w) (g := g) (row := none) (by repeat (first | exact HK.out | apply KeepBut.set_ | apply keep_drewN | apply keep_drew | apply keep_alloc)))); replace HK := ak (KeepBut.trans (by repeat (first | exact HK.out | apply KeepBut.set_ | apply keep_drewN | apply keep_drew | apply keep_alloc)) (KeepBut.of_below hb g none) (.inl rfl)); replace HB := ak (below_step (by repeat (first | exact HB.out | apply bA | apply bN | apply bD | refine bS ?_ (IsS79.ge HI0.out))) hb); replace HI0 := ak (IsS79.below (by repeat (first | exact HI0.out | apply IsS79.alloc | apply IsS79.drewN | apply IsS79.drew | apply IsS79.set_1)) hb); clear hb ho33; have hcv34 := own_string (P := Try.prog) Try.underlying31 Try.underlying5 Try.underlying9 (Kd.own_of_R HO415.out)))
       go_roundg k1
       case measure => have := HK1.out; omega
       case rel => exact ⟨(x5_1 ++ (strOfNums y413)), (wrap64 (x6_1 - 1)), (t412), (by first | rfl | (simp [*]; done)), (by first | rfl | (simp [*]; done)), H', ⟨by have := HK1.out; omega⟩, ⟨by repeat (first | exact HI0.out | apply IsS79.alloc | apply IsS79.drewN | apply IsS79.drew | apply IsS79.set_1)⟩, ⟨by repeat (first | exact HK.out | apply KeepBut.set_ | apply keep_drewN | apply keep_drew | apply keep_alloc)⟩, ⟨by repeat (first | exact HB.out | apply bA | apply bN | apply bD | refine bS ?_ (IsS79.ge HI0.out))⟩⟩
      ·rw [if_neg c30] at H
       exact absurd H (by simp)
     ·rw [if_neg c28] at H
      have c28b0 : decide (0 < x6_1) = false := decide_eq_false c28
      clear c28
      simp only [Option.some.injEq, Prod.mk.injEq] at H
      obtain ⟨rfl, rfl⟩ := H
      go_wp2
      go_ret
      exact ⟨by first | rfl | (simp [*, errW_none, errW_some] <;> rfl), by repeat (first | exact HI0.out | apply IsS79.alloc | apply IsS79.drewN | apply IsS79.drew | apply IsS79.set_1), by repeat (first | exact HB.out | apply bA | apply bN | apply bD | refine bS ?_ (IsS79.ge HI0.out)), by repeat (first | exact HK.out | apply KeepBut.set_ | apply keep_drewN | apply keep_drew | apply keep_alloc)⟩

/-! ### spec_l20Near: function 40 -/
def spec_l20Near.j0 : Nat → List (S65) → Int → Bool → List Int → Int → Option (ByteArray × Int)
 | 0, _, _, _, _, _ => none
 | k + 1, x1, x2, x14, x1000, x1001 => if x14 = true then ((spec_l20Rd_pick.f k x1000 x1001 (x1.length : Int)).bind fun bt418 => (if 0 ≤ bt418.1 then (if bt418.1 < (x1.length : Int) then (some ((rd_T65 x1 bt418.1).f0, bt418.2)) else (none)) else (none))) else ((spec_l20Key.f k x1000 x1001 x2).bind fun bt421 => (some (bt421.1, bt421.2)))
def spec_l20Near.f (k : Nat) (s0_0 : List Int) (s0_1 : Int) (l1 : List (S65)) (a2 : Int) : Option (ByteArray × Int) := if (l1.length : Int) > 0 then ((spec_l20Rd_pick.f k s0_0 s0_1 2).bind fun bt416 => (spec_l20Near.j0 k l1 a2 (bt416.1 == 0) s0_0 bt416.2)) else (spec_l20Near.j0 k l1 a2 false s0_0 s0_1)
theorem spec_l20Near.mono_l : ∀ k, (∀ y0 y1 y2 y3 y4, LeO (spec_l20Near.j0 k y0 y1 y2 y3 y4) (spec_l20Near.j0 (k + 1) y0 y1 y2 y3 y4))
 | 0 => fun _ _ _ _ _ r h => by simp [spec_l20Near.j0] at h
 | k + 1 => by
  have ih0 := spec_l20Near.mono_l k
  ·intro y0 y1 y2 y3 y4
   unfold spec_l20Near.j0
   repeat' first
   | (with_reducible exact ih0 _ _ _ _ _)
   | (with_reducible exact spec_l20Key.mono _ _ _ _)
   | (with_reducible exact spec_l20Rd_pick.mono _ _ _ _)
   | (with_reducible exact LeO.refl _)
   | (with_reducible exact LeO.none _)
   | (with_reducible refine LeO.ite ?_ ?_)
   | (with_reducible refine LeO.bind ?_ (fun _ => ?_))
   | exact ih0 _ _ _ _ _
   | exact LeO.none _
   | refine LeO.ite ?_ ?_
   | refine LeO.bind ?_ (fun _ => ?_)
theorem spec_l20Near.mono : ∀ a0 a1 a2 a3 k, LeO (spec_l20Near.f k a0 a1 a2 a3) (spec_l20Near.f (k + 1) a0 a1 a2 a3) := by
 intro a0 a1 a2 a3 k
 have ih0 := spec_l20Near.mono_l k
 unfold spec_l20Near.f
 repeat' first
   | (with_reducible exact ih0 _ _ _ _ _)
   | (with_reducible exact spec_l20Key.mono _ _ _ _)
   | (with_reducible exact spec_l20Rd_pick.mono _ _ _ _)
   | (with_reducible exact LeO.refl _)
   | (with_reducible exact LeO.none _)
   | (with_reducible refine LeO.ite ?_ ?_)
   | (with_reducible refine LeO.bind ?_ (fun _ => ?_))
   | exact ih0 _ _ _ _ _
   | exact LeO.none _
   | refine LeO.ite ?_ ?_
   | refine LeO.bind ?_ (fun _ => ?_)
theorem spec_l20Near.calls (k : Nat) (g : Nat) (s0_0 : List Int) (s0_1 : Int) (A1 : Option Addr) (c1 : Nat) (l1 : List (S65)) (a2 : Int) (r1 : ByteArray) (r2 : Int) (w0 w : World) (hI : IsS79 w0 w g s0_0 s0_1) (hB : Below w0.heap.size w0 w) (hr1 : ∀ W_, KeepBut w W_ g none → Kd.C k65 W_ A1 l1.length l1) (hc1 : l1.length ≤ c1) (h : spec_l20Near.f k s0_0 s0_1 l1 a2 = some (r1, r2)) :
  Calls Try.prog 40 #[.pointer (some ⟨g, 0, none⟩), .slice A1 l1.length c1, .int .i64 a2] w fun e w' => e = .returned (.string r1) ∧ IsS79 w0 w' g s0_0 r2 ∧ Below w0.heap.size w0 w' ∧ KeepBut w w' g none := by
 have HR1 := ak hr1
 have HC1 := ak hc1
 clear hr1 hc1
 have HI0 := ak hI
 have HK := ak (KeepBut.refl w g none)
 have HL := ak hB.size
 clear hI
 have HW0 := ak hB.size
 have HB := ak hB
 clear hB
 have H : (if (l1.length : Int) > 0 then ((spec_l20Rd_pick.f k s0_0 s0_1 2).bind fun bt416 => (spec_l20Near.j0 k l1 a2 (bt416.1 == 0) s0_0 bt416.2)) else (spec_l20Near.j0 k l1 a2 false s0_0 s0_1)) = some (r1, r2) := h
 clear h
 have HC4 := ak H
 clear H
 go_enter Try.func40, Try.ntmps40
 go_upto_region 1 with (fail)
 go_cut [14] (fun v14 wc => ∃ (kq : Nat) (x14_3 : Bool) (x1001_3 : Int), v14 = .bool x14_3 ∧ Aside0 (spec_l20Near.j0 kq l1 a2 x14_3 s0_0 x1001_3 = some (r1, r2)) ∧ Aside0 (kq ≤ k) ∧ Aside0 (IsS79 w0 wc g s0_0 x1001_3) ∧ Aside0 (KeepBut w wc g none) ∧ Aside0 (Below w0.heap.size w0 wc))
 case first =>
  have H := HC4.out
  clear HC4
  by_cases c5 : (l1.length : Int) > 0
  ·rw [if_pos c5] at H
   have c5b0 : decide (0 < (l1.length : Int)) = true := decide_eq_true c5
   have c5b1 : decide (0 < l1.length) = true := decide_eq_true (by omega)
   clear c5
   (first | rw [c5b0] | (simp only [i64_w, i32_w]; rw [c5b0]) | skip)
   replace H := Option.bind_eq_some_iff.mp H
   obtain ⟨⟨t416, t417⟩, A60, H⟩ := H
   try dsimp only at H
   have A6 := ak A60
   clear A60
   have H' := ak H
   clear H
   go_wp2_with (first | (go_at_call 62; (with_reducible refine (spec_l20Rd_pick.calls k g s0_0 s0_1 2 t416 t417 w0 _ ?side1 ?side2 A6.out).mono ?_); (case side1 => repeat (first | exact HI0.out | apply IsS79.alloc | apply IsS79.drewN | apply IsS79.drew | apply IsS79.set_1)); (case side2 => repeat (first | exact HB.out | apply bA | apply bN | apply bD | refine bS ?_ (IsS79.ge HI0.out))); rintro e w7 ⟨rfl, hi, hb, hk⟩; replace HK := ak (KeepBut.trans (by repeat (first | exact HK.out | apply KeepBut.set_ | apply keep_drewN | apply keep_drew | apply keep_alloc)) hk (.inl rfl)); replace HB := ak (hb); replace HI0 := ak (hi); (try clear hb)))
   go_meet
   case rel => exact ⟨_, ((t416 == 0)), (t417), (by first | rfl | (simp [*]; done)), H', ⟨by first | omega | exact Nat.le_refl _⟩, ⟨by repeat (first | exact HI0.out | apply IsS79.alloc | apply IsS79.drewN | apply IsS79.drew | apply IsS79.set_1)⟩, ⟨by repeat (first | exact HK.out | apply KeepBut.set_ | apply keep_drewN | apply keep_drew | apply keep_alloc)⟩, ⟨by repeat (first | exact HB.out | apply bA | apply bN | apply bD | refine bS ?_ (IsS79.ge HI0.out))⟩⟩
  ·rw [if_neg c5] at H
   have c5b0 : decide (0 < (l1.length : Int)) = false := decide_eq_false c5
   have c5b1 : decide (0 < l1.length) = false := decide_eq_false (by omega)
   clear c5
   (first | rw [c5b0] | (simp only [i64_w, i32_w]; rw [c5b0]) | skip)
   have H' := ak H
   clear H
   go_wp2
   go_meet
   case rel => exact ⟨_, (false), (s0_1), (by first | rfl | (simp [*]; done)), H', ⟨by first | omega | exact Nat.le_refl _⟩, ⟨by repeat (first | exact HI0.out | apply IsS79.alloc | apply IsS79.drewN | apply IsS79.drew | apply IsS79.set_1)⟩, ⟨by repeat (first | exact HK.out | apply KeepBut.set_ | apply keep_drewN | apply keep_drew | apply keep_alloc)⟩, ⟨by repeat (first | exact HB.out | apply bA | apply bN | apply bD | refine bS ?_ (IsS79.ge HI0.out))⟩⟩
 case rest =>
  clear HC4
  try clear c1
  try clear p2
  try clear c4
  try clear c5
  try clear c5b0
  try clear c5b1
  obtain ⟨kq, x14_3, x1001_3, rfl, HA, HJ3, HI0, HK, HB⟩ := hcut
  cases kq with
  | zero => exact absurd HA.out (by simp [spec_l20Near.j0])
  | succ kj3 =>
   have H := HA.out
   clear HA
   simp only [spec_l20Near.j0] at H
   by_cases c8 : x14_3 = true
   ·subst c8
    rw [if_pos rfl] at H
    replace H := Option.bind_eq_some_iff.mp H
    obtain ⟨⟨t418, t419⟩, A90, H⟩ := H
    try dsimp only at H
    have A9 := ak A90
    clear A90
    by_cases c10 : 0 ≤ t418
    ·rw [if_pos c10] at H
     have c10b0 : decide (0 ≤ t418) = true := decide_eq_true c10
     clear c10
     by_cases c11 : t418 < (l1.length : Int)
     ·rw [if_pos c11] at H
      have c11b0 : decide (t418 < (l1.length : Int)) = true := decide_eq_true c11
      clear c11
      simp only [Option.some.injEq, Prod.mk.injEq] at H
      obtain ⟨rfl, rfl⟩ := H
      go_wp2_with (first | ((with_reducible refine gate_callee (f := 62) rfl ?_); refine gL (some 19) Try.func62 #[.pointer (some ⟨g, 0, none⟩), .int .i64 (l1.length : Int)] ?_; (with_reducible refine (spec_l20Rd_pick.calls kj3 g s0_0 x1001_3 (l1.length : Int) t418 t419 w0 _ ?side1 ?side2 A9.out).mono ?_); (case side1 => repeat (first | exact HI0.out | apply IsS79.alloc | apply IsS79.drewN | apply IsS79.drew | apply IsS79.set_1)); (case side2 => repeat (first | exact HB.out | apply bA | apply bN | apply bD | refine bS ?_ (IsS79.ge HI0.out))); rintro e w12 ⟨rfl, hi, hb, hk⟩; refine ⟨_, rfl, ?_⟩; replace HK := ak (KeepBut.trans (by repeat (first | exact HK.out | apply KeepBut.set_ | apply keep_drewN | apply keep_drew | apply keep_alloc)) hk (.inl rfl)); replace HB := ak (hb); replace HI0 := ak (hi); (try clear hb); have p420 : 0 ≤ (t418 : Int) := of_decide_eq_true (by assumption); have q420 : t418 < (l1.length : Int) := of_decide_eq_true (by assumption); obtain ⟨ad420, e420, hx420_0, hx420_1⟩ := at_T65 (Kd.C_foot_now HR1.out HK.out) t418 p420 q420; cases e420; replace p420 := eq_true p420; replace q420 := eq_true q420))
      go_ret
      exact ⟨by first | rfl | (simp [*, errW_none, errW_some] <;> rfl), by repeat (first | exact HI0.out | apply IsS79.alloc | apply IsS79.drewN | apply IsS79.drew | apply IsS79.set_1), by repeat (first | exact HB.out | apply bA | apply bN | apply bD | refine bS ?_ (IsS79.ge HI0.out)), by repeat (first | exact HK.out | apply KeepBut.set_ | apply keep_drewN | apply keep_drew | apply keep_alloc)⟩
     ·rw [if_neg c11] at H
      exact absurd H (by simp)
    ·rw [if_neg c10] at H
     exact absurd H (by simp)
   ·replace c8 := Bool.eq_false_iff.mpr c8
    subst c8
    rw [if_neg (show ¬ (false = true) by decide)] at H
    replace H := Option.bind_eq_some_iff.mp H
    obtain ⟨⟨t421, t422⟩, A130, H⟩ := H
    try dsimp only at H
    have A13 := ak A130
    clear A130
    simp only [Option.some.injEq, Prod.mk.injEq] at H
    obtain ⟨rfl, rfl⟩ := H
    go_wp2_with (first | ((with_reducible refine gate_callee (f := 64) rfl ?_); refine gL (some 25) Try.func64 #[.pointer (some ⟨g, 0, none⟩), .int .i64 a2] ?_; (with_reducible refine (spec_l20Key.calls kj3 g s0_0 x1001_3 a2 t421 t422 w0 _ ?side1 ?side2 A13.out).mono ?_); (case side1 => repeat (first | exact HI0.out | apply IsS79.alloc | apply IsS79.drewN | apply IsS79.drew | apply IsS79.set_1)); (case side2 => repeat (first | exact HB.out | apply bA | apply bN | apply bD | refine bS ?_ (IsS79.ge HI0.out))); rintro e w14 ⟨rfl, hi, hb, hk⟩; refine ⟨_, rfl, ?_⟩; replace HK := ak (KeepBut.trans (by repeat (first | exact HK.out | apply KeepBut.set_ | apply keep_drewN | apply keep_drew | apply keep_alloc)) hk (.inl rfl)); replace HB := ak (hb); replace HI0 := ak (hi); (try clear hb)))
    go_ret
    exact ⟨by first | rfl | (simp [*, errW_none, errW_some] <;> rfl), by repeat (first | exact HI0.out | apply IsS79.alloc | apply IsS79.drewN | apply IsS79.drew | apply IsS79.set_1), by repeat (first | exact HB.out | apply bA | apply bN | apply bD | refine bS ?_ (IsS79.ge HI0.out)), by repeat (first | exact HK.out | apply KeepBut.set_ | apply keep_drewN | apply keep_drew | apply keep_alloc)⟩

/-! ### spec_l20Value: function 42 -/
def spec_l20Value.f (k : Nat) (s0_0 : List Int) (s0_1 : Int) (a1 : Int) : Option (Int × Int) := (spec_l20Rd_odd.f k s0_0 s0_1 a1).bind fun bt423 => (if bt423.1 = true then ((some (([(-1), 1000] : List Int) : List Int)).bind fun y425 => ((spec_l20Rd_pick.f k s0_0 bt423.2 2).bind fun bt428 => (if 0 ≤ bt428.1 then (if bt428.1 < (y425.length : Int) then (some (rd y425 bt428.1, bt428.2)) else (none)) else (none)))) else ((spec_l20Rd_pick.f k s0_0 bt423.2 20).bind fun bt431 => ((some (([bt431.1, 999] : List Int) : List Int)).bind fun y433 => ((spec_l20Rd_pick.f k s0_0 bt431.2 9).bind fun bt436 => (if 0 ≤ (wrap64 (Int.tdiv bt436.1 8)) then (if (wrap64 (Int.tdiv bt436.1 8)) < (y433.length : Int) then (some (rd y433 (wrap64 (Int.tdiv bt436.1 8)), bt436.2)) else (none)) else (none))))))
theorem spec_l20Value.mono : ∀ a0 a1 a2 k, LeO (spec_l20Value.f k a0 a1 a2) (spec_l20Value.f (k + 1) a0 a1 a2) := by
 intro a0 a1 a2 k
 unfold spec_l20Value.f
 repeat' first
   | (with_reducible exact spec_l20Rd_odd.mono _ _ _ _)
   | (with_reducible exact spec_l20Rd_pick.mono _ _ _ _)
   | (with_reducible exact LeO.refl _)
   | (with_reducible exact LeO.none _)
   | (with_reducible refine LeO.ite ?_ ?_)
   | (with_reducible refine LeO.bind ?_ (fun _ => ?_))
   | exact LeO.none _
   | refine LeO.ite ?_ ?_
   | refine LeO.bind ?_ (fun _ => ?_)
theorem spec_l20Value.calls (k : Nat) (g : Nat) (s0_0 : List Int) (s0_1 : Int) (a1 : Int) (r1 : Int) (r2 : Int) (w0 w : World) (hI : IsS79 w0 w g s0_0 s0_1) (hB : Below w0.heap.size w0 w) (h : spec_l20Value.f k s0_0 s0_1 a1 = some (r1, r2)) :
  Calls Try.prog 42 #[.pointer (some ⟨g, 0, none⟩), .int .i64 a1] w fun e w' => e = .returned (.int .i64 r1) ∧ IsS79 w0 w' g s0_0 r2 ∧ Below w0.heap.size w0 w' ∧ KeepBut w w' g none := by
 have HI0 := ak hI
 have HK := ak (KeepBut.refl w g none)
 have HL := ak hB.size
 clear hI
 have HW0 := ak hB.size
 have HB := ak hB
 clear hB
 have H : ((spec_l20Rd_odd.f k s0_0 s0_1 a1).bind fun bt423 => (if bt423.1 = true then ((some (([(-1), 1000] : List Int) : List Int)).bind fun y425 => ((spec_l20Rd_pick.f k s0_0 bt423.2 2).bind fun bt428 => (if 0 ≤ bt428.1 then (if bt428.1 < (y425.length : Int) then (some (rd y425 bt428.1, bt428.2)) else (none)) else (none)))) else ((spec_l20Rd_pick.f k s0_0 bt423.2 20).bind fun bt431 => ((some (([bt431.1, 999] : List Int) : List Int)).bind fun y433 => ((spec_l20Rd_pick.f k s0_0 bt431.2 9).bind fun bt436 => (if 0 ≤ (wrap64 (Int.tdiv bt436.1 8)) then (if (wrap64 (Int.tdiv bt436.1 8)) < (y433.length : Int) then (some (rd y433 (wrap64 (Int.tdiv bt436.1 8)), bt436.2)) else (none)) else (none))))))) = some (r1, r2) := h
 clear h
 replace H := Option.bind_eq_some_iff.mp H
 obtain ⟨⟨t423, t424⟩, A30, H⟩ := H
 try dsimp only at H
 have A3 := ak A30
 clear A30
 by_cases c4 : t423 = true
 ·subst c4
  rw [if_pos rfl] at H
  obtain ⟨y425, hy425⟩ : ∃ y_ : List Int, y_ = (([(-1), 1000] : List Int)) := ⟨_, rfl⟩
  replace H : ((spec_l20Rd_pick.f k s0_0 t424 2).bind fun bt428 => (if 0 ≤ bt428.1 then (if bt428.1 < (y425.length : Int) then (some (rd y425 bt428.1, bt428.2)) else (none)) else (none))) = some (r1, r2) := by first | (rw [hy425]; exact H) | exact H
  have Ny425 := ak hy425
  clear hy425
  replace H := Option.bind_eq_some_iff.mp H
  obtain ⟨⟨t428, t429⟩, A50, H⟩ := H
  try dsimp only at H
  have A5 := ak A50
  clear A50
  by_cases c6 : 0 ≤ t428
  ·rw [if_pos c6] at H
   have c6b0 : decide (0 ≤ t428) = true := decide_eq_true c6
   clear c6
   by_cases c7 : t428 < (y425.length : Int)
   ·rw [if_pos c7] at H
    have c7b0 : decide (t428 < (y425.length : Int)) = true := decide_eq_true c7
    clear c7
    simp only [Option.some.injEq, Prod.mk.injEq] at H
    obtain ⟨rfl, rfl⟩ := H
    go_enter Try.func42, Try.ntmps42
    go_wp2_with (first | ((with_reducible refine gate_callee (f := 63) rfl ?_); refine gL (some 7) Try.func63 #[.pointer (some ⟨g, 0, none⟩), .int .i64 a1] ?_; (with_reducible refine (spec_l20Rd_odd.calls k g s0_0 s0_1 a1 true t424 w0 _ ?side1 ?side2 A3.out).mono ?_); (case side1 => repeat (first | exact HI0.out | apply IsS79.alloc | apply IsS79.drewN | apply IsS79.drew | apply IsS79.set_1)); (case side2 => repeat (first | exact HB.out | apply bA | apply bN | apply bD | refine bS ?_ (IsS79.ge HI0.out))); rintro e w8 ⟨rfl, hi, hb, hk⟩; refine ⟨_, rfl, ?_⟩; replace HK := ak (KeepBut.trans (by repeat (first | exact HK.out | apply KeepBut.set_ | apply keep_drewN | apply keep_drew | apply keep_alloc)) hk (.inl rfl)); replace HB := ak (hb); replace HI0 := ak (hi); (try clear hb)) | ((with_reducible refine gate_dst (N := 8) rfl ?_); refine Kd.R_lit (Kd.int .i64) _ 3 ?hg (N := 8) ?hd (xs := ([(-1), 1000] : List Int)) (inner := [.int .i64 (-1), .int .i64 1000]) (ok := fun _ => True) (okp := fun _ => True) ?hr ?hp (fun _ hk => hk) trivial (Below.refl _ _) (Nat.le_refl _) (by simp) ?_; (case hd => rfl); (case hg => rfl); (case hr => go_simp <;> rfl); (case hp => exact (Reps.one (show Kd.M (Kd.int .i64) _ _ _ (-1) [.int .i64 (-1)] from rfl) (Reps.one (show Kd.M (Kd.int .i64) _ _ _ 1000 [.int .i64 1000] from rfl) (Reps.none _ _)))); intro v426 w9 ho10 hb hg_ hnew_; clear hg_ hnew_; (first | rw [← Ny425.out] at ho10 | (simp only [Int.reduceToNat] at ho10; rw [← Ny425.out] at ho10)); have HO427 := ak (Kd.R_lower ho10 (keep_size (w := w) (g := g) (row := none) (by repeat (first | exact HK.out | apply KeepBut.set_ | apply keep_drewN | apply keep_drew | apply keep_alloc)))); replace HK := ak (KeepBut.trans (by repeat (first | exact HK.out | apply KeepBut.set_ | apply keep_drewN | apply keep_drew | apply keep_alloc)) (KeepBut.of_below hb g none) (.inl rfl)); replace HB := ak (below_step (by repeat (first | exact HB.out | apply bA | apply bN | apply bD | refine bS ?_ (IsS79.ge HI0.out))) hb); replace HI0 := ak (IsS79.below (by repeat (first | exact HI0.out | apply IsS79.alloc | apply IsS79.drewN | apply IsS79.drew | apply IsS79.set_1)) hb); clear hb ho10) | ((with_reducible refine gate_callee (f := 62) rfl ?_); refine gL (some 10) Try.func62 #[.pointer (some ⟨g, 0, none⟩), .int .i64 2] ?_; (with_reducible refine (spec_l20Rd_pick.calls k g s0_0 t424 2 t428 t429 w0 _ ?side1 ?side2 A5.out).mono ?_); (case side1 => repeat (first | exact HI0.out | apply IsS79.alloc | apply IsS79.drewN | apply IsS79.drew | apply IsS79.set_1)); (case side2 => repeat (first | exact HB.out | apply bA | apply bN | apply bD | refine bS ?_ (IsS79.ge HI0.out))); rintro e w11 ⟨rfl, hi, hb, hk⟩; refine ⟨_, rfl, ?_⟩; replace HO427 := ak (Kd.R_mono (Kd.R_keep (IsS79.apart (show IsS79 w0 _ g s0_0 t424 from by repeat (first | exact HI0.out | apply IsS79.alloc | apply IsS79.drewN | apply IsS79.drew | apply IsS79.set_1)) (hR HO427.out) (by decide)) hk (fun _ h => h.2)) (fun _ h => h.1)); replace HK := ak (KeepBut.trans (by repeat (first | exact HK.out | apply KeepBut.set_ | apply keep_drewN | apply keep_drew | apply keep_alloc)) hk (.inl rfl)); replace HB := ak (hb); replace HI0 := ak (hi); (try clear hb); obtain ⟨Ao12, co12, eo12⟩ := Kd.R_slice HO427.out; subst eo12; have p430 : 0 ≤ (t428 : Int) := of_decide_eq_true (by assumption); have q430 : t428 < (y425.length : Int) := of_decide_eq_true (by assumption); obtain ⟨ad430, e430, hx430_0⟩ := Kd.at_int (Kd.R_reads' HO427.out).2.2 t428 p430 q430; cases e430; replace p430 := eq_true p430; replace q430 := eq_true q430))
    go_ret
    exact ⟨by first | rfl | (simp [*, errW_none, errW_some] <;> rfl), by repeat (first | exact HI0.out | apply IsS79.alloc | apply IsS79.drewN | apply IsS79.drew | apply IsS79.set_1), by repeat (first | exact HB.out | apply bA | apply bN | apply bD | refine bS ?_ (IsS79.ge HI0.out)), by repeat (first | exact HK.out | apply KeepBut.set_ | apply keep_drewN | apply keep_drew | apply keep_alloc)⟩
   ·rw [if_neg c7] at H
    exact absurd H (by simp)
  ·rw [if_neg c6] at H
   exact absurd H (by simp)
 ·replace c4 := Bool.eq_false_iff.mpr c4
  subst c4
  rw [if_neg (show ¬ (false = true) by decide)] at H
  replace H := Option.bind_eq_some_iff.mp H
  obtain ⟨⟨t431, t432⟩, A130, H⟩ := H
  try dsimp only at H
  have A13 := ak A130
  clear A130
  obtain ⟨y433, hy433⟩ : ∃ y_ : List Int, y_ = (([t431, 999] : List Int)) := ⟨_, rfl⟩
  replace H : ((spec_l20Rd_pick.f k s0_0 t432 9).bind fun bt436 => (if 0 ≤ (wrap64 (Int.tdiv bt436.1 8)) then (if (wrap64 (Int.tdiv bt436.1 8)) < (y433.length : Int) then (some (rd y433 (wrap64 (Int.tdiv bt436.1 8)), bt436.2)) else (none)) else (none))) = some (r1, r2) := by first | (rw [hy433]; exact H) | exact H
  have Ny433 := ak hy433
  clear hy433
  replace H := Option.bind_eq_some_iff.mp H
  obtain ⟨⟨t436, t437⟩, A140, H⟩ := H
  try dsimp only at H
  have A14 := ak A140
  clear A140
  obtain ⟨ji15, hji15⟩ : ∃ j_ : Int, (wrap64 (Int.tdiv t436 8)) = j_ := ⟨_, rfl⟩
  replace H : (if 0 ≤ (ji15) then (if (ji15) < (y433.length : Int) then (some (rd y433 (ji15), t437)) else (none)) else (none)) = some (r1, r2) := by first | (rw [hji15] at H; exact H) | (simp only [hji15] at H ⊢; exact H)
  (try rw [hji15] at A3)
  (try rw [hji15] at A13)
  (try rw [hji15] at A14)
  have hji15w : (IntKind.i64.wrap (Int.tdiv t436 8)) = ji15 := (i64_w _).trans hji15
  by_cases c16 : 0 ≤ (ji15)
  ·rw [if_pos c16] at H
   have c16b0 : decide (0 ≤ (ji15)) = true := decide_eq_true c16
   clear c16
   by_cases c17 : (ji15) < (y433.length : Int)
   ·rw [if_pos c17] at H
    have c17b0 : decide ((ji15) < (y433.length : Int)) = true := decide_eq_true c17
    clear c17
    simp only [Option.some.injEq, Prod.mk.injEq] at H
    obtain ⟨rfl, rfl⟩ := H
    go_enter Try.func42, Try.ntmps42
    go_wp2_with (first | ((with_reducible refine gate_callee (f := 63) rfl ?_); refine gL (some 7) Try.func63 #[.pointer (some ⟨g, 0, none⟩), .int .i64 a1] ?_; (with_reducible refine (spec_l20Rd_odd.calls k g s0_0 s0_1 a1 false t424 w0 _ ?side1 ?side2 A3.out).mono ?_); (case side1 => repeat (first | exact HI0.out | apply IsS79.alloc | apply IsS79.drewN | apply IsS79.drew | apply IsS79.set_1)); (case side2 => repeat (first | exact HB.out | apply bA | apply bN | apply bD | refine bS ?_ (IsS79.ge HI0.out))); rintro e w18 ⟨rfl, hi, hb, hk⟩; refine ⟨_, rfl, ?_⟩; replace HK := ak (KeepBut.trans (by repeat (first | exact HK.out | apply KeepBut.set_ | apply keep_drewN | apply keep_drew | apply keep_alloc)) hk (.inl rfl)); replace HB := ak (hb); replace HI0 := ak (hi); (try clear hb)) | ((with_reducible refine gate_callee (f := 62) rfl ?_); refine gL (some 14) Try.func62 #[.pointer (some ⟨g, 0, none⟩), .int .i64 20] ?_; (with_reducible refine (spec_l20Rd_pick.calls k g s0_0 t424 20 t431 t432 w0 _ ?side1 ?side2 A13.out).mono ?_); (case side1 => repeat (first | exact HI0.out | apply IsS79.alloc | apply IsS79.drewN | apply IsS79.drew | apply IsS79.set_1)); (case side2 => repeat (first | exact HB.out | apply bA | apply bN | apply bD | refine bS ?_ (IsS79.ge HI0.out))); rintro e w19 ⟨rfl, hi, hb, hk⟩; refine ⟨_, rfl, ?_⟩; replace HK := ak (KeepBut.trans (by repeat (first | exact HK.out | apply KeepBut.set_ | apply keep_drewN | apply keep_drew | apply keep_alloc)) hk (.inl rfl)); replace HB := ak (hb); replace HI0 := ak (hi); (try clear hb)) | ((with_reducible refine gate_dst (N := 15) rfl ?_); refine Kd.R_lit (Kd.int .i64) _ 3 ?hg (N := 15) ?hd (xs := ([t431, 999] : List Int)) (inner := [.int .i64 t431, .int .i64 999]) (ok := fun _ => True) (okp := fun _ => True) ?hr ?hp (fun _ hk => hk) trivial (Below.refl _ _) (Nat.le_refl _) (by simp) ?_; (case hd => rfl); (case hg => rfl); (case hr => go_simp <;> rfl); (case hp => exact (Reps.one (show Kd.M (Kd.int .i64) _ _ _ t431 [.int .i64 t431] from rfl) (Reps.one (show Kd.M (Kd.int .i64) _ _ _ 999 [.int .i64 999] from rfl) (Reps.none _ _)))); intro v434 w20 ho21 hb hg_ hnew_; clear hg_ hnew_; (first | rw [← Ny433.out] at ho21 | (simp only [Int.reduceToNat] at ho21; rw [← Ny433.out] at ho21)); have HO435 := ak (Kd.R_lower ho21 (keep_size (w := w) (g := g) (row := none) (by repeat (first | exact HK.out | apply KeepBut.set_ | apply keep_drewN | apply keep_drew | apply keep_alloc)))); replace HK := ak (KeepBut.trans (by repeat (first | exact HK.out | apply KeepBut.set_ | apply keep_drewN | apply keep_drew | apply keep_alloc)) (KeepBut.of_below hb g none) (.inl rfl)); replace HB := ak (below_step (by repeat (first | exact HB.out | apply bA | apply bN | apply bD | refine bS ?_ (IsS79.ge HI0.out))) hb); replace HI0 := ak (IsS79.below (by repeat (first | exact HI0.out | apply IsS79.alloc | apply IsS79.drewN | apply IsS79.drew | apply IsS79.set_1)) hb); clear hb ho21) | ((with_reducible refine gate_callee (f := 62) rfl ?_); refine gL (some 17) Try.func62 #[.pointer (some ⟨g, 0, none⟩), .int .i64 9] ?_; (with_reducible refine (spec_l20Rd_pick.calls k g s0_0 t432 9 t436 t437 w0 _ ?side1 ?side2 A14.out).mono ?_); (case side1 => repeat (first | exact HI0.out | apply IsS79.alloc | apply IsS79.drewN | apply IsS79.drew | apply IsS79.set_1)); (case side2 => repeat (first | exact HB.out | apply bA | apply bN | apply bD | refine bS ?_ (IsS79.ge HI0.out))); rintro e w22 ⟨rfl, hi, hb, hk⟩; refine ⟨_, rfl, ?_⟩; replace HO435 := ak (Kd.R_mono (Kd.R_keep (IsS79.apart (show IsS79 w0 _ g s0_0 t432 from by repeat (first | exact HI0.out | apply IsS79.alloc | apply IsS79.drewN | apply IsS79.drew | apply IsS79.set_1)) (hR HO435.out) (by decide)) hk (fun _ h => h.2)) (fun _ h => h.1)); replace HK := ak (KeepBut.trans (by repeat (first | exact HK.out | apply KeepBut.set_ | apply keep_drewN | apply keep_drew | apply keep_alloc)) hk (.inl rfl)); replace HB := ak (hb); replace HI0 := ak (hi); (try clear hb); obtain ⟨Ao23, co23, eo23⟩ := Kd.R_slice HO435.out; subst eo23; have p438 : 0 ≤ ((ji15) : Int) := of_decide_eq_true (by assumption); have q438 : (ji15) < (y433.length : Int) := of_decide_eq_true (by assumption); obtain ⟨ad438, e438, hx438_0⟩ := Kd.at_int (Kd.R_reads' HO435.out).2.2 (ji15) p438 q438; cases e438; replace p438 := eq_true p438; replace q438 := eq_true q438))
    go_ret
    exact ⟨by first | rfl | (simp only [u8_w_, w64_u8_] <;> rfl) | (simp [errW_none, errW_some] <;> rfl) | (simp only [← hji15]; first | rfl | (simp [errW_none, errW_some] <;> rfl)) | (simp [*, errW_none, errW_some] <;> rfl), by repeat (first | exact HI0.out | apply IsS79.alloc | apply IsS79.drewN | apply IsS79.drew | apply IsS79.set_1), by repeat (first | exact HB.out | apply bA | apply bN | apply bD | refine bS ?_ (IsS79.ge HI0.out)), by repeat (first | exact HK.out | apply KeepBut.set_ | apply keep_drewN | apply keep_drew | apply keep_alloc)⟩
   ·rw [if_neg c17] at H
    exact absurd H (by simp)
  ·rw [if_neg c16] at H
   exact absurd H (by simp)

end Go.Proofs.Ytengnnhehjcfhaa.PFnPagesPut
