-- Written for this claim by a program of this session (wip/myprint in the proofs' repo)
import Derived.Test.YtengnnhehjcfhaaPFnPagesPutx0
import Derived.Test.YtengnnhehjcfhaaPFnPagesPutx2
import Derived.Test.YtengnnhehjcfhaaWZip
-- slim4
namespace Go.Proofs.Ytengnnhehjcfhaa.PFnPagesPut
open Go.RowKit Go.Proofs.YtengnnhehjcfhaaW.PrintWords Go.Proofs.YtengnnhehjcfhaaW.PrintLast Go.Proofs.YtengnnhehjcfhaaW.PrintMore
attribute [local go_sem] max2_int min2_int max_two min_two max_three min_three max_four min_four max2_strs min2_strs   -- for this text's walks alone
set_option linter.unusedVariables false
set_option linter.unusedSimpArgs false

/-! ### spec_PairsValid: function 54 -/
def spec_PairsValid.l0 : Nat → List (S65) → Int → Option (Bool)
 | 0, _, _ => none
 | k + 1, x0, x3 => if x3 < (x0.length : Int) then (if 0 ≤ x3 then ((spec_KeyValid.f k ((rd_T65 x0 x3).f0)).bind fun t106 => (if t106 = true then ((spec_l1In.f ((rd_T65 x0 x3).f1) 0 999).bind fun t108 => (if t108 = true then (if x3 > 0 then (if 0 ≤ (wrap64 (x3 - 1)) then (if (wrap64 (x3 - 1)) < (x0.length : Int) then (if (Op.bytesLess (((rd_T65 x0 x3).f0).toList) (((rd_T65 x0 (wrap64 (x3 - 1))).f0).toList)) = true then (some false) else (if ((rd_T65 x0 x3).f0).toList = ((rd_T65 x0 (wrap64 (x3 - 1))).f0).toList then (some false) else (spec_PairsValid.l0 k x0 (wrap64 (x3 + 1))))) else (none)) else (none)) else (spec_PairsValid.l0 k x0 (wrap64 (x3 + 1)))) else (some false))) else (some false))) else (none)) else (some true)
def spec_PairsValid.f (k : Nat) (l0 : List (S65)) : Option (Bool) := if (l0.length : Int) > 48 then (some false) else (spec_PairsValid.l0 k l0 0)
theorem spec_PairsValid.mono_l : ∀ k, (∀ y0 y1, LeO (spec_PairsValid.l0 k y0 y1) (spec_PairsValid.l0 (k + 1) y0 y1))
 | 0 => fun _ _ r h => by simp [spec_PairsValid.l0] at h
 | k + 1 => by
  have ih0 := spec_PairsValid.mono_l k
  ·intro y0 y1
   unfold spec_PairsValid.l0
   repeat' first
   | (with_reducible exact ih0 _ _)
   | (with_reducible exact spec_KeyValid.mono _ _)
   | (with_reducible exact LeO.refl _)
   | (with_reducible exact LeO.none _)
   | (with_reducible refine LeO.ite ?_ ?_)
   | (with_reducible refine LeO.bind ?_ (fun _ => ?_))
   | exact ih0 _ _
   | exact LeO.none _
   | refine LeO.ite ?_ ?_
   | refine LeO.bind ?_ (fun _ => ?_)
theorem spec_PairsValid.mono : ∀ a0 k, LeO (spec_PairsValid.f k a0) (spec_PairsValid.f (k + 1) a0) := by
 intro a0 k
 have ih0 := spec_PairsValid.mono_l k
 unfold spec_PairsValid.f
 repeat' first
   | (with_reducible exact ih0 _ _)
   | (with_reducible exact spec_KeyValid.mono _ _)
   | (with_reducible exact LeO.refl _)
   | (with_reducible exact LeO.none _)
   | (with_reducible refine LeO.ite ?_ ?_)
   | (with_reducible refine LeO.bind ?_ (fun _ => ?_))
   | exact ih0 _ _
   | exact LeO.none _
   | refine LeO.ite ?_ ?_
   | refine LeO.bind ?_ (fun _ => ?_)
def spec_PairsValid.T6 : Bool × List (List Nat × List Nat) := (true, [([], []), ([], []), ([0, 1], [0, 1]), ([2], [2]), ([3], [3]), ([4], [4]), ([5], [5]), ([6, 5], [6]), ([7], [7]), ([7], [7]), ([8, 9, 7], [7, 8, 9]), ([10, 7], [7, 10]), ([11, 7], [7, 11]), ([12, 7, 7], [7, 12]), ([13, 7], [7, 13]), ([7, 14], [7, 14]), ([15, 13], [15]), ([16], [16]), ([17, 16], [16, 17]), ([18, 16, 16], [16, 18]), ([19], [19]), ([19], [19]), ([20, 21, 19], [19, 20, 21]), ([22, 19], [19, 22]), ([23, 19], [19, 23]), ([19], [19]), ([19], [19]), ([26, 19], [19, 26]), ([25, 27, 19], [19, 25, 27]), ([28, 19], [19, 28]), ([29, 19], [19, 29]), ([24, 30, 19], [19, 24, 30]), ([19, 31, 16], [16, 19, 31]), ([16, 32], [16, 32])])
def spec_PairsValid.B6 : List Nat := [0, 0, 3, 7, 15, 31, 63, 127, 255, 255, 1023, 2047, 4095, 8191, 16383, 32767, 65535, 131071, 262143, 524287, 1048575, 1048575, 4194303, 8388607, 16777215, 1048575, 1048575, 68157439, 235929599, 504365055, 1041235967, 2147483647, 4294967295, 8589934591]
theorem spec_PairsValid.tab6 : rtab .any (opsOf Try.f54 6) = spec_PairsValid.T6 := by kernel_rfl
theorem spec_PairsValid.bits6 : waitsOk spec_PairsValid.T6.2 spec_PairsValid.B6 = true := by kernel_rfl
set_option maxHeartbeats 8000000 in
set_option maxRecDepth 100000 in
theorem spec_PairsValid.calls (k : Nat) (A0 : Option Addr) (c0 : Nat) (l0 : List (S65)) (r : Bool) (w : World) (hr0 : Kd.C k65 w A0 l0.length l0) (hc0 : l0.length ≤ c0) (h : spec_PairsValid.f k l0 = some r) :
  Calls Try.prog 54 #[.slice A0 l0.length c0] w fun e w' => e = .returned (.bool r) ∧ Below w.heap.size w w' := by
 have HR0 := ak hr0
 have HC0 := ak hc0
 clear hr0 hc0
 have HB := ak (Below.refl w.heap.size w)
 have H : (if (l0.length : Int) > 48 then (some false) else (spec_PairsValid.l0 k l0 0)) = some r := h
 clear h
 by_cases c2 : (l0.length : Int) > 48
 ·rw [if_pos c2] at H
  have c2b0 : decide (48 < (l0.length : Int)) = true := decide_eq_true c2
  have c2b1 : decide (48 < l0.length) = true := decide_eq_true (by omega)
  clear c2
  obtain rfl := Option.some.inj H
  go_enter Try.func54, Try.ntmps54
  go_wp2
  go_ret
  exact ⟨by first | rfl | (simp [*, errW_none, errW_some] <;> rfl), by exact hopb HB.out⟩
 ·rw [if_neg c2] at H
  have c2b0 : decide (48 < (l0.length : Int)) = false := decide_eq_false c2
  have c2b1 : decide (48 < l0.length) = false := decide_eq_false (by omega)
  clear c2
  have H' := ak H
  clear H
  go_enter Try.func54, Try.ntmps54
  go_wp2
  go_loopg [3] k (fun kq v3 w' => ∃ (x3_1 : Int), v3 = .int .i64 x3_1 ∧ Aside0 (spec_PairsValid.l0 kq l0 x3_1 = some r) ∧ Aside0 (kq ≤ k) ∧ Aside0 (Below w.heap.size w w'))
  case atStart => exact ⟨(0), (by first | rfl | (simp [*]; done)), H', ⟨Nat.le_refl _⟩, ⟨by exact hopb HB.out⟩⟩
  case round =>
   clear H'
   try clear c2
   try clear c2b0
   try clear c2b1
   try clear p2
   obtain ⟨x3_1, rfl, HA, HK1, HB⟩ := hrel
   cases gk with
   | zero => exact absurd HA.out (by simp [spec_PairsValid.l0])
   | succ k1 =>
    have H := HA.out
    clear HA
    simp only [spec_PairsValid.l0] at H
    by_cases c3 : x3_1 < (l0.length : Int)
    ·rw [if_pos c3] at H
     have c3b0 : decide (x3_1 < (l0.length : Int)) = true := decide_eq_true c3
     clear c3
     by_cases c4 : 0 ≤ x3_1
     ·rw [if_pos c4] at H
      have c4b0 : decide (0 ≤ x3_1) = true := decide_eq_true c4
      clear c4
      replace H := Option.bind_eq_some_iff.mp H
      obtain ⟨t106, A50, H⟩ := H
      try dsimp only at H
      have A5 := ak A50
      clear A50
      by_cases c6 : t106 = true
      ·subst c6
       rw [if_pos rfl] at H
       replace H := Option.bind_eq_some_iff.mp H
       obtain ⟨t108, A70, H⟩ := H
       try dsimp only at H
       have A7 := ak A70
       clear A70
       by_cases c8 : t108 = true
       ·subst c8
        rw [if_pos rfl] at H
        by_cases c9 : x3_1 > 0
        ·rw [if_pos c9] at H
         have c9b0 : decide (0 < x3_1) = true := decide_eq_true c9
         clear c9
         obtain ⟨ji10, hji10⟩ : ∃ j_ : Int, (wrap64 (x3_1 - 1)) = j_ := ⟨_, rfl⟩
         replace H : (if 0 ≤ (ji10) then (if (ji10) < (l0.length : Int) then (if (Op.bytesLess (((rd_T65 l0 x3_1).f0).toList) (((rd_T65 l0 (ji10)).f0).toList)) = true then (some false) else (if ((rd_T65 l0 x3_1).f0).toList = ((rd_T65 l0 (ji10)).f0).toList then (some false) else (spec_PairsValid.l0 k1 l0 (wrap64 (x3_1 + 1))))) else (none)) else (none)) = some r := by first | (rw [hji10] at H; exact H) | (simp only [hji10] at H ⊢; exact H)
         (try rw [hji10] at A5)
         (try rw [hji10] at A7)
         have hji10w : (IntKind.i64.wrap (x3_1 - 1)) = ji10 := (i64_w _).trans hji10
         by_cases c11 : 0 ≤ (ji10)
         ·rw [if_pos c11] at H
          have c11b0 : decide (0 ≤ (ji10)) = true := decide_eq_true c11
          clear c11
          by_cases c12 : (ji10) < (l0.length : Int)
          ·rw [if_pos c12] at H
           have c12b0 : decide ((ji10) < (l0.length : Int)) = true := decide_eq_true c12
           clear c12
           by_cases c13 : (Op.bytesLess (((rd_T65 l0 x3_1).f0).toList) (((rd_T65 l0 (ji10)).f0).toList)) = true
           ·rw [if_pos c13] at H
            have c13b0 : (Op.bytesLess (((rd_T65 l0 x3_1).f0).toList) (((rd_T65 l0 (ji10)).f0).toList)) = true := c13
            clear c13
            obtain rfl := Option.some.inj H
            try go_wp2
            replace HB := ak (below_drew1 HB.out)
            have p105 : 0 ≤ (x3_1 : Int) := of_decide_eq_true (by assumption)
            have q105 : x3_1 < (l0.length : Int) := of_decide_eq_true (by assumption)
            obtain ⟨ad105, e105, hx105_0, hx105_1⟩ := at_T65 HR0.out x3_1 p105 q105
            have hw105_1 := hx105_1
            have hw105_0 := hx105_0
            cases e105
            replace hx105_0 := (HB.out.cell (World.block_lt_of_cell? w _ hx105_0)).trans hx105_0
            replace hx105_1 := (HB.out.cell (World.block_lt_of_cell? w _ hx105_1)).trans hx105_1
            replace p105 := eq_true p105
            replace q105 := eq_true q105
            have p107 : 0 ≤ (x3_1 : Int) := of_decide_eq_true (by assumption)
            have q107 : x3_1 < (l0.length : Int) := of_decide_eq_true (by assumption)
            obtain ⟨ad107, e107, hx107_0, hx107_1⟩ := at_T65 HR0.out x3_1 p107 q107
            have hw107_1 := hx107_1
            have hw107_0 := hx107_0
            obtain rfl : ad105 = ad107 := (by injection e107)
            replace hx107_0 := (HB.out.cell (World.block_lt_of_cell? w _ hx107_0)).trans hx107_0
            replace hx107_1 := (HB.out.cell (World.block_lt_of_cell? w _ hx107_1)).trans hx107_1
            replace p107 := eq_true p107
            replace q107 := eq_true q107
            have p109 : 0 ≤ (x3_1 : Int) := of_decide_eq_true (by assumption)
            have q109 : x3_1 < (l0.length : Int) := of_decide_eq_true (by assumption)
            obtain ⟨ad109, e109, hx109_0, hx109_1⟩ := at_T65 HR0.out x3_1 p109 q109
            have hw109_1 := hx109_1
            have hw109_0 := hx109_0
            obtain rfl : ad105 = ad109 := (by injection e109)
            replace hx109_0 := (HB.out.cell (World.block_lt_of_cell? w _ hx109_0)).trans hx109_0
            replace hx109_1 := (HB.out.cell (World.block_lt_of_cell? w _ hx109_1)).trans hx109_1
            replace p109 := eq_true p109
            replace q109 := eq_true q109
            have p110 : 0 ≤ ((ji10) : Int) := of_decide_eq_true (by assumption)
            have q110 : (ji10) < (l0.length : Int) := of_decide_eq_true (by assumption)
            obtain ⟨ad110, e110, hx110_0, hx110_1⟩ := at_T65 HR0.out (ji10) p110 q110
            have hw110_1 := hx110_1
            have hw110_0 := hx110_0
            obtain rfl : ad105 = ad110 := (by injection e110)
            replace hx110_0 := (HB.out.cell (World.block_lt_of_cell? w _ hx110_0)).trans hx110_0
            replace hx110_1 := (HB.out.cell (World.block_lt_of_cell? w _ hx110_1)).trans hx110_1
            replace p110 := eq_true p110
            replace q110 := eq_true q110
            refine start_ (n := 34) (S := fun w' => w'.cell? (ad105.add ((x3_1).toNat * 2)) = some (.string ((rd_T65 l0 x3_1).f0)) ∧ w'.cell? ⟨(ad105.add ((x3_1).toNat * 2)).block, (ad105.add ((x3_1).toNat * 2)).off + 1, none⟩ = some (.int .i64 ((rd_T65 l0 x3_1).f1)) ∧ w'.cell? (ad105.add ((x3_1).toNat * 2)) = some (.string ((rd_T65 l0 x3_1).f0)) ∧ w'.cell? ⟨(ad105.add ((x3_1).toNat * 2)).block, (ad105.add ((x3_1).toNat * 2)).off + 1, none⟩ = some (.int .i64 ((rd_T65 l0 x3_1).f1)) ∧ w'.cell? (ad105.add ((x3_1).toNat * 2)) = some (.string ((rd_T65 l0 x3_1).f0)) ∧ w'.cell? ⟨(ad105.add ((x3_1).toNat * 2)).block, (ad105.add ((x3_1).toNat * 2)).off + 1, none⟩ = some (.int .i64 ((rd_T65 l0 x3_1).f1)) ∧ w'.cell? (ad105.add (((ji10)).toNat * 2)) = some (.string ((rd_T65 l0 (ji10)).f0)) ∧ w'.cell? ⟨(ad105.add (((ji10)).toNat * 2)).block, (ad105.add (((ji10)).toNat * 2)).off + 1, none⟩ = some (.int .i64 ((rd_T65 l0 (ji10)).f1))) (ds := []) #[U,U,U,U,U,U,U,U,U,U,U,U,U,U,U,U,U,U,U,U,U,U,U,U,U,U,U,U,U,U,U,U,U,U] (by kernel_rfl) rfl rfl ⟨((HB.out.cell (World.block_lt_of_cell? w _ hw105_0)).trans hw105_0), ((HB.out.cell (World.block_lt_of_cell? w _ hw105_1)).trans hw105_1), ((HB.out.cell (World.block_lt_of_cell? w _ hw107_0)).trans hw107_0), ((HB.out.cell (World.block_lt_of_cell? w _ hw107_1)).trans hw107_1), ((HB.out.cell (World.block_lt_of_cell? w _ hw109_0)).trans hw109_0), ((HB.out.cell (World.block_lt_of_cell? w _ hw109_1)).trans hw109_1), ((HB.out.cell (World.block_lt_of_cell? w _ hw110_0)).trans hw110_0), ((HB.out.cell (World.block_lt_of_cell? w _ hw110_1)).trans hw110_1)⟩ (fun hHeld => ?_); refine with_tabW spec_PairsValid.tab6 spec_PairsValid.bits6 (fun HT_ HW_ => ?_)
            generalize wr.drew = w14 at HB hx105_0 hx105_1 hx107_0 hx107_1 hx109_0 hx109_1 hx110_0 hx110_1 hHeld ⊢
            refine pu 0 (some 13) #[T,U,U,U,U,U,U,U,U,U,U,U,U,U,U,U,U,U,U,U,U,U,U,U,U,U,U,U,U,U,U,U,U,U] (any_of HT_.out (by kernel_rfl)) ?_
            refine pu 1 (some 14) #[T,T,U,U,U,U,U,U,U,U,U,U,U,U,U,U,U,U,U,U,U,U,U,U,U,U,U,U,U,U,U,U,U,U] (any_of HT_.out (by kernel_rfl)) ?_
            refine pu 2 (some 15) #[T,T,T,U,U,U,U,U,U,U,U,U,U,U,U,U,U,U,U,U,U,U,U,U,U,U,U,U,U,U,U,U,U,U] (any_of HT_.out (by kernel_rfl)) ?_
            refine pu 3 (some 16) #[T,T,T,T,U,U,U,U,U,U,U,U,U,U,U,U,U,U,U,U,U,U,U,U,U,U,U,U,U,U,U,U,U,U] (any_of HT_.out (by kernel_rfl)) ?_
            refine take_ (i := 4) (N := some 17) (v := ?_) (a' := ?_) #[T,T,T,T,T,U,U,U,U,U,U,U,U,U,U,U,U,U,U,U,U,U,U,U,U,U,U,U,U,U,U,U,U,U] rfl rfl (take_ofW HT_.out HW_.out (by kernel_rfl)) (fun _ _ _ h => h) (Or.inl ⟨by rfl, ?_⟩) hHeld ?_ ?_
            rotate_left
            ·rintro w' ⟨s0, s1, s2, s3, s4, s5, s6, s7⟩
             go_simp
             with_reducible rfl
            rotate_left
            ·simp only [Act.put, lT, lZ, lS, i64_w, i32_w]
             rfl
            refine one_ (i := 5) (N := some 18) #[T,T,T,T,T,T,U,U,U,U,U,U,U,U,U,U,U,U,U,U,U,U,U,U,U,U,U,U,U,U,U,U,U,U] rfl rfl (one_of HT_.out (by kernel_rfl)) (by decide) (fun K hK => ?_)
            refine goes_ Try.func24 (by kernel_rfl) rfl #[.string ((rd_T65 l0 x3_1).f0)] (by rfl) rfl rfl (by (try simp only [List.map_toArray, List.map_cons, List.map_nil]); first | done | rfl | (simp only [List.length_drop, List.length_take]; rfl)) ?_
            with_reducible refine (spec_KeyValid.calls k1 ((rd_T65 l0 x3_1).f0) true _ A5.out).mono ?_
            rintro e w' ⟨rfl, ⟨nd, rfl⟩⟩
            refine ⟨_, rfl, ?_⟩
            refine hK.out _ _ ⟨((HB.out.cell (World.block_lt_of_cell? w _ hw105_0)).trans hw105_0), ((HB.out.cell (World.block_lt_of_cell? w _ hw105_1)).trans hw105_1), ((HB.out.cell (World.block_lt_of_cell? w _ hw107_0)).trans hw107_0), ((HB.out.cell (World.block_lt_of_cell? w _ hw107_1)).trans hw107_1), ((HB.out.cell (World.block_lt_of_cell? w _ hw109_0)).trans hw109_0), ((HB.out.cell (World.block_lt_of_cell? w _ hw109_1)).trans hw109_1), ((HB.out.cell (World.block_lt_of_cell? w _ hw110_0)).trans hw110_0), ((HB.out.cell (World.block_lt_of_cell? w _ hw110_1)).trans hw110_1)⟩ (fun hHeld => ?_)
            clear hK K
            refine norm_ (a' := ?_) ?_ ?_
            rotate_left
            ·show Act.put _ (some 18) _ = _
             simp only [Act.put, lT, lZ, lS, i64_w, i32_w]
             rfl
            refine pu 6 (some 19) #[T,T,T,T,T,T,T,U,U,U,U,U,U,U,U,U,U,U,U,U,U,U,U,U,U,U,U,U,U,U,U,U,U,U] (any_of HT_.out (by kernel_rfl)) ?_
            refine pu 7 (some 20) #[T,T,T,T,T,T,T,T,U,U,U,U,U,U,U,U,U,U,U,U,U,U,U,U,U,U,U,U,U,U,U,U,U,U] (any_of HT_.out (by kernel_rfl)) ?_
            refine pu 8 (some 21) #[T,T,T,T,T,T,T,T,T,U,U,U,U,U,U,U,U,U,U,U,U,U,U,U,U,U,U,U,U,U,U,U,U,U] (any_of HT_.out (by kernel_rfl)) ?_
            refine pu 9 (some 22) #[T,T,T,T,T,T,T,T,T,T,U,U,U,U,U,U,U,U,U,U,U,U,U,U,U,U,U,U,U,U,U,U,U,U] (any_of HT_.out (by kernel_rfl)) ?_
            refine pu 10 (some 23) #[T,T,T,T,T,T,T,T,T,T,T,U,U,U,U,U,U,U,U,U,U,U,U,U,U,U,U,U,U,U,U,U,U,U] (any_of HT_.out (by kernel_rfl)) ?_
            refine pu 11 (some 24) #[T,T,T,T,T,T,T,T,T,T,T,T,U,U,U,U,U,U,U,U,U,U,U,U,U,U,U,U,U,U,U,U,U,U] (any_of HT_.out (by kernel_rfl)) ?_
            refine take_ (i := 12) (N := some 25) (v := ?_) (a' := ?_) #[T,T,T,T,T,T,T,T,T,T,T,T,T,U,U,U,U,U,U,U,U,U,U,U,U,U,U,U,U,U,U,U,U,U] rfl rfl (take_ofW HT_.out HW_.out (by kernel_rfl)) (fun _ _ _ h => h) (Or.inl ⟨by rfl, ?_⟩) hHeld ?_ ?_
            rotate_left
            ·rintro w' ⟨s0, s1, s2, s3, s4, s5, s6, s7⟩
             go_simp
             with_reducible rfl
            rotate_left
            ·simp only [Act.put, lT, lZ, lS, i64_w, i32_w]
             rfl
            refine one_ (i := 13) (N := some 26) #[T,T,T,T,T,T,T,T,T,T,T,T,T,T,U,U,U,U,U,U,U,U,U,U,U,U,U,U,U,U,U,U,U,U] rfl rfl (one_of HT_.out (by kernel_rfl)) (by decide) (fun K hK => ?_)
            refine goes_ Try.func48 (by kernel_rfl) rfl #[.int .i64 ((rd_T65 l0 x3_1).f1), .int .i64 0, .int .i64 999] (by rfl) rfl rfl (by (try simp only [List.map_toArray, List.map_cons, List.map_nil]); first | done | rfl | (simp only [List.length_drop, List.length_take]; rfl)) ?_
            with_reducible refine (spec_l1In.calls ((rd_T65 l0 x3_1).f1) 0 999 true _ A7.out).mono ?_
            rintro e w' ⟨rfl, ⟨nd, rfl⟩⟩
            refine ⟨_, rfl, ?_⟩
            refine hK.out _ _ ⟨((HB.out.cell (World.block_lt_of_cell? w _ hw105_0)).trans hw105_0), ((HB.out.cell (World.block_lt_of_cell? w _ hw105_1)).trans hw105_1), ((HB.out.cell (World.block_lt_of_cell? w _ hw107_0)).trans hw107_0), ((HB.out.cell (World.block_lt_of_cell? w _ hw107_1)).trans hw107_1), ((HB.out.cell (World.block_lt_of_cell? w _ hw109_0)).trans hw109_0), ((HB.out.cell (World.block_lt_of_cell? w _ hw109_1)).trans hw109_1), ((HB.out.cell (World.block_lt_of_cell? w _ hw110_0)).trans hw110_0), ((HB.out.cell (World.block_lt_of_cell? w _ hw110_1)).trans hw110_1)⟩ (fun hHeld => ?_)
            clear hK K
            refine norm_ (a' := ?_) ?_ ?_
            rotate_left
            ·show Act.put _ (some 26) _ = _
             simp only [Act.put, lT, lZ, lS, i64_w, i32_w]
             rfl
            refine pu 14 (some 27) #[T,T,T,T,T,T,T,T,T,T,T,T,T,T,T,U,U,U,U,U,U,U,U,U,U,U,U,U,U,U,U,U,U,U] (any_of HT_.out (by kernel_rfl)) ?_
            refine pu 15 (some 28) #[T,T,T,T,T,T,T,T,T,T,T,T,T,T,T,T,U,U,U,U,U,U,U,U,U,U,U,U,U,U,U,U,U,U] (any_of HT_.out (by kernel_rfl)) ?_
            refine pu 16 (some 29) #[T,T,T,T,T,T,T,T,T,T,T,T,T,T,T,T,T,U,U,U,U,U,U,U,U,U,U,U,U,U,U,U,U,U] (any_of HT_.out (by kernel_rfl)) ?_
            refine pu 17 (some 30) #[T,T,T,T,T,T,T,T,T,T,T,T,T,T,T,T,T,T,U,U,U,U,U,U,U,U,U,U,U,U,U,U,U,U] (any_of HT_.out (by kernel_rfl)) ?_
            refine pu 18 (some 31) #[T,T,T,T,T,T,T,T,T,T,T,T,T,T,T,T,T,T,T,U,U,U,U,U,U,U,U,U,U,U,U,U,U,U] (any_of HT_.out (by kernel_rfl)) ?_
            refine pu 19 (some 32) #[T,T,T,T,T,T,T,T,T,T,T,T,T,T,T,T,T,T,T,T,U,U,U,U,U,U,U,U,U,U,U,U,U,U] (any_of HT_.out (by kernel_rfl)) ?_
            refine pu 20 (some 33) #[T,T,T,T,T,T,T,T,T,T,T,T,T,T,T,T,T,T,T,T,T,U,U,U,U,U,U,U,U,U,U,U,U,U] (any_of HT_.out (by kernel_rfl)) ?_
            refine pu 21 (some 34) #[T,T,T,T,T,T,T,T,T,T,T,T,T,T,T,T,T,T,T,T,T,T,U,U,U,U,U,U,U,U,U,U,U,U] (any_of HT_.out (by kernel_rfl)) ?_
            refine pu 22 (some 35) #[T,T,T,T,T,T,T,T,T,T,T,T,T,T,T,T,T,T,T,T,T,T,T,U,U,U,U,U,U,U,U,U,U,U] (any_of HT_.out (by kernel_rfl)) ?_
            refine pu 23 (some 36) #[T,T,T,T,T,T,T,T,T,T,T,T,T,T,T,T,T,T,T,T,T,T,T,T,U,U,U,U,U,U,U,U,U,U] (any_of HT_.out (by kernel_rfl)) ?_
            refine pu 25 (some 38) #[T,T,T,T,T,T,T,T,T,T,T,T,T,T,T,T,T,T,T,T,T,T,T,T,U,T,U,U,U,U,U,U,U,U] (any_of HT_.out (by kernel_rfl)) ?_
            refine pu 26 (some 39) #[T,T,T,T,T,T,T,T,T,T,T,T,T,T,T,T,T,T,T,T,T,T,T,T,U,T,T,U,U,U,U,U,U,U] (any_of HT_.out (by kernel_rfl)) ?_
            refine pu 27 (some 40) #[T,T,T,T,T,T,T,T,T,T,T,T,T,T,T,T,T,T,T,T,T,T,T,T,U,T,T,T,U,U,U,U,U,U] (any_of HT_.out (by kernel_rfl)) ?_
            refine pu 28 (some 41) #[T,T,T,T,T,T,T,T,T,T,T,T,T,T,T,T,T,T,T,T,T,T,T,T,U,T,T,T,T,U,U,U,U,U] (any_of HT_.out (by kernel_rfl)) ?_
            refine pu 29 (some 42) #[T,T,T,T,T,T,T,T,T,T,T,T,T,T,T,T,T,T,T,T,T,T,T,T,U,T,T,T,T,T,U,U,U,U] (any_of HT_.out (by kernel_rfl)) ?_
            refine take_ (i := 24) (N := some 37) (v := ?_) (a' := ?_) #[T,T,T,T,T,T,T,T,T,T,T,T,T,T,T,T,T,T,T,T,T,T,T,T,T,T,T,T,T,T,U,U,U,U] rfl rfl (take_ofW HT_.out HW_.out (by kernel_rfl)) (fun _ _ _ h => h) (Or.inl ⟨by rfl, ?_⟩) hHeld ?_ ?_
            rotate_left
            ·rintro w' ⟨s0, s1, s2, s3, s4, s5, s6, s7⟩
             go_simp
             with_reducible rfl
            rotate_left
            ·simp only [Act.put, lT, lZ, lS, i64_w, i32_w]
             rfl
            refine take_ (i := 30) (N := some 43) (v := ?_) (a' := ?_) #[T,T,T,T,T,T,T,T,T,T,T,T,T,T,T,T,T,T,T,T,T,T,T,T,T,T,T,T,T,T,T,U,U,U] rfl rfl (take_ofW HT_.out HW_.out (by kernel_rfl)) (fun _ _ _ h => h) (Or.inl ⟨by rfl, ?_⟩) hHeld ?_ ?_
            rotate_left
            ·rintro w' ⟨s0, s1, s2, s3, s4, s5, s6, s7⟩
             go_simp
             with_reducible rfl
            rotate_left
            ·simp only [Act.put, lT, lZ, lS, i64_w, i32_w]
             rfl
            refine pu 31 (some 44) #[T,T,T,T,T,T,T,T,T,T,T,T,T,T,T,T,T,T,T,T,T,T,T,T,T,T,T,T,T,T,T,T,U,U] (any_of HT_.out (by kernel_rfl)) ?_
            refine pu 32 (some 45) #[T,T,T,T,T,T,T,T,T,T,T,T,T,T,T,T,T,T,T,T,T,T,T,T,T,T,T,T,T,T,T,T,T,U] (any_of HT_.out (by kernel_rfl)) ?_
            refine pu 33 (some 46) #[T,T,T,T,T,T,T,T,T,T,T,T,T,T,T,T,T,T,T,T,T,T,T,T,T,T,T,T,T,T,T,T,T,T] (any_of HT_.out (by kernel_rfl)) ?_
            refine done_ (done_of HT_.out (by kernel_rfl)) ?_
            try go_wp2
            go_ret
            exact ⟨by first | rfl | (simp only [u8_w_, w64_u8_] <;> rfl) | (simp [errW_none, errW_some] <;> rfl) | (simp only [← hji10]; first | rfl | (simp [errW_none, errW_some] <;> rfl)) | (simp [*, errW_none, errW_some] <;> rfl), by exact hopb HB.out⟩
           ·rw [if_neg c13] at H
            have c13b0 : (Op.bytesLess (((rd_T65 l0 x3_1).f0).toList) (((rd_T65 l0 (ji10)).f0).toList)) = false := by simpa using c13
            clear c13
            by_cases c15 : ((rd_T65 l0 x3_1).f0).toList = ((rd_T65 l0 (ji10)).f0).toList
            ·rw [if_pos c15] at H
             have c15b0 : (((rd_T65 l0 x3_1).f0).toList == ((rd_T65 l0 (ji10)).f0).toList) = true := beq_iff_eq.mpr c15
             have c15b1 : (((rd_T65 l0 x3_1).f0).toList != ((rd_T65 l0 (ji10)).f0).toList) = false := bne_eq_false_iff_eq.mpr c15
             clear c15
             obtain rfl := Option.some.inj H
             try go_wp2
             replace HB := ak (below_drew1 HB.out)
             have p105 : 0 ≤ (x3_1 : Int) := of_decide_eq_true (by assumption)
             have q105 : x3_1 < (l0.length : Int) := of_decide_eq_true (by assumption)
             obtain ⟨ad105, e105, hx105_0, hx105_1⟩ := at_T65 HR0.out x3_1 p105 q105
             have hw105_1 := hx105_1
             have hw105_0 := hx105_0
             cases e105
             replace hx105_0 := (HB.out.cell (World.block_lt_of_cell? w _ hx105_0)).trans hx105_0
             replace hx105_1 := (HB.out.cell (World.block_lt_of_cell? w _ hx105_1)).trans hx105_1
             replace p105 := eq_true p105
             replace q105 := eq_true q105
             have p107 : 0 ≤ (x3_1 : Int) := of_decide_eq_true (by assumption)
             have q107 : x3_1 < (l0.length : Int) := of_decide_eq_true (by assumption)
             obtain ⟨ad107, e107, hx107_0, hx107_1⟩ := at_T65 HR0.out x3_1 p107 q107
             have hw107_1 := hx107_1
             have hw107_0 := hx107_0
             obtain rfl : ad105 = ad107 := (by injection e107)
             replace hx107_0 := (HB.out.cell (World.block_lt_of_cell? w _ hx107_0)).trans hx107_0
             replace hx107_1 := (HB.out.cell (World.block_lt_of_cell? w _ hx107_1)).trans hx107_1
             replace p107 := eq_true p107
             replace q107 := eq_true q107
             have p109 : 0 ≤ (x3_1 : Int) := of_decide_eq_true (by assumption)
             have q109 : x3_1 < (l0.length : Int) := of_decide_eq_true (by assumption)
             obtain ⟨ad109, e109, hx109_0, hx109_1⟩ := at_T65 HR0.out x3_1 p109 q109
             have hw109_1 := hx109_1
             have hw109_0 := hx109_0
             obtain rfl : ad105 = ad109 := (by injection e109)
             replace hx109_0 := (HB.out.cell (World.block_lt_of_cell? w _ hx109_0)).trans hx109_0
             replace hx109_1 := (HB.out.cell (World.block_lt_of_cell? w _ hx109_1)).trans hx109_1
             replace p109 := eq_true p109
             replace q109 := eq_true q109
             have p110 : 0 ≤ ((ji10) : Int) := of_decide_eq_true (by assumption)
             have q110 : (ji10) < (l0.length : Int) := of_decide_eq_true (by assumption)
             obtain ⟨ad110, e110, hx110_0, hx110_1⟩ := at_T65 HR0.out (ji10) p110 q110
             have hw110_1 := hx110_1
             have hw110_0 := hx110_0
             obtain rfl : ad105 = ad110 := (by injection e110)
             replace hx110_0 := (HB.out.cell (World.block_lt_of_cell? w _ hx110_0)).trans hx110_0
             replace hx110_1 := (HB.out.cell (World.block_lt_of_cell? w _ hx110_1)).trans hx110_1
             replace p110 := eq_true p110
             replace q110 := eq_true q110
             refine start_ (n := 34) (S := fun w' => w'.cell? (ad105.add ((x3_1).toNat * 2)) = some (.string ((rd_T65 l0 x3_1).f0)) ∧ w'.cell? ⟨(ad105.add ((x3_1).toNat * 2)).block, (ad105.add ((x3_1).toNat * 2)).off + 1, none⟩ = some (.int .i64 ((rd_T65 l0 x3_1).f1)) ∧ w'.cell? (ad105.add ((x3_1).toNat * 2)) = some (.string ((rd_T65 l0 x3_1).f0)) ∧ w'.cell? ⟨(ad105.add ((x3_1).toNat * 2)).block, (ad105.add ((x3_1).toNat * 2)).off + 1, none⟩ = some (.int .i64 ((rd_T65 l0 x3_1).f1)) ∧ w'.cell? (ad105.add ((x3_1).toNat * 2)) = some (.string ((rd_T65 l0 x3_1).f0)) ∧ w'.cell? ⟨(ad105.add ((x3_1).toNat * 2)).block, (ad105.add ((x3_1).toNat * 2)).off + 1, none⟩ = some (.int .i64 ((rd_T65 l0 x3_1).f1)) ∧ w'.cell? (ad105.add (((ji10)).toNat * 2)) = some (.string ((rd_T65 l0 (ji10)).f0)) ∧ w'.cell? ⟨(ad105.add (((ji10)).toNat * 2)).block, (ad105.add (((ji10)).toNat * 2)).off + 1, none⟩ = some (.int .i64 ((rd_T65 l0 (ji10)).f1))) (ds := []) #[U,U,U,U,U,U,U,U,U,U,U,U,U,U,U,U,U,U,U,U,U,U,U,U,U,U,U,U,U,U,U,U,U,U] (by kernel_rfl) rfl rfl ⟨((HB.out.cell (World.block_lt_of_cell? w _ hw105_0)).trans hw105_0), ((HB.out.cell (World.block_lt_of_cell? w _ hw105_1)).trans hw105_1), ((HB.out.cell (World.block_lt_of_cell? w _ hw107_0)).trans hw107_0), ((HB.out.cell (World.block_lt_of_cell? w _ hw107_1)).trans hw107_1), ((HB.out.cell (World.block_lt_of_cell? w _ hw109_0)).trans hw109_0), ((HB.out.cell (World.block_lt_of_cell? w _ hw109_1)).trans hw109_1), ((HB.out.cell (World.block_lt_of_cell? w _ hw110_0)).trans hw110_0), ((HB.out.cell (World.block_lt_of_cell? w _ hw110_1)).trans hw110_1)⟩ (fun hHeld => ?_); refine with_tabW spec_PairsValid.tab6 spec_PairsValid.bits6 (fun HT_ HW_ => ?_)
             generalize wr.drew = w16 at HB hx105_0 hx105_1 hx107_0 hx107_1 hx109_0 hx109_1 hx110_0 hx110_1 hHeld ⊢
             refine pu 0 (some 13) #[T,U,U,U,U,U,U,U,U,U,U,U,U,U,U,U,U,U,U,U,U,U,U,U,U,U,U,U,U,U,U,U,U,U] (any_of HT_.out (by kernel_rfl)) ?_
             refine pu 1 (some 14) #[T,T,U,U,U,U,U,U,U,U,U,U,U,U,U,U,U,U,U,U,U,U,U,U,U,U,U,U,U,U,U,U,U,U] (any_of HT_.out (by kernel_rfl)) ?_
             refine pu 2 (some 15) #[T,T,T,U,U,U,U,U,U,U,U,U,U,U,U,U,U,U,U,U,U,U,U,U,U,U,U,U,U,U,U,U,U,U] (any_of HT_.out (by kernel_rfl)) ?_
             refine pu 3 (some 16) #[T,T,T,T,U,U,U,U,U,U,U,U,U,U,U,U,U,U,U,U,U,U,U,U,U,U,U,U,U,U,U,U,U,U] (any_of HT_.out (by kernel_rfl)) ?_
             refine take_ (i := 4) (N := some 17) (v := ?_) (a' := ?_) #[T,T,T,T,T,U,U,U,U,U,U,U,U,U,U,U,U,U,U,U,U,U,U,U,U,U,U,U,U,U,U,U,U,U] rfl rfl (take_ofW HT_.out HW_.out (by kernel_rfl)) (fun _ _ _ h => h) (Or.inl ⟨by rfl, ?_⟩) hHeld ?_ ?_
             rotate_left
             ·rintro w' ⟨s0, s1, s2, s3, s4, s5, s6, s7⟩
              go_simp
              with_reducible rfl
             rotate_left
             ·simp only [Act.put, lT, lZ, lS, i64_w, i32_w]
              rfl
             refine one_ (i := 5) (N := some 18) #[T,T,T,T,T,T,U,U,U,U,U,U,U,U,U,U,U,U,U,U,U,U,U,U,U,U,U,U,U,U,U,U,U,U] rfl rfl (one_of HT_.out (by kernel_rfl)) (by decide) (fun K hK => ?_)
             refine goes_ Try.func24 (by kernel_rfl) rfl #[.string ((rd_T65 l0 x3_1).f0)] (by rfl) rfl rfl (by (try simp only [List.map_toArray, List.map_cons, List.map_nil]); first | done | rfl | (simp only [List.length_drop, List.length_take]; rfl)) ?_
             with_reducible refine (spec_KeyValid.calls k1 ((rd_T65 l0 x3_1).f0) true _ A5.out).mono ?_
             rintro e w' ⟨rfl, ⟨nd, rfl⟩⟩
             refine ⟨_, rfl, ?_⟩
             refine hK.out _ _ ⟨((HB.out.cell (World.block_lt_of_cell? w _ hw105_0)).trans hw105_0), ((HB.out.cell (World.block_lt_of_cell? w _ hw105_1)).trans hw105_1), ((HB.out.cell (World.block_lt_of_cell? w _ hw107_0)).trans hw107_0), ((HB.out.cell (World.block_lt_of_cell? w _ hw107_1)).trans hw107_1), ((HB.out.cell (World.block_lt_of_cell? w _ hw109_0)).trans hw109_0), ((HB.out.cell (World.block_lt_of_cell? w _ hw109_1)).trans hw109_1), ((HB.out.cell (World.block_lt_of_cell? w _ hw110_0)).trans hw110_0), ((HB.out.cell (World.block_lt_of_cell? w _ hw110_1)).trans hw110_1)⟩ (fun hHeld => ?_)
             clear hK K
             refine norm_ (a' := ?_) ?_ ?_
             rotate_left
             ·show Act.put _ (some 18) _ = _
              simp only [Act.put, lT, lZ, lS, i64_w, i32_w]
              rfl
             refine pu 6 (some 19) #[T,T,T,T,T,T,T,U,U,U,U,U,U,U,U,U,U,U,U,U,U,U,U,U,U,U,U,U,U,U,U,U,U,U] (any_of HT_.out (by kernel_rfl)) ?_
             refine pu 7 (some 20) #[T,T,T,T,T,T,T,T,U,U,U,U,U,U,U,U,U,U,U,U,U,U,U,U,U,U,U,U,U,U,U,U,U,U] (any_of HT_.out (by kernel_rfl)) ?_
             refine pu 8 (some 21) #[T,T,T,T,T,T,T,T,T,U,U,U,U,U,U,U,U,U,U,U,U,U,U,U,U,U,U,U,U,U,U,U,U,U] (any_of HT_.out (by kernel_rfl)) ?_
             refine pu 9 (some 22) #[T,T,T,T,T,T,T,T,T,T,U,U,U,U,U,U,U,U,U,U,U,U,U,U,U,U,U,U,U,U,U,U,U,U] (any_of HT_.out (by kernel_rfl)) ?_
             refine pu 10 (some 23) #[T,T,T,T,T,T,T,T,T,T,T,U,U,U,U,U,U,U,U,U,U,U,U,U,U,U,U,U,U,U,U,U,U,U] (any_of HT_.out (by kernel_rfl)) ?_
             refine pu 11 (some 24) #[T,T,T,T,T,T,T,T,T,T,T,T,U,U,U,U,U,U,U,U,U,U,U,U,U,U,U,U,U,U,U,U,U,U] (any_of HT_.out (by kernel_rfl)) ?_
             refine take_ (i := 12) (N := some 25) (v := ?_) (a' := ?_) #[T,T,T,T,T,T,T,T,T,T,T,T,T,U,U,U,U,U,U,U,U,U,U,U,U,U,U,U,U,U,U,U,U,U] rfl rfl (take_ofW HT_.out HW_.out (by kernel_rfl)) (fun _ _ _ h => h) (Or.inl ⟨by rfl, ?_⟩) hHeld ?_ ?_
             rotate_left
             ·rintro w' ⟨s0, s1, s2, s3, s4, s5, s6, s7⟩
              go_simp
              with_reducible rfl
             rotate_left
             ·simp only [Act.put, lT, lZ, lS, i64_w, i32_w]
              rfl
             refine one_ (i := 13) (N := some 26) #[T,T,T,T,T,T,T,T,T,T,T,T,T,T,U,U,U,U,U,U,U,U,U,U,U,U,U,U,U,U,U,U,U,U] rfl rfl (one_of HT_.out (by kernel_rfl)) (by decide) (fun K hK => ?_)
             refine goes_ Try.func48 (by kernel_rfl) rfl #[.int .i64 ((rd_T65 l0 x3_1).f1), .int .i64 0, .int .i64 999] (by rfl) rfl rfl (by (try simp only [List.map_toArray, List.map_cons, List.map_nil]); first | done | rfl | (simp only [List.length_drop, List.length_take]; rfl)) ?_
             with_reducible refine (spec_l1In.calls ((rd_T65 l0 x3_1).f1) 0 999 true _ A7.out).mono ?_
             rintro e w' ⟨rfl, ⟨nd, rfl⟩⟩
             refine ⟨_, rfl, ?_⟩
             refine hK.out _ _ ⟨((HB.out.cell (World.block_lt_of_cell? w _ hw105_0)).trans hw105_0), ((HB.out.cell (World.block_lt_of_cell? w _ hw105_1)).trans hw105_1), ((HB.out.cell (World.block_lt_of_cell? w _ hw107_0)).trans hw107_0), ((HB.out.cell (World.block_lt_of_cell? w _ hw107_1)).trans hw107_1), ((HB.out.cell (World.block_lt_of_cell? w _ hw109_0)).trans hw109_0), ((HB.out.cell (World.block_lt_of_cell? w _ hw109_1)).trans hw109_1), ((HB.out.cell (World.block_lt_of_cell? w _ hw110_0)).trans hw110_0), ((HB.out.cell (World.block_lt_of_cell? w _ hw110_1)).trans hw110_1)⟩ (fun hHeld => ?_)
             clear hK K
             refine norm_ (a' := ?_) ?_ ?_
             rotate_left
             ·show Act.put _ (some 26) _ = _
              simp only [Act.put, lT, lZ, lS, i64_w, i32_w]
              rfl
             refine pu 14 (some 27) #[T,T,T,T,T,T,T,T,T,T,T,T,T,T,T,U,U,U,U,U,U,U,U,U,U,U,U,U,U,U,U,U,U,U] (any_of HT_.out (by kernel_rfl)) ?_
             refine pu 15 (some 28) #[T,T,T,T,T,T,T,T,T,T,T,T,T,T,T,T,U,U,U,U,U,U,U,U,U,U,U,U,U,U,U,U,U,U] (any_of HT_.out (by kernel_rfl)) ?_
             refine pu 16 (some 29) #[T,T,T,T,T,T,T,T,T,T,T,T,T,T,T,T,T,U,U,U,U,U,U,U,U,U,U,U,U,U,U,U,U,U] (any_of HT_.out (by kernel_rfl)) ?_
             refine pu 17 (some 30) #[T,T,T,T,T,T,T,T,T,T,T,T,T,T,T,T,T,T,U,U,U,U,U,U,U,U,U,U,U,U,U,U,U,U] (any_of HT_.out (by kernel_rfl)) ?_
             refine pu 18 (some 31) #[T,T,T,T,T,T,T,T,T,T,T,T,T,T,T,T,T,T,T,U,U,U,U,U,U,U,U,U,U,U,U,U,U,U] (any_of HT_.out (by kernel_rfl)) ?_
             refine pu 19 (some 32) #[T,T,T,T,T,T,T,T,T,T,T,T,T,T,T,T,T,T,T,T,U,U,U,U,U,U,U,U,U,U,U,U,U,U] (any_of HT_.out (by kernel_rfl)) ?_
             refine pu 20 (some 33) #[T,T,T,T,T,T,T,T,T,T,T,T,T,T,T,T,T,T,T,T,T,U,U,U,U,U,U,U,U,U,U,U,U,U] (any_of HT_.out (by kernel_rfl)) ?_
             refine pu 21 (some 34) #[T,T,T,T,T,T,T,T,T,T,T,T,T,T,T,T,T,T,T,T,T,T,U,U,U,U,U,U,U,U,U,U,U,U] (any_of HT_.out (by kernel_rfl)) ?_
             refine pu 22 (some 35) #[T,T,T,T,T,T,T,T,T,T,T,T,T,T,T,T,T,T,T,T,T,T,T,U,U,U,U,U,U,U,U,U,U,U] (any_of HT_.out (by kernel_rfl)) ?_
             refine pu 23 (some 36) #[T,T,T,T,T,T,T,T,T,T,T,T,T,T,T,T,T,T,T,T,T,T,T,T,U,U,U,U,U,U,U,U,U,U] (any_of HT_.out (by kernel_rfl)) ?_
             refine pu 25 (some 38) #[T,T,T,T,T,T,T,T,T,T,T,T,T,T,T,T,T,T,T,T,T,T,T,T,U,T,U,U,U,U,U,U,U,U] (any_of HT_.out (by kernel_rfl)) ?_
             refine pu 26 (some 39) #[T,T,T,T,T,T,T,T,T,T,T,T,T,T,T,T,T,T,T,T,T,T,T,T,U,T,T,U,U,U,U,U,U,U] (any_of HT_.out (by kernel_rfl)) ?_
             refine pu 27 (some 40) #[T,T,T,T,T,T,T,T,T,T,T,T,T,T,T,T,T,T,T,T,T,T,T,T,U,T,T,T,U,U,U,U,U,U] (any_of HT_.out (by kernel_rfl)) ?_
             refine pu 28 (some 41) #[T,T,T,T,T,T,T,T,T,T,T,T,T,T,T,T,T,T,T,T,T,T,T,T,U,T,T,T,T,U,U,U,U,U] (any_of HT_.out (by kernel_rfl)) ?_
             refine pu 29 (some 42) #[T,T,T,T,T,T,T,T,T,T,T,T,T,T,T,T,T,T,T,T,T,T,T,T,U,T,T,T,T,T,U,U,U,U] (any_of HT_.out (by kernel_rfl)) ?_
             refine take_ (i := 24) (N := some 37) (v := ?_) (a' := ?_) #[T,T,T,T,T,T,T,T,T,T,T,T,T,T,T,T,T,T,T,T,T,T,T,T,T,T,T,T,T,T,U,U,U,U] rfl rfl (take_ofW HT_.out HW_.out (by kernel_rfl)) (fun _ _ _ h => h) (Or.inl ⟨by rfl, ?_⟩) hHeld ?_ ?_
             rotate_left
             ·rintro w' ⟨s0, s1, s2, s3, s4, s5, s6, s7⟩
              go_simp
              with_reducible rfl
             rotate_left
             ·simp only [Act.put, lT, lZ, lS, i64_w, i32_w]
              rfl
             refine take_ (i := 30) (N := some 43) (v := ?_) (a' := ?_) #[T,T,T,T,T,T,T,T,T,T,T,T,T,T,T,T,T,T,T,T,T,T,T,T,T,T,T,T,T,T,T,U,U,U] rfl rfl (take_ofW HT_.out HW_.out (by kernel_rfl)) (fun _ _ _ h => h) (Or.inl ⟨by rfl, ?_⟩) hHeld ?_ ?_
             rotate_left
             ·rintro w' ⟨s0, s1, s2, s3, s4, s5, s6, s7⟩
              go_simp
              with_reducible rfl
             rotate_left
             ·simp only [Act.put, lT, lZ, lS, i64_w, i32_w]
              rfl
             refine pu 31 (some 44) #[T,T,T,T,T,T,T,T,T,T,T,T,T,T,T,T,T,T,T,T,T,T,T,T,T,T,T,T,T,T,T,T,U,U] (any_of HT_.out (by kernel_rfl)) ?_
             refine pu 32 (some 45) #[T,T,T,T,T,T,T,T,T,T,T,T,T,T,T,T,T,T,T,T,T,T,T,T,T,T,T,T,T,T,T,T,T,U] (any_of HT_.out (by kernel_rfl)) ?_
             refine pu 33 (some 46) #[T,T,T,T,T,T,T,T,T,T,T,T,T,T,T,T,T,T,T,T,T,T,T,T,T,T,T,T,T,T,T,T,T,T] (any_of HT_.out (by kernel_rfl)) ?_
             refine done_ (done_of HT_.out (by kernel_rfl)) ?_
             try go_wp2
             go_ret
             exact ⟨by first | rfl | (simp only [u8_w_, w64_u8_] <;> rfl) | (simp [errW_none, errW_some] <;> rfl) | (simp only [← hji10]; first | rfl | (simp [errW_none, errW_some] <;> rfl)) | (simp [*, errW_none, errW_some] <;> rfl), by exact hopb HB.out⟩
            ·rw [if_neg c15] at H
             have c15b0 : (((rd_T65 l0 x3_1).f0).toList == ((rd_T65 l0 (ji10)).f0).toList) = false := beq_eq_false_iff_ne.mpr c15
             have c15b1 : (((rd_T65 l0 x3_1).f0).toList != ((rd_T65 l0 (ji10)).f0).toList) = true := bne_iff_ne.mpr c15
             have H' := ak H
             clear H
             try go_wp2
             replace HB := ak (below_drew1 HB.out)
             have p105 : 0 ≤ (x3_1 : Int) := of_decide_eq_true (by assumption)
             have q105 : x3_1 < (l0.length : Int) := of_decide_eq_true (by assumption)
             obtain ⟨ad105, e105, hx105_0, hx105_1⟩ := at_T65 HR0.out x3_1 p105 q105
             have hw105_1 := hx105_1
             have hw105_0 := hx105_0
             cases e105
             replace hx105_0 := (HB.out.cell (World.block_lt_of_cell? w _ hx105_0)).trans hx105_0
             replace hx105_1 := (HB.out.cell (World.block_lt_of_cell? w _ hx105_1)).trans hx105_1
             replace p105 := eq_true p105
             replace q105 := eq_true q105
             have p107 : 0 ≤ (x3_1 : Int) := of_decide_eq_true (by assumption)
             have q107 : x3_1 < (l0.length : Int) := of_decide_eq_true (by assumption)
             obtain ⟨ad107, e107, hx107_0, hx107_1⟩ := at_T65 HR0.out x3_1 p107 q107
             have hw107_1 := hx107_1
             have hw107_0 := hx107_0
             obtain rfl : ad105 = ad107 := (by injection e107)
             replace hx107_0 := (HB.out.cell (World.block_lt_of_cell? w _ hx107_0)).trans hx107_0
             replace hx107_1 := (HB.out.cell (World.block_lt_of_cell? w _ hx107_1)).trans hx107_1
             replace p107 := eq_true p107
             replace q107 := eq_true q107
             have p109 : 0 ≤ (x3_1 : Int) := of_decide_eq_true (by assumption)
             have q109 : x3_1 < (l0.length : Int) := of_decide_eq_true (by assumption)
             obtain ⟨ad109, e109, hx109_0, hx109_1⟩ := at_T65 HR0.out x3_1 p109 q109
             have hw109_1 := hx109_1
             have hw109_0 := hx109_0
             obtain rfl : ad105 = ad109 := (by injection e109)
             replace hx109_0 := (HB.out.cell (World.block_lt_of_cell? w _ hx109_0)).trans hx109_0
             replace hx109_1 := (HB.out.cell (World.block_lt_of_cell? w _ hx109_1)).trans hx109_1
             replace p109 := eq_true p109
             replace q109 := eq_true q109
             have p110 : 0 ≤ ((ji10) : Int) := of_decide_eq_true (by assumption)
             have q110 : (ji10) < (l0.length : Int) := of_decide_eq_true (by assumption)
             obtain ⟨ad110, e110, hx110_0, hx110_1⟩ := at_T65 HR0.out (ji10) p110 q110
             have hw110_1 := hx110_1
             have hw110_0 := hx110_0
             obtain rfl : ad105 = ad110 := (by injection e110)
             replace hx110_0 := (HB.out.cell (World.block_lt_of_cell? w _ hx110_0)).trans hx110_0
             replace hx110_1 := (HB.out.cell (World.block_lt_of_cell? w _ hx110_1)).trans hx110_1
             replace p110 := eq_true p110
             replace q110 := eq_true q110
             refine start_ (n := 34) (S := fun w' => w'.cell? (ad105.add ((x3_1).toNat * 2)) = some (.string ((rd_T65 l0 x3_1).f0)) ∧ w'.cell? ⟨(ad105.add ((x3_1).toNat * 2)).block, (ad105.add ((x3_1).toNat * 2)).off + 1, none⟩ = some (.int .i64 ((rd_T65 l0 x3_1).f1)) ∧ w'.cell? (ad105.add ((x3_1).toNat * 2)) = some (.string ((rd_T65 l0 x3_1).f0)) ∧ w'.cell? ⟨(ad105.add ((x3_1).toNat * 2)).block, (ad105.add ((x3_1).toNat * 2)).off + 1, none⟩ = some (.int .i64 ((rd_T65 l0 x3_1).f1)) ∧ w'.cell? (ad105.add ((x3_1).toNat * 2)) = some (.string ((rd_T65 l0 x3_1).f0)) ∧ w'.cell? ⟨(ad105.add ((x3_1).toNat * 2)).block, (ad105.add ((x3_1).toNat * 2)).off + 1, none⟩ = some (.int .i64 ((rd_T65 l0 x3_1).f1)) ∧ w'.cell? (ad105.add (((ji10)).toNat * 2)) = some (.string ((rd_T65 l0 (ji10)).f0)) ∧ w'.cell? ⟨(ad105.add (((ji10)).toNat * 2)).block, (ad105.add (((ji10)).toNat * 2)).off + 1, none⟩ = some (.int .i64 ((rd_T65 l0 (ji10)).f1))) (ds := []) #[U,U,U,U,U,U,U,U,U,U,U,U,U,U,U,U,U,U,U,U,U,U,U,U,U,U,U,U,U,U,U,U,U,U] (by kernel_rfl) rfl rfl ⟨((HB.out.cell (World.block_lt_of_cell? w _ hw105_0)).trans hw105_0), ((HB.out.cell (World.block_lt_of_cell? w _ hw105_1)).trans hw105_1), ((HB.out.cell (World.block_lt_of_cell? w _ hw107_0)).trans hw107_0), ((HB.out.cell (World.block_lt_of_cell? w _ hw107_1)).trans hw107_1), ((HB.out.cell (World.block_lt_of_cell? w _ hw109_0)).trans hw109_0), ((HB.out.cell (World.block_lt_of_cell? w _ hw109_1)).trans hw109_1), ((HB.out.cell (World.block_lt_of_cell? w _ hw110_0)).trans hw110_0), ((HB.out.cell (World.block_lt_of_cell? w _ hw110_1)).trans hw110_1)⟩ (fun hHeld => ?_); refine with_tabW spec_PairsValid.tab6 spec_PairsValid.bits6 (fun HT_ HW_ => ?_)
             generalize wr.drew = w17 at HB hx105_0 hx105_1 hx107_0 hx107_1 hx109_0 hx109_1 hx110_0 hx110_1 hHeld ⊢
             refine pu 0 (some 13) #[T,U,U,U,U,U,U,U,U,U,U,U,U,U,U,U,U,U,U,U,U,U,U,U,U,U,U,U,U,U,U,U,U,U] (any_of HT_.out (by kernel_rfl)) ?_
             refine pu 1 (some 14) #[T,T,U,U,U,U,U,U,U,U,U,U,U,U,U,U,U,U,U,U,U,U,U,U,U,U,U,U,U,U,U,U,U,U] (any_of HT_.out (by kernel_rfl)) ?_
             refine pu 2 (some 15) #[T,T,T,U,U,U,U,U,U,U,U,U,U,U,U,U,U,U,U,U,U,U,U,U,U,U,U,U,U,U,U,U,U,U] (any_of HT_.out (by kernel_rfl)) ?_
             refine pu 3 (some 16) #[T,T,T,T,U,U,U,U,U,U,U,U,U,U,U,U,U,U,U,U,U,U,U,U,U,U,U,U,U,U,U,U,U,U] (any_of HT_.out (by kernel_rfl)) ?_
             refine take_ (i := 4) (N := some 17) (v := ?_) (a' := ?_) #[T,T,T,T,T,U,U,U,U,U,U,U,U,U,U,U,U,U,U,U,U,U,U,U,U,U,U,U,U,U,U,U,U,U] rfl rfl (take_ofW HT_.out HW_.out (by kernel_rfl)) (fun _ _ _ h => h) (Or.inl ⟨by rfl, ?_⟩) hHeld ?_ ?_
             rotate_left
             ·rintro w' ⟨s0, s1, s2, s3, s4, s5, s6, s7⟩
              go_simp
              with_reducible rfl
             rotate_left
             ·simp only [Act.put, lT, lZ, lS, i64_w, i32_w]
              rfl
             refine one_ (i := 5) (N := some 18) #[T,T,T,T,T,T,U,U,U,U,U,U,U,U,U,U,U,U,U,U,U,U,U,U,U,U,U,U,U,U,U,U,U,U] rfl rfl (one_of HT_.out (by kernel_rfl)) (by decide) (fun K hK => ?_)
             refine goes_ Try.func24 (by kernel_rfl) rfl #[.string ((rd_T65 l0 x3_1).f0)] (by rfl) rfl rfl (by (try simp only [List.map_toArray, List.map_cons, List.map_nil]); first | done | rfl | (simp only [List.length_drop, List.length_take]; rfl)) ?_
             with_reducible refine (spec_KeyValid.calls k1 ((rd_T65 l0 x3_1).f0) true _ A5.out).mono ?_
             rintro e w' ⟨rfl, ⟨nd, rfl⟩⟩
             refine ⟨_, rfl, ?_⟩
             refine hK.out _ _ ⟨((HB.out.cell (World.block_lt_of_cell? w _ hw105_0)).trans hw105_0), ((HB.out.cell (World.block_lt_of_cell? w _ hw105_1)).trans hw105_1), ((HB.out.cell (World.block_lt_of_cell? w _ hw107_0)).trans hw107_0), ((HB.out.cell (World.block_lt_of_cell? w _ hw107_1)).trans hw107_1), ((HB.out.cell (World.block_lt_of_cell? w _ hw109_0)).trans hw109_0), ((HB.out.cell (World.block_lt_of_cell? w _ hw109_1)).trans hw109_1), ((HB.out.cell (World.block_lt_of_cell? w _ hw110_0)).trans hw110_0), ((HB.out.cell (World.block_lt_of_cell? w _ hw110_1)).trans hw110_1)⟩ (fun hHeld => ?_)
             clear hK K
             refine norm_ (a' := ?_) ?_ ?_
             rotate_left
             ·show Act.put _ (some 18) _ = _
              simp only [Act.put, lT, lZ, lS, i64_w, i32_w]
              rfl
             refine pu 6 (some 19) #[T,T,T,T,T,T,T,U,U,U,U,U,U,U,U,U,U,U,U,U,U,U,U,U,U,U,U,U,U,U,U,U,U,U] (any_of HT_.out (by kernel_rfl)) ?_
             refine pu 7 (some 20) #[T,T,T,T,T,T,T,T,U,U,U,U,U,U,U,U,U,U,U,U,U,U,U,U,U,U,U,U,U,U,U,U,U,U] (any_of HT_.out (by kernel_rfl)) ?_
             refine pu 8 (some 21) #[T,T,T,T,T,T,T,T,T,U,U,U,U,U,U,U,U,U,U,U,U,U,U,U,U,U,U,U,U,U,U,U,U,U] (any_of HT_.out (by kernel_rfl)) ?_
             refine pu 9 (some 22) #[T,T,T,T,T,T,T,T,T,T,U,U,U,U,U,U,U,U,U,U,U,U,U,U,U,U,U,U,U,U,U,U,U,U] (any_of HT_.out (by kernel_rfl)) ?_
             refine pu 10 (some 23) #[T,T,T,T,T,T,T,T,T,T,T,U,U,U,U,U,U,U,U,U,U,U,U,U,U,U,U,U,U,U,U,U,U,U] (any_of HT_.out (by kernel_rfl)) ?_
             refine pu 11 (some 24) #[T,T,T,T,T,T,T,T,T,T,T,T,U,U,U,U,U,U,U,U,U,U,U,U,U,U,U,U,U,U,U,U,U,U] (any_of HT_.out (by kernel_rfl)) ?_
             refine take_ (i := 12) (N := some 25) (v := ?_) (a' := ?_) #[T,T,T,T,T,T,T,T,T,T,T,T,T,U,U,U,U,U,U,U,U,U,U,U,U,U,U,U,U,U,U,U,U,U] rfl rfl (take_ofW HT_.out HW_.out (by kernel_rfl)) (fun _ _ _ h => h) (Or.inl ⟨by rfl, ?_⟩) hHeld ?_ ?_
             rotate_left
             ·rintro w' ⟨s0, s1, s2, s3, s4, s5, s6, s7⟩
              go_simp
              with_reducible rfl
             rotate_left
             ·simp only [Act.put, lT, lZ, lS, i64_w, i32_w]
              rfl
             refine one_ (i := 13) (N := some 26) #[T,T,T,T,T,T,T,T,T,T,T,T,T,T,U,U,U,U,U,U,U,U,U,U,U,U,U,U,U,U,U,U,U,U] rfl rfl (one_of HT_.out (by kernel_rfl)) (by decide) (fun K hK => ?_)
             refine goes_ Try.func48 (by kernel_rfl) rfl #[.int .i64 ((rd_T65 l0 x3_1).f1), .int .i64 0, .int .i64 999] (by rfl) rfl rfl (by (try simp only [List.map_toArray, List.map_cons, List.map_nil]); first | done | rfl | (simp only [List.length_drop, List.length_take]; rfl)) ?_
             with_reducible refine (spec_l1In.calls ((rd_T65 l0 x3_1).f1) 0 999 true _ A7.out).mono ?_
             rintro e w' ⟨rfl, ⟨nd, rfl⟩⟩
             refine ⟨_, rfl, ?_⟩
             refine hK.out _ _ ⟨((HB.out.cell (World.block_lt_of_cell? w _ hw105_0)).trans hw105_0), ((HB.out.cell (World.block_lt_of_cell? w _ hw105_1)).trans hw105_1), ((HB.out.cell (World.block_lt_of_cell? w _ hw107_0)).trans hw107_0), ((HB.out.cell (World.block_lt_of_cell? w _ hw107_1)).trans hw107_1), ((HB.out.cell (World.block_lt_of_cell? w _ hw109_0)).trans hw109_0), ((HB.out.cell (World.block_lt_of_cell? w _ hw109_1)).trans hw109_1), ((HB.out.cell (World.block_lt_of_cell? w _ hw110_0)).trans hw110_0), ((HB.out.cell (World.block_lt_of_cell? w _ hw110_1)).trans hw110_1)⟩ (fun hHeld => ?_)
             clear hK K
             refine norm_ (a' := ?_) ?_ ?_
             rotate_left
             ·show Act.put _ (some 26) _ = _
              simp only [Act.put, lT, lZ, lS, i64_w, i32_w]
              rfl
             refine pu 14 (some 27) #[T,T,T,T,T,T,T,T,T,T,T,T,T,T,T,U,U,U,U,U,U,U,U,U,U,U,U,U,U,U,U,U,U,U] (any_of HT_.out (by kernel_rfl)) ?_
             refine pu 15 (some 28) #[T,T,T,T,T,T,T,T,T,T,T,T,T,T,T,T,U,U,U,U,U,U,U,U,U,U,U,U,U,U,U,U,U,U] (any_of HT_.out (by kernel_rfl)) ?_
             refine pu 16 (some 29) #[T,T,T,T,T,T,T,T,T,T,T,T,T,T,T,T,T,U,U,U,U,U,U,U,U,U,U,U,U,U,U,U,U,U] (any_of HT_.out (by kernel_rfl)) ?_
             refine pu 17 (some 30) #[T,T,T,T,T,T,T,T,T,T,T,T,T,T,T,T,T,T,U,U,U,U,U,U,U,U,U,U,U,U,U,U,U,U] (any_of HT_.out (by kernel_rfl)) ?_
             refine pu 18 (some 31) #[T,T,T,T,T,T,T,T,T,T,T,T,T,T,T,T,T,T,T,U,U,U,U,U,U,U,U,U,U,U,U,U,U,U] (any_of HT_.out (by kernel_rfl)) ?_
             refine pu 19 (some 32) #[T,T,T,T,T,T,T,T,T,T,T,T,T,T,T,T,T,T,T,T,U,U,U,U,U,U,U,U,U,U,U,U,U,U] (any_of HT_.out (by kernel_rfl)) ?_
             refine pu 20 (some 33) #[T,T,T,T,T,T,T,T,T,T,T,T,T,T,T,T,T,T,T,T,T,U,U,U,U,U,U,U,U,U,U,U,U,U] (any_of HT_.out (by kernel_rfl)) ?_
             refine pu 21 (some 34) #[T,T,T,T,T,T,T,T,T,T,T,T,T,T,T,T,T,T,T,T,T,T,U,U,U,U,U,U,U,U,U,U,U,U] (any_of HT_.out (by kernel_rfl)) ?_
             refine pu 22 (some 35) #[T,T,T,T,T,T,T,T,T,T,T,T,T,T,T,T,T,T,T,T,T,T,T,U,U,U,U,U,U,U,U,U,U,U] (any_of HT_.out (by kernel_rfl)) ?_
             refine pu 23 (some 36) #[T,T,T,T,T,T,T,T,T,T,T,T,T,T,T,T,T,T,T,T,T,T,T,T,U,U,U,U,U,U,U,U,U,U] (any_of HT_.out (by kernel_rfl)) ?_
             refine pu 25 (some 38) #[T,T,T,T,T,T,T,T,T,T,T,T,T,T,T,T,T,T,T,T,T,T,T,T,U,T,U,U,U,U,U,U,U,U] (any_of HT_.out (by kernel_rfl)) ?_
             refine pu 26 (some 39) #[T,T,T,T,T,T,T,T,T,T,T,T,T,T,T,T,T,T,T,T,T,T,T,T,U,T,T,U,U,U,U,U,U,U] (any_of HT_.out (by kernel_rfl)) ?_
             refine pu 27 (some 40) #[T,T,T,T,T,T,T,T,T,T,T,T,T,T,T,T,T,T,T,T,T,T,T,T,U,T,T,T,U,U,U,U,U,U] (any_of HT_.out (by kernel_rfl)) ?_
             refine pu 28 (some 41) #[T,T,T,T,T,T,T,T,T,T,T,T,T,T,T,T,T,T,T,T,T,T,T,T,U,T,T,T,T,U,U,U,U,U] (any_of HT_.out (by kernel_rfl)) ?_
             refine pu 29 (some 42) #[T,T,T,T,T,T,T,T,T,T,T,T,T,T,T,T,T,T,T,T,T,T,T,T,U,T,T,T,T,T,U,U,U,U] (any_of HT_.out (by kernel_rfl)) ?_
             refine take_ (i := 24) (N := some 37) (v := ?_) (a' := ?_) #[T,T,T,T,T,T,T,T,T,T,T,T,T,T,T,T,T,T,T,T,T,T,T,T,T,T,T,T,T,T,U,U,U,U] rfl rfl (take_ofW HT_.out HW_.out (by kernel_rfl)) (fun _ _ _ h => h) (Or.inl ⟨by rfl, ?_⟩) hHeld ?_ ?_
             rotate_left
             ·rintro w' ⟨s0, s1, s2, s3, s4, s5, s6, s7⟩
              go_simp
              with_reducible rfl
             rotate_left
             ·simp only [Act.put, lT, lZ, lS, i64_w, i32_w]
              rfl
             refine take_ (i := 30) (N := some 43) (v := ?_) (a' := ?_) #[T,T,T,T,T,T,T,T,T,T,T,T,T,T,T,T,T,T,T,T,T,T,T,T,T,T,T,T,T,T,T,U,U,U] rfl rfl (take_ofW HT_.out HW_.out (by kernel_rfl)) (fun _ _ _ h => h) (Or.inl ⟨by rfl, ?_⟩) hHeld ?_ ?_
             rotate_left
             ·rintro w' ⟨s0, s1, s2, s3, s4, s5, s6, s7⟩
              go_simp
              with_reducible rfl
             rotate_left
             ·simp only [Act.put, lT, lZ, lS, i64_w, i32_w]
              rfl
             refine pu 31 (some 44) #[T,T,T,T,T,T,T,T,T,T,T,T,T,T,T,T,T,T,T,T,T,T,T,T,T,T,T,T,T,T,T,T,U,U] (any_of HT_.out (by kernel_rfl)) ?_
             refine pu 32 (some 45) #[T,T,T,T,T,T,T,T,T,T,T,T,T,T,T,T,T,T,T,T,T,T,T,T,T,T,T,T,T,T,T,T,T,U] (any_of HT_.out (by kernel_rfl)) ?_
             refine pu 33 (some 46) #[T,T,T,T,T,T,T,T,T,T,T,T,T,T,T,T,T,T,T,T,T,T,T,T,T,T,T,T,T,T,T,T,T,T] (any_of HT_.out (by kernel_rfl)) ?_
             refine done_ (done_of HT_.out (by kernel_rfl)) ?_
             try go_wp2
             go_roundg k1
             case measure => have := HK1.out; omega
             case rel => exact ⟨(wrap64 (x3_1 + 1)), (by first | rfl | (simp [*]; done)), H', ⟨by have := HK1.out; omega⟩, ⟨by exact hopb HB.out⟩⟩
          ·rw [if_neg c12] at H
           exact absurd H (by simp)
         ·rw [if_neg c11] at H
          exact absurd H (by simp)
        ·rw [if_neg c9] at H
         have c9b0 : decide (0 < x3_1) = false := decide_eq_false c9
         clear c9
         have H' := ak H
         clear H
         try go_wp2
         replace HB := ak (below_drew1 HB.out)
         have p105 : 0 ≤ (x3_1 : Int) := of_decide_eq_true (by assumption)
         have q105 : x3_1 < (l0.length : Int) := of_decide_eq_true (by assumption)
         obtain ⟨ad105, e105, hx105_0, hx105_1⟩ := at_T65 HR0.out x3_1 p105 q105
         have hw105_1 := hx105_1
         have hw105_0 := hx105_0
         cases e105
         replace hx105_0 := (HB.out.cell (World.block_lt_of_cell? w _ hx105_0)).trans hx105_0
         replace hx105_1 := (HB.out.cell (World.block_lt_of_cell? w _ hx105_1)).trans hx105_1
         replace p105 := eq_true p105
         replace q105 := eq_true q105
         have p107 : 0 ≤ (x3_1 : Int) := of_decide_eq_true (by assumption)
         have q107 : x3_1 < (l0.length : Int) := of_decide_eq_true (by assumption)
         obtain ⟨ad107, e107, hx107_0, hx107_1⟩ := at_T65 HR0.out x3_1 p107 q107
         have hw107_1 := hx107_1
         have hw107_0 := hx107_0
         obtain rfl : ad105 = ad107 := (by injection e107)
         replace hx107_0 := (HB.out.cell (World.block_lt_of_cell? w _ hx107_0)).trans hx107_0
         replace hx107_1 := (HB.out.cell (World.block_lt_of_cell? w _ hx107_1)).trans hx107_1
         replace p107 := eq_true p107
         replace q107 := eq_true q107
         refine start_ (n := 34) (S := fun w' => w'.cell? (ad105.add ((x3_1).toNat * 2)) = some (.string ((rd_T65 l0 x3_1).f0)) ∧ w'.cell? ⟨(ad105.add ((x3_1).toNat * 2)).block, (ad105.add ((x3_1).toNat * 2)).off + 1, none⟩ = some (.int .i64 ((rd_T65 l0 x3_1).f1)) ∧ w'.cell? (ad105.add ((x3_1).toNat * 2)) = some (.string ((rd_T65 l0 x3_1).f0)) ∧ w'.cell? ⟨(ad105.add ((x3_1).toNat * 2)).block, (ad105.add ((x3_1).toNat * 2)).off + 1, none⟩ = some (.int .i64 ((rd_T65 l0 x3_1).f1))) (ds := []) #[U,U,U,U,U,U,U,U,U,U,U,U,U,U,U,U,U,U,U,U,U,U,U,U,U,U,U,U,U,U,U,U,U,U] (by kernel_rfl) rfl rfl ⟨((HB.out.cell (World.block_lt_of_cell? w _ hw105_0)).trans hw105_0), ((HB.out.cell (World.block_lt_of_cell? w _ hw105_1)).trans hw105_1), ((HB.out.cell (World.block_lt_of_cell? w _ hw107_0)).trans hw107_0), ((HB.out.cell (World.block_lt_of_cell? w _ hw107_1)).trans hw107_1)⟩ (fun hHeld => ?_); refine with_tabW spec_PairsValid.tab6 spec_PairsValid.bits6 (fun HT_ HW_ => ?_)
         generalize wr.drew = w18 at HB hx105_0 hx105_1 hx107_0 hx107_1 hHeld ⊢
         refine pu 0 (some 13) #[T,U,U,U,U,U,U,U,U,U,U,U,U,U,U,U,U,U,U,U,U,U,U,U,U,U,U,U,U,U,U,U,U,U] (any_of HT_.out (by kernel_rfl)) ?_
         refine pu 1 (some 14) #[T,T,U,U,U,U,U,U,U,U,U,U,U,U,U,U,U,U,U,U,U,U,U,U,U,U,U,U,U,U,U,U,U,U] (any_of HT_.out (by kernel_rfl)) ?_
         refine pu 2 (some 15) #[T,T,T,U,U,U,U,U,U,U,U,U,U,U,U,U,U,U,U,U,U,U,U,U,U,U,U,U,U,U,U,U,U,U] (any_of HT_.out (by kernel_rfl)) ?_
         refine pu 3 (some 16) #[T,T,T,T,U,U,U,U,U,U,U,U,U,U,U,U,U,U,U,U,U,U,U,U,U,U,U,U,U,U,U,U,U,U] (any_of HT_.out (by kernel_rfl)) ?_
         refine take_ (i := 4) (N := some 17) (v := ?_) (a' := ?_) #[T,T,T,T,T,U,U,U,U,U,U,U,U,U,U,U,U,U,U,U,U,U,U,U,U,U,U,U,U,U,U,U,U,U] rfl rfl (take_ofW HT_.out HW_.out (by kernel_rfl)) (fun _ _ _ h => h) (Or.inl ⟨by rfl, ?_⟩) hHeld ?_ ?_
         rotate_left
         ·rintro w' ⟨s0, s1, s2, s3⟩
          go_simp
          with_reducible rfl
         rotate_left
         ·simp only [Act.put, lT, lZ, lS, i64_w, i32_w]
          rfl
         refine one_ (i := 5) (N := some 18) #[T,T,T,T,T,T,U,U,U,U,U,U,U,U,U,U,U,U,U,U,U,U,U,U,U,U,U,U,U,U,U,U,U,U] rfl rfl (one_of HT_.out (by kernel_rfl)) (by decide) (fun K hK => ?_)
         refine goes_ Try.func24 (by kernel_rfl) rfl #[.string ((rd_T65 l0 x3_1).f0)] (by rfl) rfl rfl (by (try simp only [List.map_toArray, List.map_cons, List.map_nil]); first | done | rfl | (simp only [List.length_drop, List.length_take]; rfl)) ?_
         with_reducible refine (spec_KeyValid.calls k1 ((rd_T65 l0 x3_1).f0) true _ A5.out).mono ?_
         rintro e w' ⟨rfl, ⟨nd, rfl⟩⟩
         refine ⟨_, rfl, ?_⟩
         refine hK.out _ _ ⟨((HB.out.cell (World.block_lt_of_cell? w _ hw105_0)).trans hw105_0), ((HB.out.cell (World.block_lt_of_cell? w _ hw105_1)).trans hw105_1), ((HB.out.cell (World.block_lt_of_cell? w _ hw107_0)).trans hw107_0), ((HB.out.cell (World.block_lt_of_cell? w _ hw107_1)).trans hw107_1)⟩ (fun hHeld => ?_)
         clear hK K
         refine norm_ (a' := ?_) ?_ ?_
         rotate_left
         ·show Act.put _ (some 18) _ = _
          simp only [Act.put, lT, lZ, lS, i64_w, i32_w]
          rfl
         refine pu 6 (some 19) #[T,T,T,T,T,T,T,U,U,U,U,U,U,U,U,U,U,U,U,U,U,U,U,U,U,U,U,U,U,U,U,U,U,U] (any_of HT_.out (by kernel_rfl)) ?_
         refine pu 7 (some 20) #[T,T,T,T,T,T,T,T,U,U,U,U,U,U,U,U,U,U,U,U,U,U,U,U,U,U,U,U,U,U,U,U,U,U] (any_of HT_.out (by kernel_rfl)) ?_
         refine pu 8 (some 21) #[T,T,T,T,T,T,T,T,T,U,U,U,U,U,U,U,U,U,U,U,U,U,U,U,U,U,U,U,U,U,U,U,U,U] (any_of HT_.out (by kernel_rfl)) ?_
         refine pu 9 (some 22) #[T,T,T,T,T,T,T,T,T,T,U,U,U,U,U,U,U,U,U,U,U,U,U,U,U,U,U,U,U,U,U,U,U,U] (any_of HT_.out (by kernel_rfl)) ?_
         refine pu 10 (some 23) #[T,T,T,T,T,T,T,T,T,T,T,U,U,U,U,U,U,U,U,U,U,U,U,U,U,U,U,U,U,U,U,U,U,U] (any_of HT_.out (by kernel_rfl)) ?_
         refine pu 11 (some 24) #[T,T,T,T,T,T,T,T,T,T,T,T,U,U,U,U,U,U,U,U,U,U,U,U,U,U,U,U,U,U,U,U,U,U] (any_of HT_.out (by kernel_rfl)) ?_
         refine take_ (i := 12) (N := some 25) (v := ?_) (a' := ?_) #[T,T,T,T,T,T,T,T,T,T,T,T,T,U,U,U,U,U,U,U,U,U,U,U,U,U,U,U,U,U,U,U,U,U] rfl rfl (take_ofW HT_.out HW_.out (by kernel_rfl)) (fun _ _ _ h => h) (Or.inl ⟨by rfl, ?_⟩) hHeld ?_ ?_
         rotate_left
         ·rintro w' ⟨s0, s1, s2, s3⟩
          go_simp
          with_reducible rfl
         rotate_left
         ·simp only [Act.put, lT, lZ, lS, i64_w, i32_w]
          rfl
         refine one_ (i := 13) (N := some 26) #[T,T,T,T,T,T,T,T,T,T,T,T,T,T,U,U,U,U,U,U,U,U,U,U,U,U,U,U,U,U,U,U,U,U] rfl rfl (one_of HT_.out (by kernel_rfl)) (by decide) (fun K hK => ?_)
         refine goes_ Try.func48 (by kernel_rfl) rfl #[.int .i64 ((rd_T65 l0 x3_1).f1), .int .i64 0, .int .i64 999] (by rfl) rfl rfl (by (try simp only [List.map_toArray, List.map_cons, List.map_nil]); first | done | rfl | (simp only [List.length_drop, List.length_take]; rfl)) ?_
         with_reducible refine (spec_l1In.calls ((rd_T65 l0 x3_1).f1) 0 999 true _ A7.out).mono ?_
         rintro e w' ⟨rfl, ⟨nd, rfl⟩⟩
         refine ⟨_, rfl, ?_⟩
         refine hK.out _ _ ⟨((HB.out.cell (World.block_lt_of_cell? w _ hw105_0)).trans hw105_0), ((HB.out.cell (World.block_lt_of_cell? w _ hw105_1)).trans hw105_1), ((HB.out.cell (World.block_lt_of_cell? w _ hw107_0)).trans hw107_0), ((HB.out.cell (World.block_lt_of_cell? w _ hw107_1)).trans hw107_1)⟩ (fun hHeld => ?_)
         clear hK K
         refine norm_ (a' := ?_) ?_ ?_
         rotate_left
         ·show Act.put _ (some 26) _ = _
          simp only [Act.put, lT, lZ, lS, i64_w, i32_w]
          rfl
         refine pu 14 (some 27) #[T,T,T,T,T,T,T,T,T,T,T,T,T,T,T,U,U,U,U,U,U,U,U,U,U,U,U,U,U,U,U,U,U,U] (any_of HT_.out (by kernel_rfl)) ?_
         refine pu 15 (some 28) #[T,T,T,T,T,T,T,T,T,T,T,T,T,T,T,T,U,U,U,U,U,U,U,U,U,U,U,U,U,U,U,U,U,U] (any_of HT_.out (by kernel_rfl)) ?_
         refine pu 16 (some 29) #[T,T,T,T,T,T,T,T,T,T,T,T,T,T,T,T,T,U,U,U,U,U,U,U,U,U,U,U,U,U,U,U,U,U] (any_of HT_.out (by kernel_rfl)) ?_
         refine pu 17 (some 30) #[T,T,T,T,T,T,T,T,T,T,T,T,T,T,T,T,T,T,U,U,U,U,U,U,U,U,U,U,U,U,U,U,U,U] (any_of HT_.out (by kernel_rfl)) ?_
         refine pu 18 (some 31) #[T,T,T,T,T,T,T,T,T,T,T,T,T,T,T,T,T,T,T,U,U,U,U,U,U,U,U,U,U,U,U,U,U,U] (any_of HT_.out (by kernel_rfl)) ?_
         refine pu 19 (some 32) #[T,T,T,T,T,T,T,T,T,T,T,T,T,T,T,T,T,T,T,T,U,U,U,U,U,U,U,U,U,U,U,U,U,U] (any_of HT_.out (by kernel_rfl)) ?_
         refine pn 20 (some 33) #[T,T,T,T,T,T,T,T,T,T,T,T,T,T,T,T,T,T,T,T,T,U,U,U,U,U,U,U,U,U,U,U,U,U] (any_of HT_.out (by kernel_rfl)) ?_
         refine pn 21 (some 34) #[T,T,T,T,T,T,T,T,T,T,T,T,T,T,T,T,T,T,T,T,T,T,U,U,U,U,U,U,U,U,U,U,U,U] (any_of HT_.out (by kernel_rfl)) ?_
         refine pn 22 (some 35) #[T,T,T,T,T,T,T,T,T,T,T,T,T,T,T,T,T,T,T,T,T,T,T,U,U,U,U,U,U,U,U,U,U,U] (any_of HT_.out (by kernel_rfl)) ?_
         refine pn 23 (some 36) #[T,T,T,T,T,T,T,T,T,T,T,T,T,T,T,T,T,T,T,T,T,T,T,T,U,U,U,U,U,U,U,U,U,U] (any_of HT_.out (by kernel_rfl)) ?_
         refine pn 24 (some 37) #[T,T,T,T,T,T,T,T,T,T,T,T,T,T,T,T,T,T,T,T,T,T,T,T,T,U,U,U,U,U,U,U,U,U] (any_of HT_.out (by kernel_rfl)) ?_
         refine pn 25 (some 38) #[T,T,T,T,T,T,T,T,T,T,T,T,T,T,T,T,T,T,T,T,T,T,T,T,T,T,U,U,U,U,U,U,U,U] (any_of HT_.out (by kernel_rfl)) ?_
         refine pn 26 (some 39) #[T,T,T,T,T,T,T,T,T,T,T,T,T,T,T,T,T,T,T,T,T,T,T,T,T,T,T,U,U,U,U,U,U,U] (any_of HT_.out (by kernel_rfl)) ?_
         refine pn 27 (some 40) #[T,T,T,T,T,T,T,T,T,T,T,T,T,T,T,T,T,T,T,T,T,T,T,T,T,T,T,T,U,U,U,U,U,U] (any_of HT_.out (by kernel_rfl)) ?_
         refine pn 28 (some 41) #[T,T,T,T,T,T,T,T,T,T,T,T,T,T,T,T,T,T,T,T,T,T,T,T,T,T,T,T,T,U,U,U,U,U] (any_of HT_.out (by kernel_rfl)) ?_
         refine pn 29 (some 42) #[T,T,T,T,T,T,T,T,T,T,T,T,T,T,T,T,T,T,T,T,T,T,T,T,T,T,T,T,T,T,U,U,U,U] (any_of HT_.out (by kernel_rfl)) ?_
         refine pn 30 (some 43) #[T,T,T,T,T,T,T,T,T,T,T,T,T,T,T,T,T,T,T,T,T,T,T,T,T,T,T,T,T,T,T,U,U,U] (any_of HT_.out (by kernel_rfl)) ?_
         refine pn 31 (some 44) #[T,T,T,T,T,T,T,T,T,T,T,T,T,T,T,T,T,T,T,T,T,T,T,T,T,T,T,T,T,T,T,T,U,U] (any_of HT_.out (by kernel_rfl)) ?_
         refine pu 32 (some 45) #[T,T,T,T,T,T,T,T,T,T,T,T,T,T,T,T,T,T,T,T,T,T,T,T,T,T,T,T,T,T,T,T,T,U] (any_of HT_.out (by kernel_rfl)) ?_
         refine pu 33 (some 46) #[T,T,T,T,T,T,T,T,T,T,T,T,T,T,T,T,T,T,T,T,T,T,T,T,T,T,T,T,T,T,T,T,T,T] (any_of HT_.out (by kernel_rfl)) ?_
         refine done_ (done_of HT_.out (by kernel_rfl)) ?_
         try go_wp2
         go_roundg k1
         case measure => have := HK1.out; omega
         case rel => exact ⟨(wrap64 (x3_1 + 1)), (by first | rfl | (simp [*]; done)), H', ⟨by have := HK1.out; omega⟩, ⟨by exact hopb HB.out⟩⟩
       ·replace c8 := Bool.eq_false_iff.mpr c8
        subst c8
        rw [if_neg (show ¬ (false = true) by decide)] at H
        obtain rfl := Option.some.inj H
        try go_wp2
        replace HB := ak (below_drew1 HB.out)
        have p105 : 0 ≤ (x3_1 : Int) := of_decide_eq_true (by assumption)
        have q105 : x3_1 < (l0.length : Int) := of_decide_eq_true (by assumption)
        obtain ⟨ad105, e105, hx105_0, hx105_1⟩ := at_T65 HR0.out x3_1 p105 q105
        have hw105_1 := hx105_1
        have hw105_0 := hx105_0
        cases e105
        replace hx105_0 := (HB.out.cell (World.block_lt_of_cell? w _ hx105_0)).trans hx105_0
        replace hx105_1 := (HB.out.cell (World.block_lt_of_cell? w _ hx105_1)).trans hx105_1
        replace p105 := eq_true p105
        replace q105 := eq_true q105
        have p107 : 0 ≤ (x3_1 : Int) := of_decide_eq_true (by assumption)
        have q107 : x3_1 < (l0.length : Int) := of_decide_eq_true (by assumption)
        obtain ⟨ad107, e107, hx107_0, hx107_1⟩ := at_T65 HR0.out x3_1 p107 q107
        have hw107_1 := hx107_1
        have hw107_0 := hx107_0
        obtain rfl : ad105 = ad107 := (by injection e107)
        replace hx107_0 := (HB.out.cell (World.block_lt_of_cell? w _ hx107_0)).trans hx107_0
        replace hx107_1 := (HB.out.cell (World.block_lt_of_cell? w _ hx107_1)).trans hx107_1
        replace p107 := eq_true p107
        replace q107 := eq_true q107
        refine start_ (n := 34) (S := fun w' => w'.cell? (ad105.add ((x3_1).toNat * 2)) = some (.string ((rd_T65 l0 x3_1).f0)) ∧ w'.cell? ⟨(ad105.add ((x3_1).toNat * 2)).block, (ad105.add ((x3_1).toNat * 2)).off + 1, none⟩ = some (.int .i64 ((rd_T65 l0 x3_1).f1)) ∧ w'.cell? (ad105.add ((x3_1).toNat * 2)) = some (.string ((rd_T65 l0 x3_1).f0)) ∧ w'.cell? ⟨(ad105.add ((x3_1).toNat * 2)).block, (ad105.add ((x3_1).toNat * 2)).off + 1, none⟩ = some (.int .i64 ((rd_T65 l0 x3_1).f1))) (ds := []) #[U,U,U,U,U,U,U,U,U,U,U,U,U,U,U,U,U,U,U,U,U,U,U,U,U,U,U,U,U,U,U,U,U,U] (by kernel_rfl) rfl rfl ⟨((HB.out.cell (World.block_lt_of_cell? w _ hw105_0)).trans hw105_0), ((HB.out.cell (World.block_lt_of_cell? w _ hw105_1)).trans hw105_1), ((HB.out.cell (World.block_lt_of_cell? w _ hw107_0)).trans hw107_0), ((HB.out.cell (World.block_lt_of_cell? w _ hw107_1)).trans hw107_1)⟩ (fun hHeld => ?_); refine with_tabW spec_PairsValid.tab6 spec_PairsValid.bits6 (fun HT_ HW_ => ?_)
        generalize wr.drew = w19 at HB hx105_0 hx105_1 hx107_0 hx107_1 hHeld ⊢
        refine pu 0 (some 13) #[T,U,U,U,U,U,U,U,U,U,U,U,U,U,U,U,U,U,U,U,U,U,U,U,U,U,U,U,U,U,U,U,U,U] (any_of HT_.out (by kernel_rfl)) ?_
        refine pu 1 (some 14) #[T,T,U,U,U,U,U,U,U,U,U,U,U,U,U,U,U,U,U,U,U,U,U,U,U,U,U,U,U,U,U,U,U,U] (any_of HT_.out (by kernel_rfl)) ?_
        refine pu 2 (some 15) #[T,T,T,U,U,U,U,U,U,U,U,U,U,U,U,U,U,U,U,U,U,U,U,U,U,U,U,U,U,U,U,U,U,U] (any_of HT_.out (by kernel_rfl)) ?_
        refine pu 3 (some 16) #[T,T,T,T,U,U,U,U,U,U,U,U,U,U,U,U,U,U,U,U,U,U,U,U,U,U,U,U,U,U,U,U,U,U] (any_of HT_.out (by kernel_rfl)) ?_
        refine take_ (i := 4) (N := some 17) (v := ?_) (a' := ?_) #[T,T,T,T,T,U,U,U,U,U,U,U,U,U,U,U,U,U,U,U,U,U,U,U,U,U,U,U,U,U,U,U,U,U] rfl rfl (take_ofW HT_.out HW_.out (by kernel_rfl)) (fun _ _ _ h => h) (Or.inl ⟨by rfl, ?_⟩) hHeld ?_ ?_
        rotate_left
        ·rintro w' ⟨s0, s1, s2, s3⟩
         go_simp
         with_reducible rfl
        rotate_left
        ·simp only [Act.put, lT, lZ, lS, i64_w, i32_w]
         rfl
        refine one_ (i := 5) (N := some 18) #[T,T,T,T,T,T,U,U,U,U,U,U,U,U,U,U,U,U,U,U,U,U,U,U,U,U,U,U,U,U,U,U,U,U] rfl rfl (one_of HT_.out (by kernel_rfl)) (by decide) (fun K hK => ?_)
        refine goes_ Try.func24 (by kernel_rfl) rfl #[.string ((rd_T65 l0 x3_1).f0)] (by rfl) rfl rfl (by (try simp only [List.map_toArray, List.map_cons, List.map_nil]); first | done | rfl | (simp only [List.length_drop, List.length_take]; rfl)) ?_
        with_reducible refine (spec_KeyValid.calls k1 ((rd_T65 l0 x3_1).f0) true _ A5.out).mono ?_
        rintro e w' ⟨rfl, ⟨nd, rfl⟩⟩
        refine ⟨_, rfl, ?_⟩
        refine hK.out _ _ ⟨((HB.out.cell (World.block_lt_of_cell? w _ hw105_0)).trans hw105_0), ((HB.out.cell (World.block_lt_of_cell? w _ hw105_1)).trans hw105_1), ((HB.out.cell (World.block_lt_of_cell? w _ hw107_0)).trans hw107_0), ((HB.out.cell (World.block_lt_of_cell? w _ hw107_1)).trans hw107_1)⟩ (fun hHeld => ?_)
        clear hK K
        refine norm_ (a' := ?_) ?_ ?_
        rotate_left
        ·show Act.put _ (some 18) _ = _
         simp only [Act.put, lT, lZ, lS, i64_w, i32_w]
         rfl
        refine pu 6 (some 19) #[T,T,T,T,T,T,T,U,U,U,U,U,U,U,U,U,U,U,U,U,U,U,U,U,U,U,U,U,U,U,U,U,U,U] (any_of HT_.out (by kernel_rfl)) ?_
        refine pu 7 (some 20) #[T,T,T,T,T,T,T,T,U,U,U,U,U,U,U,U,U,U,U,U,U,U,U,U,U,U,U,U,U,U,U,U,U,U] (any_of HT_.out (by kernel_rfl)) ?_
        refine pu 8 (some 21) #[T,T,T,T,T,T,T,T,T,U,U,U,U,U,U,U,U,U,U,U,U,U,U,U,U,U,U,U,U,U,U,U,U,U] (any_of HT_.out (by kernel_rfl)) ?_
        refine pu 9 (some 22) #[T,T,T,T,T,T,T,T,T,T,U,U,U,U,U,U,U,U,U,U,U,U,U,U,U,U,U,U,U,U,U,U,U,U] (any_of HT_.out (by kernel_rfl)) ?_
        refine pu 10 (some 23) #[T,T,T,T,T,T,T,T,T,T,T,U,U,U,U,U,U,U,U,U,U,U,U,U,U,U,U,U,U,U,U,U,U,U] (any_of HT_.out (by kernel_rfl)) ?_
        refine pu 11 (some 24) #[T,T,T,T,T,T,T,T,T,T,T,T,U,U,U,U,U,U,U,U,U,U,U,U,U,U,U,U,U,U,U,U,U,U] (any_of HT_.out (by kernel_rfl)) ?_
        refine take_ (i := 12) (N := some 25) (v := ?_) (a' := ?_) #[T,T,T,T,T,T,T,T,T,T,T,T,T,U,U,U,U,U,U,U,U,U,U,U,U,U,U,U,U,U,U,U,U,U] rfl rfl (take_ofW HT_.out HW_.out (by kernel_rfl)) (fun _ _ _ h => h) (Or.inl ⟨by rfl, ?_⟩) hHeld ?_ ?_
        rotate_left
        ·rintro w' ⟨s0, s1, s2, s3⟩
         go_simp
         with_reducible rfl
        rotate_left
        ·simp only [Act.put, lT, lZ, lS, i64_w, i32_w]
         rfl
        refine one_ (i := 13) (N := some 26) #[T,T,T,T,T,T,T,T,T,T,T,T,T,T,U,U,U,U,U,U,U,U,U,U,U,U,U,U,U,U,U,U,U,U] rfl rfl (one_of HT_.out (by kernel_rfl)) (by decide) (fun K hK => ?_)
        refine goes_ Try.func48 (by kernel_rfl) rfl #[.int .i64 ((rd_T65 l0 x3_1).f1), .int .i64 0, .int .i64 999] (by rfl) rfl rfl (by (try simp only [List.map_toArray, List.map_cons, List.map_nil]); first | done | rfl | (simp only [List.length_drop, List.length_take]; rfl)) ?_
        with_reducible refine (spec_l1In.calls ((rd_T65 l0 x3_1).f1) 0 999 false _ A7.out).mono ?_
        rintro e w' ⟨rfl, ⟨nd, rfl⟩⟩
        refine ⟨_, rfl, ?_⟩
        refine hK.out _ _ ⟨((HB.out.cell (World.block_lt_of_cell? w _ hw105_0)).trans hw105_0), ((HB.out.cell (World.block_lt_of_cell? w _ hw105_1)).trans hw105_1), ((HB.out.cell (World.block_lt_of_cell? w _ hw107_0)).trans hw107_0), ((HB.out.cell (World.block_lt_of_cell? w _ hw107_1)).trans hw107_1)⟩ (fun hHeld => ?_)
        clear hK K
        refine norm_ (a' := ?_) ?_ ?_
        rotate_left
        ·show Act.put _ (some 26) _ = _
         simp only [Act.put, lT, lZ, lS, i64_w, i32_w]
         rfl
        refine pu 14 (some 27) #[T,T,T,T,T,T,T,T,T,T,T,T,T,T,T,U,U,U,U,U,U,U,U,U,U,U,U,U,U,U,U,U,U,U] (any_of HT_.out (by kernel_rfl)) ?_
        refine pu 15 (some 28) #[T,T,T,T,T,T,T,T,T,T,T,T,T,T,T,T,U,U,U,U,U,U,U,U,U,U,U,U,U,U,U,U,U,U] (any_of HT_.out (by kernel_rfl)) ?_
        refine pu 16 (some 29) #[T,T,T,T,T,T,T,T,T,T,T,T,T,T,T,T,T,U,U,U,U,U,U,U,U,U,U,U,U,U,U,U,U,U] (any_of HT_.out (by kernel_rfl)) ?_
        refine pn 17 (some 30) #[T,T,T,T,T,T,T,T,T,T,T,T,T,T,T,T,T,T,U,U,U,U,U,U,U,U,U,U,U,U,U,U,U,U] (any_of HT_.out (by kernel_rfl)) ?_
        refine pn 18 (some 31) #[T,T,T,T,T,T,T,T,T,T,T,T,T,T,T,T,T,T,T,U,U,U,U,U,U,U,U,U,U,U,U,U,U,U] (any_of HT_.out (by kernel_rfl)) ?_
        refine pn 19 (some 32) #[T,T,T,T,T,T,T,T,T,T,T,T,T,T,T,T,T,T,T,T,U,U,U,U,U,U,U,U,U,U,U,U,U,U] (any_of HT_.out (by kernel_rfl)) ?_
        refine pn 20 (some 33) #[T,T,T,T,T,T,T,T,T,T,T,T,T,T,T,T,T,T,T,T,T,U,U,U,U,U,U,U,U,U,U,U,U,U] (any_of HT_.out (by kernel_rfl)) ?_
        refine pn 21 (some 34) #[T,T,T,T,T,T,T,T,T,T,T,T,T,T,T,T,T,T,T,T,T,T,U,U,U,U,U,U,U,U,U,U,U,U] (any_of HT_.out (by kernel_rfl)) ?_
        refine pn 22 (some 35) #[T,T,T,T,T,T,T,T,T,T,T,T,T,T,T,T,T,T,T,T,T,T,T,U,U,U,U,U,U,U,U,U,U,U] (any_of HT_.out (by kernel_rfl)) ?_
        refine pn 23 (some 36) #[T,T,T,T,T,T,T,T,T,T,T,T,T,T,T,T,T,T,T,T,T,T,T,T,U,U,U,U,U,U,U,U,U,U] (any_of HT_.out (by kernel_rfl)) ?_
        refine pn 24 (some 37) #[T,T,T,T,T,T,T,T,T,T,T,T,T,T,T,T,T,T,T,T,T,T,T,T,T,U,U,U,U,U,U,U,U,U] (any_of HT_.out (by kernel_rfl)) ?_
        refine pn 25 (some 38) #[T,T,T,T,T,T,T,T,T,T,T,T,T,T,T,T,T,T,T,T,T,T,T,T,T,T,U,U,U,U,U,U,U,U] (any_of HT_.out (by kernel_rfl)) ?_
        refine pn 26 (some 39) #[T,T,T,T,T,T,T,T,T,T,T,T,T,T,T,T,T,T,T,T,T,T,T,T,T,T,T,U,U,U,U,U,U,U] (any_of HT_.out (by kernel_rfl)) ?_
        refine pn 27 (some 40) #[T,T,T,T,T,T,T,T,T,T,T,T,T,T,T,T,T,T,T,T,T,T,T,T,T,T,T,T,U,U,U,U,U,U] (any_of HT_.out (by kernel_rfl)) ?_
        refine pn 28 (some 41) #[T,T,T,T,T,T,T,T,T,T,T,T,T,T,T,T,T,T,T,T,T,T,T,T,T,T,T,T,T,U,U,U,U,U] (any_of HT_.out (by kernel_rfl)) ?_
        refine pn 29 (some 42) #[T,T,T,T,T,T,T,T,T,T,T,T,T,T,T,T,T,T,T,T,T,T,T,T,T,T,T,T,T,T,U,U,U,U] (any_of HT_.out (by kernel_rfl)) ?_
        refine pn 30 (some 43) #[T,T,T,T,T,T,T,T,T,T,T,T,T,T,T,T,T,T,T,T,T,T,T,T,T,T,T,T,T,T,T,U,U,U] (any_of HT_.out (by kernel_rfl)) ?_
        refine pn 31 (some 44) #[T,T,T,T,T,T,T,T,T,T,T,T,T,T,T,T,T,T,T,T,T,T,T,T,T,T,T,T,T,T,T,T,U,U] (any_of HT_.out (by kernel_rfl)) ?_
        refine pn 32 (some 45) #[T,T,T,T,T,T,T,T,T,T,T,T,T,T,T,T,T,T,T,T,T,T,T,T,T,T,T,T,T,T,T,T,T,U] (any_of HT_.out (by kernel_rfl)) ?_
        refine pu 33 (some 46) #[T,T,T,T,T,T,T,T,T,T,T,T,T,T,T,T,T,T,T,T,T,T,T,T,T,T,T,T,T,T,T,T,T,T] (any_of HT_.out (by kernel_rfl)) ?_
        refine done_ (done_of HT_.out (by kernel_rfl)) ?_
        try go_wp2
        go_ret
        exact ⟨by first | rfl | (simp [*, errW_none, errW_some] <;> rfl), by exact hopb HB.out⟩
      ·replace c6 := Bool.eq_false_iff.mpr c6
       subst c6
       rw [if_neg (show ¬ (false = true) by decide)] at H
       obtain rfl := Option.some.inj H
       try go_wp2
       replace HB := ak (below_drew1 HB.out)
       have p105 : 0 ≤ (x3_1 : Int) := of_decide_eq_true (by assumption)
       have q105 : x3_1 < (l0.length : Int) := of_decide_eq_true (by assumption)
       obtain ⟨ad105, e105, hx105_0, hx105_1⟩ := at_T65 HR0.out x3_1 p105 q105
       have hw105_1 := hx105_1
       have hw105_0 := hx105_0
       cases e105
       replace hx105_0 := (HB.out.cell (World.block_lt_of_cell? w _ hx105_0)).trans hx105_0
       replace hx105_1 := (HB.out.cell (World.block_lt_of_cell? w _ hx105_1)).trans hx105_1
       replace p105 := eq_true p105
       replace q105 := eq_true q105
       refine start_ (n := 34) (S := fun w' => w'.cell? (ad105.add ((x3_1).toNat * 2)) = some (.string ((rd_T65 l0 x3_1).f0)) ∧ w'.cell? ⟨(ad105.add ((x3_1).toNat * 2)).block, (ad105.add ((x3_1).toNat * 2)).off + 1, none⟩ = some (.int .i64 ((rd_T65 l0 x3_1).f1))) (ds := []) #[U,U,U,U,U,U,U,U,U,U,U,U,U,U,U,U,U,U,U,U,U,U,U,U,U,U,U,U,U,U,U,U,U,U] (by kernel_rfl) rfl rfl ⟨((HB.out.cell (World.block_lt_of_cell? w _ hw105_0)).trans hw105_0), ((HB.out.cell (World.block_lt_of_cell? w _ hw105_1)).trans hw105_1)⟩ (fun hHeld => ?_); refine with_tabW spec_PairsValid.tab6 spec_PairsValid.bits6 (fun HT_ HW_ => ?_)
       generalize wr.drew = w20 at HB hx105_0 hx105_1 hHeld ⊢
       refine pu 0 (some 13) #[T,U,U,U,U,U,U,U,U,U,U,U,U,U,U,U,U,U,U,U,U,U,U,U,U,U,U,U,U,U,U,U,U,U] (any_of HT_.out (by kernel_rfl)) ?_
       refine pu 1 (some 14) #[T,T,U,U,U,U,U,U,U,U,U,U,U,U,U,U,U,U,U,U,U,U,U,U,U,U,U,U,U,U,U,U,U,U] (any_of HT_.out (by kernel_rfl)) ?_
       refine pu 2 (some 15) #[T,T,T,U,U,U,U,U,U,U,U,U,U,U,U,U,U,U,U,U,U,U,U,U,U,U,U,U,U,U,U,U,U,U] (any_of HT_.out (by kernel_rfl)) ?_
       refine pu 3 (some 16) #[T,T,T,T,U,U,U,U,U,U,U,U,U,U,U,U,U,U,U,U,U,U,U,U,U,U,U,U,U,U,U,U,U,U] (any_of HT_.out (by kernel_rfl)) ?_
       refine take_ (i := 4) (N := some 17) (v := ?_) (a' := ?_) #[T,T,T,T,T,U,U,U,U,U,U,U,U,U,U,U,U,U,U,U,U,U,U,U,U,U,U,U,U,U,U,U,U,U] rfl rfl (take_ofW HT_.out HW_.out (by kernel_rfl)) (fun _ _ _ h => h) (Or.inl ⟨by rfl, ?_⟩) hHeld ?_ ?_
       rotate_left
       ·rintro w' ⟨s0, s1⟩
        go_simp
        with_reducible rfl
       rotate_left
       ·simp only [Act.put, lT, lZ, lS, i64_w, i32_w]
        rfl
       refine one_ (i := 5) (N := some 18) #[T,T,T,T,T,T,U,U,U,U,U,U,U,U,U,U,U,U,U,U,U,U,U,U,U,U,U,U,U,U,U,U,U,U] rfl rfl (one_of HT_.out (by kernel_rfl)) (by decide) (fun K hK => ?_)
       refine goes_ Try.func24 (by kernel_rfl) rfl #[.string ((rd_T65 l0 x3_1).f0)] (by rfl) rfl rfl (by (try simp only [List.map_toArray, List.map_cons, List.map_nil]); first | done | rfl | (simp only [List.length_drop, List.length_take]; rfl)) ?_
       with_reducible refine (spec_KeyValid.calls k1 ((rd_T65 l0 x3_1).f0) false _ A5.out).mono ?_
       rintro e w' ⟨rfl, ⟨nd, rfl⟩⟩
       refine ⟨_, rfl, ?_⟩
       refine hK.out _ _ ⟨((HB.out.cell (World.block_lt_of_cell? w _ hw105_0)).trans hw105_0), ((HB.out.cell (World.block_lt_of_cell? w _ hw105_1)).trans hw105_1)⟩ (fun hHeld => ?_)
       clear hK K
       refine norm_ (a' := ?_) ?_ ?_
       rotate_left
       ·show Act.put _ (some 18) _ = _
        simp only [Act.put, lT, lZ, lS, i64_w, i32_w]
        rfl
       refine pu 6 (some 19) #[T,T,T,T,T,T,T,U,U,U,U,U,U,U,U,U,U,U,U,U,U,U,U,U,U,U,U,U,U,U,U,U,U,U] (any_of HT_.out (by kernel_rfl)) ?_
       refine pu 7 (some 20) #[T,T,T,T,T,T,T,T,U,U,U,U,U,U,U,U,U,U,U,U,U,U,U,U,U,U,U,U,U,U,U,U,U,U] (any_of HT_.out (by kernel_rfl)) ?_
       refine pn 8 (some 21) #[T,T,T,T,T,T,T,T,T,U,U,U,U,U,U,U,U,U,U,U,U,U,U,U,U,U,U,U,U,U,U,U,U,U] (any_of HT_.out (by kernel_rfl)) ?_
       refine pn 9 (some 22) #[T,T,T,T,T,T,T,T,T,T,U,U,U,U,U,U,U,U,U,U,U,U,U,U,U,U,U,U,U,U,U,U,U,U] (any_of HT_.out (by kernel_rfl)) ?_
       refine pn 10 (some 23) #[T,T,T,T,T,T,T,T,T,T,T,U,U,U,U,U,U,U,U,U,U,U,U,U,U,U,U,U,U,U,U,U,U,U] (any_of HT_.out (by kernel_rfl)) ?_
       refine pn 11 (some 24) #[T,T,T,T,T,T,T,T,T,T,T,T,U,U,U,U,U,U,U,U,U,U,U,U,U,U,U,U,U,U,U,U,U,U] (any_of HT_.out (by kernel_rfl)) ?_
       refine pn 12 (some 25) #[T,T,T,T,T,T,T,T,T,T,T,T,T,U,U,U,U,U,U,U,U,U,U,U,U,U,U,U,U,U,U,U,U,U] (any_of HT_.out (by kernel_rfl)) ?_
       refine pn 13 (some 26) #[T,T,T,T,T,T,T,T,T,T,T,T,T,T,U,U,U,U,U,U,U,U,U,U,U,U,U,U,U,U,U,U,U,U] (any_of HT_.out (by kernel_rfl)) ?_
       refine pn 14 (some 27) #[T,T,T,T,T,T,T,T,T,T,T,T,T,T,T,U,U,U,U,U,U,U,U,U,U,U,U,U,U,U,U,U,U,U] (any_of HT_.out (by kernel_rfl)) ?_
       refine pu 15 (some 28) #[T,T,T,T,T,T,T,T,T,T,T,T,T,T,T,T,U,U,U,U,U,U,U,U,U,U,U,U,U,U,U,U,U,U] (any_of HT_.out (by kernel_rfl)) ?_
       refine pu 16 (some 29) #[T,T,T,T,T,T,T,T,T,T,T,T,T,T,T,T,T,U,U,U,U,U,U,U,U,U,U,U,U,U,U,U,U,U] (any_of HT_.out (by kernel_rfl)) ?_
       refine pn 17 (some 30) #[T,T,T,T,T,T,T,T,T,T,T,T,T,T,T,T,T,T,U,U,U,U,U,U,U,U,U,U,U,U,U,U,U,U] (any_of HT_.out (by kernel_rfl)) ?_
       refine pn 18 (some 31) #[T,T,T,T,T,T,T,T,T,T,T,T,T,T,T,T,T,T,T,U,U,U,U,U,U,U,U,U,U,U,U,U,U,U] (any_of HT_.out (by kernel_rfl)) ?_
       refine pn 19 (some 32) #[T,T,T,T,T,T,T,T,T,T,T,T,T,T,T,T,T,T,T,T,U,U,U,U,U,U,U,U,U,U,U,U,U,U] (any_of HT_.out (by kernel_rfl)) ?_
       refine pn 20 (some 33) #[T,T,T,T,T,T,T,T,T,T,T,T,T,T,T,T,T,T,T,T,T,U,U,U,U,U,U,U,U,U,U,U,U,U] (any_of HT_.out (by kernel_rfl)) ?_
       refine pn 21 (some 34) #[T,T,T,T,T,T,T,T,T,T,T,T,T,T,T,T,T,T,T,T,T,T,U,U,U,U,U,U,U,U,U,U,U,U] (any_of HT_.out (by kernel_rfl)) ?_
       refine pn 22 (some 35) #[T,T,T,T,T,T,T,T,T,T,T,T,T,T,T,T,T,T,T,T,T,T,T,U,U,U,U,U,U,U,U,U,U,U] (any_of HT_.out (by kernel_rfl)) ?_
       refine pn 23 (some 36) #[T,T,T,T,T,T,T,T,T,T,T,T,T,T,T,T,T,T,T,T,T,T,T,T,U,U,U,U,U,U,U,U,U,U] (any_of HT_.out (by kernel_rfl)) ?_
       refine pn 24 (some 37) #[T,T,T,T,T,T,T,T,T,T,T,T,T,T,T,T,T,T,T,T,T,T,T,T,T,U,U,U,U,U,U,U,U,U] (any_of HT_.out (by kernel_rfl)) ?_
       refine pn 25 (some 38) #[T,T,T,T,T,T,T,T,T,T,T,T,T,T,T,T,T,T,T,T,T,T,T,T,T,T,U,U,U,U,U,U,U,U] (any_of HT_.out (by kernel_rfl)) ?_
       refine pn 26 (some 39) #[T,T,T,T,T,T,T,T,T,T,T,T,T,T,T,T,T,T,T,T,T,T,T,T,T,T,T,U,U,U,U,U,U,U] (any_of HT_.out (by kernel_rfl)) ?_
       refine pn 27 (some 40) #[T,T,T,T,T,T,T,T,T,T,T,T,T,T,T,T,T,T,T,T,T,T,T,T,T,T,T,T,U,U,U,U,U,U] (any_of HT_.out (by kernel_rfl)) ?_
       refine pn 28 (some 41) #[T,T,T,T,T,T,T,T,T,T,T,T,T,T,T,T,T,T,T,T,T,T,T,T,T,T,T,T,T,U,U,U,U,U] (any_of HT_.out (by kernel_rfl)) ?_
       refine pn 29 (some 42) #[T,T,T,T,T,T,T,T,T,T,T,T,T,T,T,T,T,T,T,T,T,T,T,T,T,T,T,T,T,T,U,U,U,U] (any_of HT_.out (by kernel_rfl)) ?_
       refine pn 30 (some 43) #[T,T,T,T,T,T,T,T,T,T,T,T,T,T,T,T,T,T,T,T,T,T,T,T,T,T,T,T,T,T,T,U,U,U] (any_of HT_.out (by kernel_rfl)) ?_
       refine pn 31 (some 44) #[T,T,T,T,T,T,T,T,T,T,T,T,T,T,T,T,T,T,T,T,T,T,T,T,T,T,T,T,T,T,T,T,U,U] (any_of HT_.out (by kernel_rfl)) ?_
       refine pn 32 (some 45) #[T,T,T,T,T,T,T,T,T,T,T,T,T,T,T,T,T,T,T,T,T,T,T,T,T,T,T,T,T,T,T,T,T,U] (any_of HT_.out (by kernel_rfl)) ?_
       refine pu 33 (some 46) #[T,T,T,T,T,T,T,T,T,T,T,T,T,T,T,T,T,T,T,T,T,T,T,T,T,T,T,T,T,T,T,T,T,T] (any_of HT_.out (by kernel_rfl)) ?_
       refine done_ (done_of HT_.out (by kernel_rfl)) ?_
       try go_wp2
       go_ret
       exact ⟨by first | rfl | (simp [*, errW_none, errW_some] <;> rfl), by exact hopb HB.out⟩
     ·rw [if_neg c4] at H
      exact absurd H (by simp)
    ·rw [if_neg c3] at H
     have c3b0 : decide (x3_1 < (l0.length : Int)) = false := decide_eq_false c3
     clear c3
     obtain rfl := Option.some.inj H
     go_wp2
     go_ret
     exact ⟨by first | rfl | (simp [*, errW_none, errW_some] <;> rfl), by exact hopb HB.out⟩

end Go.Proofs.Ytengnnhehjcfhaa.PFnPagesPut
