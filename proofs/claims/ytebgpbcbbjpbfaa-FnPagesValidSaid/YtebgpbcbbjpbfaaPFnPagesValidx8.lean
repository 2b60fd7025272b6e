-- Written for this claim by a program of this session (wip/myprint in the proofs' repo)
import Derived.Test.YtebgpbcbbjpbfaaPFnPagesValidx0
import Derived.Test.YtebgpbcbbjpbfaaPFnPagesValidx3
import Derived.Test.YtebgpbcbbjpbfaaPFnPagesValidx5
import Derived.Test.YtebgpbcbbjpbfaaWZip
-- slim2
namespace Go.Proofs.Ytebgpbcbbjpbfaa.PFnPagesValid
open Go.RowKit Go.Proofs.YtebgpbcbbjpbfaaW.PrintWords Go.Proofs.YtebgpbcbbjpbfaaW.PrintLast Go.Proofs.YtebgpbcbbjpbfaaW.PrintMore
attribute [local go_sem] max2_int min2_int max_two min_two max_three min_three max_four min_four max2_strs min2_strs   -- for this text's walks alone
set_option linter.unusedVariables false
set_option linter.unusedSimpArgs false

/-! ### spec_PairDrop: function 87 -/
def spec_PairDrop.f (k : Nat) (l0 : List (S71)) (a1 : ByteArray) : Option ((List (S71)) × Bool) := (some (([] : List (S71)) : List (S71))).bind fun y339 => ((spec_PairsValid.f k l0).bind fun t342 => (if t342 = true then ((spec_l4Place.f k l0 a1).bind fun t343 => (if t343 = (l0.length : Int) then (if y339.length + l0.length < 5864062014805 then (some ((y339 ++ l0), false)) else (none)) else (if 0 ≤ t343 then (if t343 < (l0.length : Int) then (if ((rd_T71 l0 t343).f0).toList = a1.toList then (if t343 ≤ (l0.length : Int) then ((some (l0.take (t343 : Int).toNat : List (S71))).bind fun y348 => (if y339.length + y348.length < 5864062014805 then ((some (y339 ++ y348 : List (S71))).bind fun y352 => (if 0 ≤ (wrap64 (t343 + 1)) then (if (wrap64 (t343 + 1)) ≤ (l0.length : Int) then ((some (l0.drop ((wrap64 (t343 + 1)) : Int).toNat : List (S71))).bind fun y355 => (if y352.length + y355.length < 5864062014805 then (some ((y352 ++ y355), true)) else (none))) else (none)) else (none))) else (none))) else (none)) else (if y339.length + l0.length < 5864062014805 then (some ((y339 ++ l0), false)) else (none))) else (none)) else (none)))) else (some (y339, false))))
theorem spec_PairDrop.mono : ∀ a0 a1 k, LeO (spec_PairDrop.f k a0 a1) (spec_PairDrop.f (k + 1) a0 a1) := by
 intro a0 a1 k
 unfold spec_PairDrop.f
 repeat' first
   | (with_reducible exact spec_PairsValid.mono _ _)
   | (with_reducible exact spec_l4Place.mono _ _ _)
   | (with_reducible exact LeO.refl _)
   | (with_reducible exact LeO.none _)
   | (with_reducible refine LeO.ite ?_ ?_)
   | (with_reducible refine LeO.bind ?_ (fun _ => ?_))
   | exact spec_PairsValid.mono _ _
   | exact spec_l4Place.mono _ _ _
   | exact LeO.none _
   | refine LeO.ite ?_ ?_
   | refine LeO.bind ?_ (fun _ => ?_)
set_option maxHeartbeats 8000000 in
set_option maxRecDepth 100000 in
theorem spec_PairDrop.calls (k : Nat) (A0 : Option Addr) (c0 : Nat) (l0 : List (S71)) (a1 : ByteArray) (r1 : List (S71)) (r2 : Bool) (w : World) (hr0 : Kd.C k71 w A0 l0.length l0) (hc0 : l0.length ≤ c0) (h : spec_PairDrop.f k l0 a1 = some (r1, r2)) :
  Calls Try.prog 87 #[.slice A0 l0.length c0, .string a1] w fun e w' => ∃ v0_ : Value, e = .returned (.tuple #[v0_, .bool r2]) ∧ Kd.R k71 71 w' w.heap.size (fun _ => True) v0_ r1 ∧ Below w.heap.size w w' := by
 have HR0 := ak hr0
 have HC0 := ak hc0
 clear hr0 hc0
 have HB := ak (Below.refl w.heap.size w)
 have H : ((some (([] : List (S71)) : List (S71))).bind fun y339 => ((spec_PairsValid.f k l0).bind fun t342 => (if t342 = true then ((spec_l4Place.f k l0 a1).bind fun t343 => (if t343 = (l0.length : Int) then (if y339.length + l0.length < 5864062014805 then (some ((y339 ++ l0), false)) else (none)) else (if 0 ≤ t343 then (if t343 < (l0.length : Int) then (if ((rd_T71 l0 t343).f0).toList = a1.toList then (if t343 ≤ (l0.length : Int) then ((some (l0.take (t343 : Int).toNat : List (S71))).bind fun y348 => (if y339.length + y348.length < 5864062014805 then ((some (y339 ++ y348 : List (S71))).bind fun y352 => (if 0 ≤ (wrap64 (t343 + 1)) then (if (wrap64 (t343 + 1)) ≤ (l0.length : Int) then ((some (l0.drop ((wrap64 (t343 + 1)) : Int).toNat : List (S71))).bind fun y355 => (if y352.length + y355.length < 5864062014805 then (some ((y352 ++ y355), true)) else (none))) else (none)) else (none))) else (none))) else (none)) else (if y339.length + l0.length < 5864062014805 then (some ((y339 ++ l0), false)) else (none))) else (none)) else (none)))) else (some (y339, false))))) = some (r1, r2) := h
 clear h
 obtain ⟨y339, hy339⟩ : ∃ y_ : List (S71), y_ = (([] : List (S71))) := ⟨_, rfl⟩
 replace H : ((spec_PairsValid.f k l0).bind fun t342 => (if t342 = true then ((spec_l4Place.f k l0 a1).bind fun t343 => (if t343 = (l0.length : Int) then (if y339.length + l0.length < 5864062014805 then (some ((y339 ++ l0), false)) else (none)) else (if 0 ≤ t343 then (if t343 < (l0.length : Int) then (if ((rd_T71 l0 t343).f0).toList = a1.toList then (if t343 ≤ (l0.length : Int) then ((some (l0.take (t343 : Int).toNat : List (S71))).bind fun y348 => (if y339.length + y348.length < 5864062014805 then ((some (y339 ++ y348 : List (S71))).bind fun y352 => (if 0 ≤ (wrap64 (t343 + 1)) then (if (wrap64 (t343 + 1)) ≤ (l0.length : Int) then ((some (l0.drop ((wrap64 (t343 + 1)) : Int).toNat : List (S71))).bind fun y355 => (if y352.length + y355.length < 5864062014805 then (some ((y352 ++ y355), true)) else (none))) else (none)) else (none))) else (none))) else (none)) else (if y339.length + l0.length < 5864062014805 then (some ((y339 ++ l0), false)) else (none))) else (none)) else (none)))) else (some (y339, false)))) = some (r1, r2) := by first | (rw [hy339]; exact H) | exact H
 have Ny339 := ak hy339
 clear hy339
 replace H := Option.bind_eq_some_iff.mp H
 obtain ⟨t342, A30, H⟩ := H
 try dsimp only at H
 have A3 := ak A30
 clear A30
 by_cases c4 : t342 = true
 ·subst c4
  rw [if_pos rfl] at H
  replace H := Option.bind_eq_some_iff.mp H
  obtain ⟨t343, A50, H⟩ := H
  try dsimp only at H
  have A5 := ak A50
  clear A50
  by_cases c6 : t343 = (l0.length : Int)
  ·rw [if_pos c6] at H
   have c6b0 : (t343 == (l0.length : Int)) = true := beq_iff_eq.mpr c6
   have c6b1 : (t343 != (l0.length : Int)) = false := bne_eq_false_iff_eq.mpr c6
   clear c6
   by_cases c7 : y339.length + l0.length < 5864062014805
   ·rw [if_pos c7] at H
    have LMc7 := ak c7
    clear c7
    obtain ⟨y344, hy344⟩ : ∃ y_ : List (S71), y_ = (y339 ++ l0) := ⟨_, rfl⟩
    replace H : (some (y344, false)) = some (r1, r2) := by first | (rw [hy344]; exact H) | exact H
    have Ny344 := ak hy344
    clear hy344
    simp only [Option.some.injEq, Prod.mk.injEq] at H
    obtain ⟨rfl, rfl⟩ := H
    go_enter Try.func87, Try.ntmps87
    go_wp2_with (first | ((with_reducible refine gate_dst (N := 8) rfl ?_); refine Kd.R_lit k71 _ 71 ?hg (N := 8) ?hd (xs := ([] : List (S71))) (inner := []) (ok := fun _ => True) (okp := fun _ => True) ?hr ?hp (fun _ hk => hk) trivial (Below.refl _ _) (Nat.le_refl _) (by simp) ?_; (case hd => rfl); (case hg => rfl); (case hr => first | (go_simp; done) | (go_simp; rfl)); (case hp => exact (Reps.none _ _)); intro v340 w8 ho9 hb hg_ hnew_; clear hg_ hnew_; (first | rw [← Ny339.out] at ho9 | (simp only [Int.reduceToNat] at ho9; rw [← Ny339.out] at ho9)); have HO341 := ak (Kd.R_lower ho9 (below_size (by exact hopb HB.out))); replace HB := ak (below_step (by exact hopb HB.out) hb); clear hb ho9) | ((with_reducible refine gate_callee (f := 69) rfl ?_); refine goesL_ (some 10) rfl rfl Try.func69 (by kernel_rfl) rfl #[.slice A0 l0.length c0] rfl (by (try simp only [List.map_toArray, List.map_cons, List.map_nil]); first | done | rfl | (simp only [List.length_drop, List.length_take]; rfl)) ?_; (with_reducible refine (spec_PairsValid.calls k _ _ l0 true _ ?side1 ?side2 A3.out).mono ?_); (case side1 => repeat (first | exact (Kd.C_below HR0.out HB.out) | (with_reducible refine Kd.C_alloc ?_ _) | (with_reducible refine Kd.C_drewN ?_ _) | (with_reducible refine Kd.C_drew ?_))); (case side2 => exact HC0.out); rintro e w10 ⟨rfl, hb⟩; refine ⟨_, rfl, ?_⟩; replace HO341 := ak (Kd.R_below (by (with_reducible repeat (first | apply Kd.R_alloc | apply Kd.R_drewN | apply Kd.R_drew)); exact HO341.out) hb); replace HB := ak (below_step (by exact hopb HB.out) hb); (try clear hb)) | ((with_reducible refine gate_callee (f := 107) rfl ?_); refine goesL_ (some 15) rfl rfl Try.func107 (by kernel_rfl) rfl #[.slice A0 l0.length c0, .string a1] rfl (by (try simp only [List.map_toArray, List.map_cons, List.map_nil]); first | done | rfl | (simp only [List.length_drop, List.length_take]; rfl)) ?_; (with_reducible refine (spec_l4Place.calls k _ _ l0 a1 t343 _ ?side1 ?side2 A5.out).mono ?_); (case side1 => repeat (first | exact (Kd.C_below HR0.out HB.out) | (with_reducible refine Kd.C_alloc ?_ _) | (with_reducible refine Kd.C_drewN ?_ _) | (with_reducible refine Kd.C_drew ?_))); (case side2 => exact HC0.out); rintro e w' ⟨rfl, ⟨nd, rfl⟩⟩; refine ⟨_, rfl, ?_⟩) | ((with_reducible refine gate_builtin (b := .append) (xs := #[.tmp 29, .tmp 30]) rfl ?_); at_builtin; refine Kd.R_append_rows k71 (w0 := w) w.heap.size rfl (.tmp 29) (.tmp 30) 32 71 (.agg #[(.string ⟨#[]⟩), (.int .i64 0)]) 24 rfl Try.underlying32 info71 rfl (by decide) (by omega) v340 y339 l0 _ _ _ (fun _ => True) (fun _ => False) rfl rfl ?aO ?aR (fun _ _ h => h) (fun _ h => h.elim) ?aF ?aB ?aS ?aL ?_; (case aR => repeat (first | exact (Kd.C_below HR0.out (by exact hopb HB.out)) | (with_reducible refine Kd.C_alloc ?_ _) | (with_reducible refine Kd.C_drewN ?_ _) | (with_reducible refine Kd.C_drew ?_))); (case aB => exact (by exact hopb HB.out)); (case aF => exact (fun _ _ => trivial)); (case aO => exact (by (with_reducible repeat (first | apply Kd.R_alloc | apply Kd.R_drewN | apply Kd.R_drew)); exact HO341.out)); (case aS => exact (below_size (by exact hopb HB.out))); (case aL => have := LMc7.out; omega); intro v345 w11 ho hb hg hat; rw [← Ny344.out] at ho; replace HB := ak (hb); have HO346 := ak (ho); clear HO341; clear ho hb hg hat))
    go_ret2
    exact ⟨_, by first | rfl | (simp only [u8_w_, w64_u8_] <;> rfl) | (simp [errW_none, errW_some] <;> rfl) | (simp [*, errW_none, errW_some] <;> rfl), by (with_reducible repeat (first | apply Kd.R_alloc | apply Kd.R_drewN | apply Kd.R_drew)); exact HO346.out, by repeat (first | (with_reducible first | exact HB.out | apply bA | apply bN | apply bD) | exact HB.out)⟩
   ·rw [if_neg c7] at H
    exact absurd H (by simp)
  ·rw [if_neg c6] at H
   have c6b0 : (t343 == (l0.length : Int)) = false := beq_eq_false_iff_ne.mpr c6
   have c6b1 : (t343 != (l0.length : Int)) = true := bne_iff_ne.mpr c6
   by_cases c12 : 0 ≤ t343
   ·rw [if_pos c12] at H
    have c12b0 : decide (0 ≤ t343) = true := decide_eq_true c12
    clear c12
    by_cases c13 : t343 < (l0.length : Int)
    ·rw [if_pos c13] at H
     have c13b0 : decide (t343 < (l0.length : Int)) = true := decide_eq_true c13
     clear c13
     by_cases c14 : ((rd_T71 l0 t343).f0).toList = a1.toList
     ·rw [if_pos c14] at H
      have c14b0 : (((rd_T71 l0 t343).f0).toList == a1.toList) = true := beq_iff_eq.mpr c14
      have c14b1 : (((rd_T71 l0 t343).f0).toList != a1.toList) = false := bne_eq_false_iff_eq.mpr c14
      clear c14
      have c15b0 := eq_true (of_decide_eq_true (by assumption) : 0 ≤ t343)
      by_cases c16 : t343 ≤ (l0.length : Int)
      ·rw [if_pos c16] at H
       have c16b0 := eq_true c16
       have c16b1 : decide (t343 ≤ (l0.length : Int)) = true := decide_eq_true c16
       clear c16
       obtain ⟨y348, hy348⟩ : ∃ y_ : List (S71), y_ = (l0.take (t343 : Int).toNat) := ⟨_, rfl⟩
       replace H : (if y339.length + y348.length < 5864062014805 then ((some (y339 ++ y348 : List (S71))).bind fun y352 => (if 0 ≤ (wrap64 (t343 + 1)) then (if (wrap64 (t343 + 1)) ≤ (l0.length : Int) then ((some (l0.drop ((wrap64 (t343 + 1)) : Int).toNat : List (S71))).bind fun y355 => (if y352.length + y355.length < 5864062014805 then (some ((y352 ++ y355), true)) else (none))) else (none)) else (none))) else (none)) = some (r1, r2) := by first | (rw [hy348]; exact H) | exact H
       have Ny348 := ak hy348
       clear hy348
       by_cases c17 : y339.length + y348.length < 5864062014805
       ·rw [if_pos c17] at H
        have LMc17 := ak c17
        clear c17
        obtain ⟨y352, hy352⟩ : ∃ y_ : List (S71), y_ = (y339 ++ y348) := ⟨_, rfl⟩
        replace H : (if 0 ≤ (wrap64 (t343 + 1)) then (if (wrap64 (t343 + 1)) ≤ (l0.length : Int) then ((some (l0.drop ((wrap64 (t343 + 1)) : Int).toNat : List (S71))).bind fun y355 => (if y352.length + y355.length < 5864062014805 then (some ((y352 ++ y355), true)) else (none))) else (none)) else (none)) = some (r1, r2) := by first | (rw [hy352]; exact H) | exact H
        have Ny352 := ak hy352
        clear hy352
        obtain ⟨ji18, hji18⟩ : ∃ j_ : Int, (wrap64 (t343 + 1)) = j_ := ⟨_, rfl⟩
        replace H : (if 0 ≤ (ji18) then (if (ji18) ≤ (l0.length : Int) then ((some (l0.drop ((ji18) : Int).toNat : List (S71))).bind fun y355 => (if y352.length + y355.length < 5864062014805 then (some ((y352 ++ y355), true)) else (none))) else (none)) else (none)) = some (r1, r2) := by first | (rw [hji18] at H; exact H) | (simp only [hji18] at H ⊢; exact H)
        (try rw [hji18] at A3)
        (try rw [hji18] at A5)
        have hji18w : (IntKind.i64.wrap (t343 + 1)) = ji18 := (i64_w _).trans hji18
        by_cases c19 : 0 ≤ (ji18)
        ·rw [if_pos c19] at H
         have c19b0 := eq_true c19
         have c19b1 : decide (0 ≤ (ji18)) = true := decide_eq_true c19
         clear c19
         by_cases c20 : (ji18) ≤ (l0.length : Int)
         ·rw [if_pos c20] at H
          have c20b0 := eq_true c20
          have c20b1 : decide ((ji18) ≤ (l0.length : Int)) = true := decide_eq_true c20
          clear c20
          obtain ⟨y355, hy355⟩ : ∃ y_ : List (S71), y_ = (l0.drop ((ji18) : Int).toNat) := ⟨_, rfl⟩
          replace H : (if y352.length + y355.length < 5864062014805 then (some ((y352 ++ y355), true)) else (none)) = some (r1, r2) := by first | (rw [hy355]; exact H) | exact H
          have Ny355 := ak hy355
          clear hy355
          by_cases c21 : y352.length + y355.length < 5864062014805
          ·rw [if_pos c21] at H
           have LMc21 := ak c21
           clear c21
           obtain ⟨y359, hy359⟩ : ∃ y_ : List (S71), y_ = (y352 ++ y355) := ⟨_, rfl⟩
           replace H : (some (y359, true)) = some (r1, r2) := by first | (rw [hy359]; exact H) | exact H
           have Ny359 := ak hy359
           clear hy359
           simp only [Option.some.injEq, Prod.mk.injEq] at H
           obtain ⟨rfl, rfl⟩ := H
           go_enter Try.func87, Try.ntmps87
           go_wp2_with (first | ((with_reducible refine gate_dst (N := 8) rfl ?_); refine Kd.R_lit k71 _ 71 ?hg (N := 8) ?hd (xs := ([] : List (S71))) (inner := []) (ok := fun _ => True) (okp := fun _ => True) ?hr ?hp (fun _ hk => hk) trivial (Below.refl _ _) (Nat.le_refl _) (by simp) ?_; (case hd => rfl); (case hg => rfl); (case hr => first | (go_simp; done) | (go_simp; rfl)); (case hp => exact (Reps.none _ _)); intro v340 w22 ho23 hb hg_ hnew_; clear hg_ hnew_; (first | rw [← Ny339.out] at ho23 | (simp only [Int.reduceToNat] at ho23; rw [← Ny339.out] at ho23)); have HO341 := ak (Kd.R_lower ho23 (below_size (by exact hopb HB.out))); replace HB := ak (below_step (by exact hopb HB.out) hb); clear hb ho23) | ((with_reducible refine gate_callee (f := 69) rfl ?_); refine goesL_ (some 10) rfl rfl Try.func69 (by kernel_rfl) rfl #[.slice A0 l0.length c0] rfl (by (try simp only [List.map_toArray, List.map_cons, List.map_nil]); first | done | rfl | (simp only [List.length_drop, List.length_take]; rfl)) ?_; (with_reducible refine (spec_PairsValid.calls k _ _ l0 true _ ?side1 ?side2 A3.out).mono ?_); (case side1 => repeat (first | exact (Kd.C_below HR0.out HB.out) | (with_reducible refine Kd.C_alloc ?_ _) | (with_reducible refine Kd.C_drewN ?_ _) | (with_reducible refine Kd.C_drew ?_))); (case side2 => exact HC0.out); rintro e w24 ⟨rfl, hb⟩; refine ⟨_, rfl, ?_⟩; replace HO341 := ak (Kd.R_below (by (with_reducible repeat (first | apply Kd.R_alloc | apply Kd.R_drewN | apply Kd.R_drew)); exact HO341.out) hb); replace HB := ak (below_step (by exact hopb HB.out) hb); (try clear hb)) | ((with_reducible refine gate_callee (f := 107) rfl ?_); refine goesL_ (some 15) rfl rfl Try.func107 (by kernel_rfl) rfl #[.slice A0 l0.length c0, .string a1] rfl (by (try simp only [List.map_toArray, List.map_cons, List.map_nil]); first | done | rfl | (simp only [List.length_drop, List.length_take]; rfl)) ?_; (with_reducible refine (spec_l4Place.calls k _ _ l0 a1 t343 _ ?side1 ?side2 A5.out).mono ?_); (case side1 => repeat (first | exact (Kd.C_below HR0.out HB.out) | (with_reducible refine Kd.C_alloc ?_ _) | (with_reducible refine Kd.C_drewN ?_ _) | (with_reducible refine Kd.C_drew ?_))); (case side2 => exact HC0.out); rintro e w' ⟨rfl, ⟨nd, rfl⟩⟩; refine ⟨_, rfl, ?_⟩; have p347 : 0 ≤ (t343 : Int) := of_decide_eq_true (by assumption); have q347 : t343 < (l0.length : Int) := of_decide_eq_true (by assumption); obtain ⟨ad347, e347, hx347_0, hx347_1⟩ := at_T71 HR0.out t343 p347 q347; cases e347; replace hx347_0 := (HB.out.cell (World.block_lt_of_cell? w _ hx347_0)).trans hx347_0; replace hx347_1 := (HB.out.cell (World.block_lt_of_cell? w _ hx347_1)).trans hx347_1; replace p347 := eq_true p347; replace q347 := eq_true q347; have q25 : (t343 : Int) ≤ ((l0.length : Int) : Int) := of_decide_eq_true (by assumption); obtain ⟨i025, hi025, _, hsz25, _⟩ := info_parts info71; have hroom25 : l0.length ≤ c0 := HC0.out; have hC25 : Kd.C k71 _ (some ad347) l0.length l0 := HR0.out; have hcut25 := cut_to (P := Try.prog) 32 71 .i64 Try.underlying32 hi025 (some ad347) l0.length c0 t343 (of_decide_eq_true (by assumption)) q25 hroom25; have hr25 := Kd.C_take (m := (t343 : Int).toNat) hC25 (by omega); have hy25 : y348.length = (t343 : Int).toNat := (by rw [Ny348.out, List.length_take]; omega); rw [← Ny348.out] at hr25; rw [← hy25] at hcut25; have HR351 := ak hr25; have HC351 := ak (show y348.length ≤ c0 from by omega); clear hr25 hC25 hroom25 hi025 hsz25; have KY25 := ak hy25; clear hy25; replace q25 := eq_true q25) | ((with_reducible refine gate_builtin (b := .append) (xs := #[.tmp 32, .tmp 35]) rfl ?_); at_builtin; refine Kd.R_append_rows k71 (w0 := w) w.heap.size rfl (.tmp 32) (.tmp 35) 32 71 (.agg #[(.string ⟨#[]⟩), (.int .i64 0)]) 24 rfl Try.underlying32 info71 rfl (by decide) (by omega) v340 y339 y348 _ _ _ (fun _ => True) (fun _ => False) rfl rfl ?aO ?aR (fun _ _ h => h) (fun _ h => h.elim) ?aF ?aB ?aS ?aL ?_; (case aR => repeat (first | exact (Kd.C_below HR351.out (by exact hopb HB.out)) | (with_reducible refine Kd.C_alloc ?_ _) | (with_reducible refine Kd.C_drewN ?_ _) | (with_reducible refine Kd.C_drew ?_))); (case aB => exact (by exact hopb HB.out)); (case aF => exact (fun _ _ => trivial)); (case aO => exact (by (with_reducible repeat (first | apply Kd.R_alloc | apply Kd.R_drewN | apply Kd.R_drew)); exact HO341.out)); (case aS => exact (below_size (by exact hopb HB.out))); (case aL => have := LMc17.out; omega); intro v353 w26 ho hb hg hat; rw [← Ny352.out] at ho; replace HB := ak (hb); have HO354 := ak (ho); clear HO341; clear ho hb hg hat; have q27 : ((ji18) : Int) ≤ ((l0.length : Int) : Int) := of_decide_eq_true (by assumption); obtain ⟨i027, hi027, _, hsz27, _⟩ := info_parts info71; have hroom27 : l0.length ≤ c0 := HC0.out; have hC27 : Kd.C k71 _ (some ad347) l0.length l0 := HR0.out; have q027 : (0 : Int) ≤ ((ji18) : Int) := of_decide_eq_true (by assumption); have hcut27 := cut_from (P := Try.prog) 32 71 .i64 Try.underlying32 hi027 2 hsz27 (some ad347) l0.length c0 (ji18) q027 q27; have hr27 := Kd.C_drop (m := ((ji18) : Int).toNat) (c := c0) hC27 (by omega) hroom27; obtain ⟨A27, hA27⟩ : ∃ A1, A1 = (if c0 = ((ji18) : Int).toNat then (some ad347) else ((some ad347) : Option Addr).map (·.add (((ji18) : Int).toNat * 2))) := ⟨_, rfl⟩; obtain ⟨c27, hc27⟩ : ∃ c1, c1 = c0 - ((ji18) : Int).toNat := ⟨_, rfl⟩; have hy27 : y355.length = l0.length - ((ji18) : Int).toNat := (by rw [Ny355.out, List.length_drop] <;> omega); rw [show (l0).drop ((ji18) : Int).toNat = y355 from Ny355.out.symm] at hr27; replace hr27 : Kd.C k71 _ A27 y355.length y355 := (by rw [hA27]; exact hr27); rw [← hy27, ← hA27, ← hc27] at hcut27; have HR358 := ak hr27; have HC358 := ak (show y355.length ≤ c27 from by rw [hy27, hc27]; exact Nat.sub_le_sub_right hroom27 _); clear hr27 hC27 hroom27 hi027 hsz27 hc27; have KY27 := ak hy27; have KA27 := ak hA27; clear hy27 hA27; replace q27 := eq_true q27) | ((with_reducible refine gate_builtin (b := .append) (xs := #[.tmp 37, .tmp 41]) rfl ?_); at_builtin; refine Kd.R_append_rows k71 (w0 := w) w.heap.size rfl (.tmp 37) (.tmp 41) 32 71 (.agg #[(.string ⟨#[]⟩), (.int .i64 0)]) 24 rfl Try.underlying32 info71 rfl (by decide) (by omega) v353 y352 y355 _ _ _ (fun _ => True) (fun _ => False) rfl rfl ?aO ?aR (fun _ _ h => h) (fun _ h => h.elim) ?aF ?aB ?aS ?aL ?_; (case aR => repeat (first | exact (Kd.C_below HR358.out HB.out) | (with_reducible refine Kd.C_alloc ?_ _) | (with_reducible refine Kd.C_drewN ?_ _) | (with_reducible refine Kd.C_drew ?_))); (case aB => exact (by exact hopb HB.out)); (case aF => exact (fun _ _ => trivial)); (case aO => exact (by (with_reducible repeat (first | apply Kd.R_alloc | apply Kd.R_drewN | apply Kd.R_drew)); exact HO354.out)); (case aS => exact (below_size (by exact hopb HB.out))); (case aL => have := LMc21.out; omega); intro v360 w28 ho hb hg hat; rw [← Ny359.out] at ho; replace HB := ak (hb); have HO361 := ak (ho); clear HO354; clear ho hb hg hat))
           go_ret2
           exact ⟨_, by first | rfl | (simp only [u8_w_, w64_u8_] <;> rfl) | (simp [errW_none, errW_some] <;> rfl) | (simp only [← hji18]; first | rfl | (simp [errW_none, errW_some] <;> rfl)) | (simp [*, errW_none, errW_some] <;> rfl), by (with_reducible repeat (first | apply Kd.R_alloc | apply Kd.R_drewN | apply Kd.R_drew)); exact HO361.out, by repeat (first | (with_reducible first | exact HB.out | apply bA | apply bN | apply bD) | exact HB.out)⟩
          ·rw [if_neg c21] at H
           exact absurd H (by simp)
         ·rw [if_neg c20] at H
          exact absurd H (by simp)
        ·rw [if_neg c19] at H
         exact absurd H (by simp)
       ·rw [if_neg c17] at H
        exact absurd H (by simp)
      ·rw [if_neg c16] at H
       exact absurd H (by simp)
     ·rw [if_neg c14] at H
      have c14b0 : (((rd_T71 l0 t343).f0).toList == a1.toList) = false := beq_eq_false_iff_ne.mpr c14
      have c14b1 : (((rd_T71 l0 t343).f0).toList != a1.toList) = true := bne_iff_ne.mpr c14
      by_cases c29 : y339.length + l0.length < 5864062014805
      ·rw [if_pos c29] at H
       have LMc29 := ak c29
       clear c29
       obtain ⟨y362, hy362⟩ : ∃ y_ : List (S71), y_ = (y339 ++ l0) := ⟨_, rfl⟩
       replace H : (some (y362, false)) = some (r1, r2) := by first | (rw [hy362]; exact H) | exact H
       have Ny362 := ak hy362
       clear hy362
       simp only [Option.some.injEq, Prod.mk.injEq] at H
       obtain ⟨rfl, rfl⟩ := H
       go_enter Try.func87, Try.ntmps87
       go_wp2_with (first | ((with_reducible refine gate_dst (N := 8) rfl ?_); refine Kd.R_lit k71 _ 71 ?hg (N := 8) ?hd (xs := ([] : List (S71))) (inner := []) (ok := fun _ => True) (okp := fun _ => True) ?hr ?hp (fun _ hk => hk) trivial (Below.refl _ _) (Nat.le_refl _) (by simp) ?_; (case hd => rfl); (case hg => rfl); (case hr => first | (go_simp; done) | (go_simp; rfl)); (case hp => exact (Reps.none _ _)); intro v340 w30 ho31 hb hg_ hnew_; clear hg_ hnew_; (first | rw [← Ny339.out] at ho31 | (simp only [Int.reduceToNat] at ho31; rw [← Ny339.out] at ho31)); have HO341 := ak (Kd.R_lower ho31 (below_size (by exact hopb HB.out))); replace HB := ak (below_step (by exact hopb HB.out) hb); clear hb ho31) | ((with_reducible refine gate_callee (f := 69) rfl ?_); refine goesL_ (some 10) rfl rfl Try.func69 (by kernel_rfl) rfl #[.slice A0 l0.length c0] rfl (by (try simp only [List.map_toArray, List.map_cons, List.map_nil]); first | done | rfl | (simp only [List.length_drop, List.length_take]; rfl)) ?_; (with_reducible refine (spec_PairsValid.calls k _ _ l0 true _ ?side1 ?side2 A3.out).mono ?_); (case side1 => repeat (first | exact (Kd.C_below HR0.out HB.out) | (with_reducible refine Kd.C_alloc ?_ _) | (with_reducible refine Kd.C_drewN ?_ _) | (with_reducible refine Kd.C_drew ?_))); (case side2 => exact HC0.out); rintro e w32 ⟨rfl, hb⟩; refine ⟨_, rfl, ?_⟩; replace HO341 := ak (Kd.R_below (by (with_reducible repeat (first | apply Kd.R_alloc | apply Kd.R_drewN | apply Kd.R_drew)); exact HO341.out) hb); replace HB := ak (below_step (by exact hopb HB.out) hb); (try clear hb)) | ((with_reducible refine gate_callee (f := 107) rfl ?_); refine goesL_ (some 15) rfl rfl Try.func107 (by kernel_rfl) rfl #[.slice A0 l0.length c0, .string a1] rfl (by (try simp only [List.map_toArray, List.map_cons, List.map_nil]); first | done | rfl | (simp only [List.length_drop, List.length_take]; rfl)) ?_; (with_reducible refine (spec_l4Place.calls k _ _ l0 a1 t343 _ ?side1 ?side2 A5.out).mono ?_); (case side1 => repeat (first | exact (Kd.C_below HR0.out HB.out) | (with_reducible refine Kd.C_alloc ?_ _) | (with_reducible refine Kd.C_drewN ?_ _) | (with_reducible refine Kd.C_drew ?_))); (case side2 => exact HC0.out); rintro e w' ⟨rfl, ⟨nd, rfl⟩⟩; refine ⟨_, rfl, ?_⟩; have p347 : 0 ≤ (t343 : Int) := of_decide_eq_true (by assumption); have q347 : t343 < (l0.length : Int) := of_decide_eq_true (by assumption); obtain ⟨ad347, e347, hx347_0, hx347_1⟩ := at_T71 HR0.out t343 p347 q347; cases e347; replace hx347_0 := (HB.out.cell (World.block_lt_of_cell? w _ hx347_0)).trans hx347_0; replace hx347_1 := (HB.out.cell (World.block_lt_of_cell? w _ hx347_1)).trans hx347_1; replace p347 := eq_true p347; replace q347 := eq_true q347) | ((with_reducible refine gate_builtin (b := .append) (xs := #[.tmp 29, .tmp 30]) rfl ?_); at_builtin; refine Kd.R_append_rows k71 (w0 := w) w.heap.size rfl (.tmp 29) (.tmp 30) 32 71 (.agg #[(.string ⟨#[]⟩), (.int .i64 0)]) 24 rfl Try.underlying32 info71 rfl (by decide) (by omega) v340 y339 l0 _ _ _ (fun _ => True) (fun _ => False) rfl rfl ?aO ?aR (fun _ _ h => h) (fun _ h => h.elim) ?aF ?aB ?aS ?aL ?_; (case aR => repeat (first | exact (Kd.C_below HR0.out (by exact hopb HB.out)) | (with_reducible refine Kd.C_alloc ?_ _) | (with_reducible refine Kd.C_drewN ?_ _) | (with_reducible refine Kd.C_drew ?_))); (case aB => exact (by exact hopb HB.out)); (case aF => exact (fun _ _ => trivial)); (case aO => exact (by (with_reducible repeat (first | apply Kd.R_alloc | apply Kd.R_drewN | apply Kd.R_drew)); exact HO341.out)); (case aS => exact (below_size (by exact hopb HB.out))); (case aL => have := LMc29.out; omega); intro v363 w33 ho hb hg hat; rw [← Ny362.out] at ho; replace HB := ak (hb); have HO364 := ak (ho); clear HO341; clear ho hb hg hat))
       go_ret2
       exact ⟨_, by first | rfl | (simp only [u8_w_, w64_u8_] <;> rfl) | (simp [errW_none, errW_some] <;> rfl) | (simp [*, errW_none, errW_some] <;> rfl), by (with_reducible repeat (first | apply Kd.R_alloc | apply Kd.R_drewN | apply Kd.R_drew)); exact HO364.out, by repeat (first | (with_reducible first | exact HB.out | apply bA | apply bN | apply bD) | exact HB.out)⟩
      ·rw [if_neg c29] at H
       exact absurd H (by simp)
    ·rw [if_neg c13] at H
     exact absurd H (by simp)
   ·rw [if_neg c12] at H
    exact absurd H (by simp)
 ·replace c4 := Bool.eq_false_iff.mpr c4
  subst c4
  rw [if_neg (show ¬ (false = true) by decide)] at H
  simp only [Option.some.injEq, Prod.mk.injEq] at H
  obtain ⟨rfl, rfl⟩ := H
  go_enter Try.func87, Try.ntmps87
  go_wp2_with (first | ((with_reducible refine gate_dst (N := 8) rfl ?_); refine Kd.R_lit k71 _ 71 ?hg (N := 8) ?hd (xs := ([] : List (S71))) (inner := []) (ok := fun _ => True) (okp := fun _ => True) ?hr ?hp (fun _ hk => hk) trivial (Below.refl _ _) (Nat.le_refl _) (by simp) ?_; (case hd => rfl); (case hg => rfl); (case hr => first | (go_simp; done) | (go_simp; rfl)); (case hp => exact (Reps.none _ _)); intro v340 w34 ho35 hb hg_ hnew_; clear hg_ hnew_; (first | rw [← Ny339.out] at ho35 | (simp only [Int.reduceToNat] at ho35; rw [← Ny339.out] at ho35)); have HO341 := ak (Kd.R_lower ho35 (below_size (by exact hopb HB.out))); replace HB := ak (below_step (by exact hopb HB.out) hb); clear hb ho35) | ((with_reducible refine gate_callee (f := 69) rfl ?_); refine goesL_ (some 10) rfl rfl Try.func69 (by kernel_rfl) rfl #[.slice A0 l0.length c0] rfl (by (try simp only [List.map_toArray, List.map_cons, List.map_nil]); first | done | rfl | (simp only [List.length_drop, List.length_take]; rfl)) ?_; (with_reducible refine (spec_PairsValid.calls k _ _ l0 false _ ?side1 ?side2 A3.out).mono ?_); (case side1 => repeat (first | exact (Kd.C_below HR0.out HB.out) | (with_reducible refine Kd.C_alloc ?_ _) | (with_reducible refine Kd.C_drewN ?_ _) | (with_reducible refine Kd.C_drew ?_))); (case side2 => exact HC0.out); rintro e w36 ⟨rfl, hb⟩; refine ⟨_, rfl, ?_⟩; replace HO341 := ak (Kd.R_below (by (with_reducible repeat (first | apply Kd.R_alloc | apply Kd.R_drewN | apply Kd.R_drew)); exact HO341.out) hb); replace HB := ak (below_step (by exact hopb HB.out) hb); (try clear hb)))
  go_ret2
  exact ⟨_, by first | rfl | (simp only [u8_w_, w64_u8_] <;> rfl) | (simp [errW_none, errW_some] <;> rfl) | (simp [*, errW_none, errW_some] <;> rfl), by (with_reducible repeat (first | apply Kd.R_alloc | apply Kd.R_drewN | apply Kd.R_drew)); exact HO341.out, by repeat (first | (with_reducible first | exact HB.out | apply bA | apply bN | apply bD) | exact HB.out)⟩

end Go.Proofs.Ytebgpbcbbjpbfaa.PFnPagesValid
