-- Written for this claim by a program of this session (wip/myprint in the proofs' repo)
import Derived.Test.YtebgpbcbbjpbfaaPFnPageFindx0
import Derived.Test.YtebgpbcbbjpbfaaPFnPageFindx4
import Derived.Test.YtebgpbcbbjpbfaaPFnPageFindx6
import Derived.Test.YtebgpbcbbjpbfaaWZip
-- slim3
namespace Go.Proofs.Ytebgpbcbbjpbfaa.PFnPageFind
open Go.RowKit Go.Proofs.YtebgpbcbbjpbfaaW.PrintWords Go.Proofs.YtebgpbcbbjpbfaaW.PrintLast Go.Proofs.YtebgpbcbbjpbfaaW.PrintMore
attribute [local go_sem] max2_int min2_int max_two min_two max_three min_three max_four min_four max2_strs min2_strs   -- for this text's walks alone
set_option linter.unusedVariables false
set_option linter.unusedSimpArgs false

/-! ### spec_PairDrop: function 87 -/
def spec_PairDrop.f (k : Nat) (l0 : List (S71)) (a1 : ByteArray) : Option ((List (S71)) × Bool) := (some (([] : List (S71)) : List (S71))).bind fun y349 => ((spec_PairsValid.f k l0).bind fun t352 => (if t352 = true then ((spec_l4Place.f k l0 a1).bind fun t353 => (if t353 = (l0.length : Int) then (if y349.length + l0.length < 5864062014805 then (some ((y349 ++ l0), false)) else (none)) else (if 0 ≤ t353 then (if t353 < (l0.length : Int) then (if ((rd_T71 l0 t353).f0).toList = a1.toList then (if t353 ≤ (l0.length : Int) then ((some (l0.take (t353 : Int).toNat : List (S71))).bind fun y358 => (if y349.length + y358.length < 5864062014805 then ((some (y349 ++ y358 : List (S71))).bind fun y362 => (if 0 ≤ (wrap64 (t353 + 1)) then (if (wrap64 (t353 + 1)) ≤ (l0.length : Int) then ((some (l0.drop ((wrap64 (t353 + 1)) : Int).toNat : List (S71))).bind fun y365 => (if y362.length + y365.length < 5864062014805 then (some ((y362 ++ y365), true)) else (none))) else (none)) else (none))) else (none))) else (none)) else (if y349.length + l0.length < 5864062014805 then (some ((y349 ++ l0), false)) else (none))) else (none)) else (none)))) else (some (y349, false))))
theorem spec_PairDrop.mono : ∀ a0 a1 k, LeO (spec_PairDrop.f k a0 a1) (spec_PairDrop.f (k + 1) a0 a1) := by
 intro a0 a1 k
 unfold spec_PairDrop.f
 repeat' first
   | (with_reducible exact spec_PairsValid.mono _ _)
   | (with_reducible exact spec_l4Place.mono _ _ _)
   | (with_reducible exact LeO.refl _)
   | (with_reducible exact LeO.none _)
   | (with_reducible refine LeO.ite ?_ ?_)
   | (with_reducible refine LeO.bind ?_ (fun _ => ?_))
   | exact LeO.none _
   | refine LeO.ite ?_ ?_
   | refine LeO.bind ?_ (fun _ => ?_)
set_option maxHeartbeats 8000000 in
set_option maxRecDepth 100000 in
theorem spec_PairDrop.calls (k : Nat) (A0 : Option Addr) (c0 : Nat) (l0 : List (S71)) (a1 : ByteArray) (r1 : List (S71)) (r2 : Bool) (w : World) (hr0 : Kd.C k71 w A0 l0.length l0) (hc0 : l0.length ≤ c0) (h : spec_PairDrop.f k l0 a1 = some (r1, r2)) :
  Calls Try.prog 87 #[.slice A0 l0.length c0, .string a1] w fun e w' => ∃ v0_ : Value, e = .returned (.tuple #[v0_, .bool r2]) ∧ Kd.R k71 71 w' w.heap.size (fun _ => True) v0_ r1 ∧ Below w.heap.size w w' := by
 have HR0 := ak hr0
 have HC0 := ak hc0
 clear hr0 hc0
 have HB := ak (Below.refl w.heap.size w)
 have H : ((some (([] : List (S71)) : List (S71))).bind fun y349 => ((spec_PairsValid.f k l0).bind fun t352 => (if t352 = true then ((spec_l4Place.f k l0 a1).bind fun t353 => (if t353 = (l0.length : Int) then (if y349.length + l0.length < 5864062014805 then (some ((y349 ++ l0), false)) else (none)) else (if 0 ≤ t353 then (if t353 < (l0.length : Int) then (if ((rd_T71 l0 t353).f0).toList = a1.toList then (if t353 ≤ (l0.length : Int) then ((some (l0.take (t353 : Int).toNat : List (S71))).bind fun y358 => (if y349.length + y358.length < 5864062014805 then ((some (y349 ++ y358 : List (S71))).bind fun y362 => (if 0 ≤ (wrap64 (t353 + 1)) then (if (wrap64 (t353 + 1)) ≤ (l0.length : Int) then ((some (l0.drop ((wrap64 (t353 + 1)) : Int).toNat : List (S71))).bind fun y365 => (if y362.length + y365.length < 5864062014805 then (some ((y362 ++ y365), true)) else (none))) else (none)) else (none))) else (none))) else (none)) else (if y349.length + l0.length < 5864062014805 then (some ((y349 ++ l0), false)) else (none))) else (none)) else (none)))) else (some (y349, false))))) = some (r1, r2) := h
 clear h
 obtain ⟨y349, hy349⟩ : ∃ y_ : List (S71), y_ = (([] : List (S71))) := ⟨_, rfl⟩
 replace H : ((spec_PairsValid.f k l0).bind fun t352 => (if t352 = true then ((spec_l4Place.f k l0 a1).bind fun t353 => (if t353 = (l0.length : Int) then (if y349.length + l0.length < 5864062014805 then (some ((y349 ++ l0), false)) else (none)) else (if 0 ≤ t353 then (if t353 < (l0.length : Int) then (if ((rd_T71 l0 t353).f0).toList = a1.toList then (if t353 ≤ (l0.length : Int) then ((some (l0.take (t353 : Int).toNat : List (S71))).bind fun y358 => (if y349.length + y358.length < 5864062014805 then ((some (y349 ++ y358 : List (S71))).bind fun y362 => (if 0 ≤ (wrap64 (t353 + 1)) then (if (wrap64 (t353 + 1)) ≤ (l0.length : Int) then ((some (l0.drop ((wrap64 (t353 + 1)) : Int).toNat : List (S71))).bind fun y365 => (if y362.length + y365.length < 5864062014805 then (some ((y362 ++ y365), true)) else (none))) else (none)) else (none))) else (none))) else (none)) else (if y349.length + l0.length < 5864062014805 then (some ((y349 ++ l0), false)) else (none))) else (none)) else (none)))) else (some (y349, false)))) = some (r1, r2) := by first | (rw [hy349]; exact H) | exact H
 have Ny349 := ak hy349
 clear hy349
 replace H := Option.bind_eq_some_iff.mp H
 obtain ⟨t352, A30, H⟩ := H
 try dsimp only at H
 have A3 := ak A30
 clear A30
 by_cases c4 : t352 = true
 ·subst c4
  rw [if_pos rfl] at H
  replace H := Option.bind_eq_some_iff.mp H
  obtain ⟨t353, A50, H⟩ := H
  try dsimp only at H
  have A5 := ak A50
  clear A50
  by_cases c6 : t353 = (l0.length : Int)
  ·rw [if_pos c6] at H
   have c6b0 : (t353 == (l0.length : Int)) = true := beq_iff_eq.mpr c6
   have c6b1 : (t353 != (l0.length : Int)) = false := bne_eq_false_iff_eq.mpr c6
   clear c6
   by_cases c7 : y349.length + l0.length < 5864062014805
   ·rw [if_pos c7] at H
    have LMc7 := ak c7
    clear c7
    obtain ⟨y354, hy354⟩ : ∃ y_ : List (S71), y_ = (y349 ++ l0) := ⟨_, rfl⟩
    replace H : (some (y354, false)) = some (r1, r2) := by first | (rw [hy354]; exact H) | exact H
    have Ny354 := ak hy354
    clear hy354
    simp only [Option.some.injEq, Prod.mk.injEq] at H
    obtain ⟨rfl, rfl⟩ := H
    go_enter Try.func87, Try.ntmps87
    go_wp2_with (first | ((with_reducible refine gate_dst (N := 8) rfl ?_); refine Kd.R_lit k71 _ 71 ?hg (N := 8) ?hd (xs := ([] : List (S71))) (inner := []) (ok := fun _ => True) (okp := fun _ => True) ?hr ?hp (fun _ hk => hk) trivial (Below.refl _ _) (Nat.le_refl _) (by simp) ?_; (case hd => rfl); (case hg => rfl); (case hr => first | (go_simp; done) | (go_simp; rfl)); (case hp => exact (Reps.none _ _)); intro v350 w8 ho9 hb hg_ hnew_; clear hg_ hnew_; (first | rw [← Ny349.out] at ho9 | (simp only [Int.reduceToNat] at ho9; rw [← Ny349.out] at ho9)); have HO351 := ak (Kd.R_lower ho9 (below_size (by exact hopb HB.out))); replace HB := ak (below_step (by exact hopb HB.out) hb); clear hb ho9) | ((with_reducible refine gate_callee (f := 69) rfl ?_); refine goesL_ (some 10) rfl rfl Try.func69 (by kernel_rfl) rfl #[.slice A0 l0.length c0] rfl (by (try simp only [List.map_toArray, List.map_cons, List.map_nil]); first | done | rfl | (simp only [List.length_drop, List.length_take]; rfl)) ?_; (with_reducible refine (spec_PairsValid.calls k _ _ l0 true _ ?side1 ?side2 A3.out).mono ?_); (case side1 => repeat (first | exact (Kd.C_below HR0.out HB.out) | (with_reducible refine Kd.C_alloc ?_ _) | (with_reducible refine Kd.C_drewN ?_ _) | (with_reducible refine Kd.C_drew ?_))); (case side2 => exact HC0.out); rintro e w10 ⟨rfl, hb⟩; refine ⟨_, rfl, ?_⟩; replace HO351 := ak (Kd.R_below (by (with_reducible repeat (first | apply Kd.R_alloc | apply Kd.R_drewN | apply Kd.R_drew)); exact HO351.out) hb); replace HB := ak (below_step (by exact hopb HB.out) hb); (try clear hb)) | ((with_reducible refine gate_callee (f := 107) rfl ?_); refine goesL_ (some 15) rfl rfl Try.func107 (by kernel_rfl) rfl #[.slice A0 l0.length c0, .string a1] rfl (by (try simp only [List.map_toArray, List.map_cons, List.map_nil]); first | done | rfl | (simp only [List.length_drop, List.length_take]; rfl)) ?_; (with_reducible refine (spec_l4Place.calls k _ _ l0 a1 t353 _ ?side1 ?side2 A5.out).mono ?_); (case side1 => repeat (first | exact (Kd.C_below HR0.out HB.out) | (with_reducible refine Kd.C_alloc ?_ _) | (with_reducible refine Kd.C_drewN ?_ _) | (with_reducible refine Kd.C_drew ?_))); (case side2 => exact HC0.out); rintro e w' ⟨rfl, ⟨nd, rfl⟩⟩; refine ⟨_, rfl, ?_⟩) | ((with_reducible refine gate_builtin (b := .append) (xs := #[.tmp 29, .tmp 30]) rfl ?_); at_builtin; refine Kd.R_append_rows k71 (w0 := w) w.heap.size rfl (.tmp 29) (.tmp 30) 32 71 (.agg #[(.string ⟨#[]⟩), (.int .i64 0)]) 24 rfl Try.underlying32 info71 rfl (by decide) (by omega) v350 y349 l0 _ _ _ (fun _ => True) (fun _ => False) rfl rfl ?aO ?aR (fun _ _ h => h) (fun _ h => h.elim) ?aF ?aB ?aS ?aL ?_; (case aR => repeat (first | exact (Kd.C_below HR0.out (by exact hopb HB.out)) | (with_reducible refine Kd.C_alloc ?_ _) | (with_reducible refine Kd.C_drewN ?_ _) | (with_reducible refine Kd.C_drew ?_))); (case aB => exact (by exact hopb HB.out)); (case aF => exact (fun _ _ => trivial)); (case aO => exact (by (with_reducible repeat (first | apply Kd.R_alloc | apply Kd.R_drewN | apply Kd.R_drew)); exact HO351.out)); (case aS => exact (below_size (by exact hopb HB.out))); (case aL => have := LMc7.out; omega); intro v355 w11 ho hb hg hat; rw [← Ny354.out] at ho; replace HB := ak (hb); have HO356 := ak (ho); clear HO351; clear ho hb hg hat))
    go_ret2
    exact ⟨_, by first | rfl | (simp only [u8_w_, w64_u8_] <;> rfl) | (simp [errW_none, errW_some] <;> rfl) | (simp [*, errW_none, errW_some] <;> rfl), by (with_reducible repeat (first | apply Kd.R_alloc | apply Kd.R_drewN | apply Kd.R_drew)); exact HO356.out, by exact hopb HB.out⟩
   ·rw [if_neg c7] at H
    exact absurd H (by simp)
  ·rw [if_neg c6] at H
   have c6b0 : (t353 == (l0.length : Int)) = false := beq_eq_false_iff_ne.mpr c6
   have c6b1 : (t353 != (l0.length : Int)) = true := bne_iff_ne.mpr c6
   by_cases c12 : 0 ≤ t353
   ·rw [if_pos c12] at H
    have c12b0 : decide (0 ≤ t353) = true := decide_eq_true c12
    clear c12
    by_cases c13 : t353 < (l0.length : Int)
    ·rw [if_pos c13] at H
     have c13b0 : decide (t353 < (l0.length : Int)) = true := decide_eq_true c13
     clear c13
     by_cases c14 : ((rd_T71 l0 t353).f0).toList = a1.toList
     ·rw [if_pos c14] at H
      have c14b0 : (((rd_T71 l0 t353).f0).toList == a1.toList) = true := beq_iff_eq.mpr c14
      have c14b1 : (((rd_T71 l0 t353).f0).toList != a1.toList) = false := bne_eq_false_iff_eq.mpr c14
      clear c14
      have c15b0 := eq_true (of_decide_eq_true (by assumption) : 0 ≤ t353)
      by_cases c16 : t353 ≤ (l0.length : Int)
      ·rw [if_pos c16] at H
       have c16b0 := eq_true c16
       have c16b1 : decide (t353 ≤ (l0.length : Int)) = true := decide_eq_true c16
       clear c16
       obtain ⟨y358, hy358⟩ : ∃ y_ : List (S71), y_ = (l0.take (t353 : Int).toNat) := ⟨_, rfl⟩
       replace H : (if y349.length + y358.length < 5864062014805 then ((some (y349 ++ y358 : List (S71))).bind fun y362 => (if 0 ≤ (wrap64 (t353 + 1)) then (if (wrap64 (t353 + 1)) ≤ (l0.length : Int) then ((some (l0.drop ((wrap64 (t353 + 1)) : Int).toNat : List (S71))).bind fun y365 => (if y362.length + y365.length < 5864062014805 then (some ((y362 ++ y365), true)) else (none))) else (none)) else (none))) else (none)) = some (r1, r2) := by first | (rw [hy358]; exact H) | exact H
       have Ny358 := ak hy358
       clear hy358
       by_cases c17 : y349.length + y358.length < 5864062014805
       ·rw [if_pos c17] at H
        have LMc17 := ak c17
        clear c17
        obtain ⟨y362, hy362⟩ : ∃ y_ : List (S71), y_ = (y349 ++ y358) := ⟨_, rfl⟩
        replace H : (if 0 ≤ (wrap64 (t353 + 1)) then (if (wrap64 (t353 + 1)) ≤ (l0.length : Int) then ((some (l0.drop ((wrap64 (t353 + 1)) : Int).toNat : List (S71))).bind fun y365 => (if y362.length + y365.length < 5864062014805 then (some ((y362 ++ y365), true)) else (none))) else (none)) else (none)) = some (r1, r2) := by first | (rw [hy362]; exact H) | exact H
        have Ny362 := ak hy362
        clear hy362
        obtain ⟨ji18, hji18⟩ : ∃ j_ : Int, (wrap64 (t353 + 1)) = j_ := ⟨_, rfl⟩
        replace H : (if 0 ≤ (ji18) then (if (ji18) ≤ (l0.length : Int) then ((some (l0.drop ((ji18) : Int).toNat : List (S71))).bind fun y365 => (if y362.length + y365.length < 5864062014805 then (some ((y362 ++ y365), true)) else (none))) else (none)) else (none)) = some (r1, r2) := by first | (rw [hji18] at H; exact H) | (simp only [hji18] at H ⊢; exact H)
        (try rw [hji18] at A3)
        (try rw [hji18] at A5)
        have hji18w : (IntKind.i64.wrap (t353 + 1)) = ji18 := (i64_w _).trans hji18
        by_cases c19 : 0 ≤ (ji18)
        ·rw [if_pos c19] at H
         have c19b0 := eq_true c19
         have c19b1 : decide (0 ≤ (ji18)) = true := decide_eq_true c19
         clear c19
         by_cases c20 : (ji18) ≤ (l0.length : Int)
         ·rw [if_pos c20] at H
          have c20b0 := eq_true c20
          have c20b1 : decide ((ji18) ≤ (l0.length : Int)) = true := decide_eq_true c20
          clear c20
          obtain ⟨y365, hy365⟩ : ∃ y_ : List (S71), y_ = (l0.drop ((ji18) : Int).toNat) := ⟨_, rfl⟩
          replace H : (if y362.length + y365.length < 5864062014805 then (some ((y362 ++ y365), true)) else (none)) = some (r1, r2) := by first | (rw [hy365]; exact H) | exact H
          have Ny365 := ak hy365
          clear hy365
          by_cases c21 : y362.length + y365.length < 5864062014805
          ·rw [if_pos c21] at H
           have LMc21 := ak c21
           clear c21
           obtain ⟨y369, hy369⟩ : ∃ y_ : List (S71), y_ = (y362 ++ y365) := ⟨_, rfl⟩
           replace H : (some (y369, true)) = some (r1, r2) := by first | (rw [hy369]; exact H) | exact H
           have Ny369 := ak hy369
           clear hy369
           simp only [Option.some.injEq, Prod.mk.injEq] at H
           obtain ⟨rfl, rfl⟩ := H
           go_enter Try.func87, Try.ntmps87
           go_wp2_with (first | ((with_reducible refine gate_dst (N := 8) rfl ?_); refine Kd.R_lit k71 _ 71 ?hg (N := 8) ?hd (xs := ([] : List (S71))) (inner := []) (ok := fun _ => True) (okp := fun _ => True) ?hr ?hp (fun _ hk => hk) trivial (Below.refl _ _) (Nat.le_refl _) (by simp) ?_; (case hd => rfl); (case hg => rfl); (case hr => first | (go_simp; done) | (go_simp; rfl)); (case hp => exact (Reps.none _ _)); intro v350 w22 ho23 hb hg_ hnew_; clear hg_ hnew_; (first | rw [← Ny349.out] at ho23 | (simp only [Int.reduceToNat] at ho23; rw [← Ny349.out] at ho23)); have HO351 := ak (Kd.R_lower ho23 (below_size (by exact hopb HB.out))); replace HB := ak (below_step (by exact hopb HB.out) hb); clear hb ho23) | ((with_reducible refine gate_callee (f := 69) rfl ?_); refine goesL_ (some 10) rfl rfl Try.func69 (by kernel_rfl) rfl #[.slice A0 l0.length c0] rfl (by (try simp only [List.map_toArray, List.map_cons, List.map_nil]); first | done | rfl | (simp only [List.length_drop, List.length_take]; rfl)) ?_; (with_reducible refine (spec_PairsValid.calls k _ _ l0 true _ ?side1 ?side2 A3.out).mono ?_); (case side1 => repeat (first | exact (Kd.C_below HR0.out HB.out) | (with_reducible refine Kd.C_alloc ?_ _) | (with_reducible refine Kd.C_drewN ?_ _) | (with_reducible refine Kd.C_drew ?_))); (case side2 => exact HC0.out); rintro e w24 ⟨rfl, hb⟩; refine ⟨_, rfl, ?_⟩; replace HO351 := ak (Kd.R_below (by (with_reducible repeat (first | apply Kd.R_alloc | apply Kd.R_drewN | apply Kd.R_drew)); exact HO351.out) hb); replace HB := ak (below_step (by exact hopb HB.out) hb); (try clear hb)) | ((with_reducible refine gate_callee (f := 107) rfl ?_); refine goesL_ (some 15) rfl rfl Try.func107 (by kernel_rfl) rfl #[.slice A0 l0.length c0, .string a1] rfl (by (try simp only [List.map_toArray, List.map_cons, List.map_nil]); first | done | rfl | (simp only [List.length_drop, List.length_take]; rfl)) ?_; (with_reducible refine (spec_l4Place.calls k _ _ l0 a1 t353 _ ?side1 ?side2 A5.out).mono ?_); (case side1 => repeat (first | exact (Kd.C_below HR0.out HB.out) | (with_reducible refine Kd.C_alloc ?_ _) | (with_reducible refine Kd.C_drewN ?_ _) | (with_reducible refine Kd.C_drew ?_))); (case side2 => exact HC0.out); rintro e w' ⟨rfl, ⟨nd, rfl⟩⟩; refine ⟨_, rfl, ?_⟩; have p357 : 0 ≤ (t353 : Int) := of_decide_eq_true (by assumption); have q357 : t353 < (l0.length : Int) := of_decide_eq_true (by assumption); obtain ⟨ad357, e357, hx357_0, hx357_1⟩ := at_T71 HR0.out t353 p357 q357; cases e357; replace hx357_0 := (HB.out.cell (World.block_lt_of_cell? w _ hx357_0)).trans hx357_0; replace hx357_1 := (HB.out.cell (World.block_lt_of_cell? w _ hx357_1)).trans hx357_1; replace p357 := eq_true p357; replace q357 := eq_true q357; have q25 : (t353 : Int) ≤ ((l0.length : Int) : Int) := of_decide_eq_true (by assumption); obtain ⟨i025, hi025, _, hsz25, _⟩ := info_parts info71; have hroom25 : l0.length ≤ c0 := HC0.out; have hC25 : Kd.C k71 _ (some ad357) l0.length l0 := HR0.out; have hcut25 := cut_to (P := Try.prog) 32 71 .i64 Try.underlying32 hi025 (some ad357) l0.length c0 t353 (of_decide_eq_true (by assumption)) q25 hroom25; have hr25 := Kd.C_take (m := (t353 : Int).toNat) hC25 (by omega); have hy25 : y358.length = (t353 : Int).toNat := (by rw [Ny358.out, List.length_take]; omega); rw [← Ny358.out] at hr25; rw [← hy25] at hcut25; have HR361 := ak hr25; have HC361 := ak (show y358.length ≤ c0 from by omega); clear hr25 hC25 hroom25 hi025 hsz25; have KY25 := ak hy25; clear hy25; replace q25 := eq_true q25) | ((with_reducible refine gate_builtin (b := .append) (xs := #[.tmp 32, .tmp 35]) rfl ?_); at_builtin; refine Kd.R_append_rows k71 (w0 := w) w.heap.size rfl (.tmp 32) (.tmp 35) 32 71 (.agg #[(.string ⟨#[]⟩), (.int .i64 0)]) 24 rfl Try.underlying32 info71 rfl (by decide) (by omega) v350 y349 y358 _ _ _ (fun _ => True) (fun _ => False) rfl rfl ?aO ?aR (fun _ _ h => h) (fun _ h => h.elim) ?aF ?aB ?aS ?aL ?_; (case aR => repeat (first | exact (Kd.C_below HR361.out (by exact hopb HB.out)) | (with_reducible refine Kd.C_alloc ?_ _) | (with_reducible refine Kd.C_drewN ?_ _) | (with_reducible refine Kd.C_drew ?_))); (case aB => exact (by exact hopb HB.out)); (case aF => exact (fun _ _ => trivial)); (case aO => exact (by (with_reducible repeat (first | apply Kd.R_alloc | apply Kd.R_drewN | apply Kd.R_drew)); exact HO351.out)); (case aS => exact (below_size (by exact hopb HB.out))); (case aL => have := LMc17.out; omega); intro v363 w26 ho hb hg hat; rw [← Ny362.out] at ho; replace HB := ak (hb); have HO364 := ak (ho); clear HO351; clear ho hb hg hat; have q27 : ((ji18) : Int) ≤ ((l0.length : Int) : Int) := of_decide_eq_true (by assumption); obtain ⟨i027, hi027, _, hsz27, _⟩ := info_parts info71; have hroom27 : l0.length ≤ c0 := HC0.out; have hC27 : Kd.C k71 _ (some ad357) l0.length l0 := HR0.out; have q027 : (0 : Int) ≤ ((ji18) : Int) := of_decide_eq_true (by assumption); have hcut27 := cut_from (P := Try.prog) 32 71 .i64 Try.underlying32 hi027 2 hsz27 (some ad357) l0.length c0 (ji18) q027 q27; have hr27 := Kd.C_drop (m := ((ji18) : Int).toNat) (c := c0) hC27 (by omega) hroom27; obtain ⟨A27, hA27⟩ : ∃ A1, A1 = (if c0 = ((ji18) : Int).toNat then (some ad357) else ((some ad357) : Option Addr).map (·.add (((ji18) : Int).toNat * 2))) := ⟨_, rfl⟩; obtain ⟨c27, hc27⟩ : ∃ c1, c1 = c0 - ((ji18) : Int).toNat := ⟨_, rfl⟩; have hy27 : y365.length = l0.length - ((ji18) : Int).toNat := (by rw [Ny365.out, List.length_drop] <;> omega); rw [show (l0).drop ((ji18) : Int).toNat = y365 from Ny365.out.symm] at hr27; replace hr27 : Kd.C k71 _ A27 y365.length y365 := (by rw [hA27]; exact hr27); rw [← hy27, ← hA27, ← hc27] at hcut27; have HR368 := ak hr27; have HC368 := ak (show y365.length ≤ c27 from by rw [hy27, hc27]; exact Nat.sub_le_sub_right hroom27 _); clear hr27 hC27 hroom27 hi027 hsz27 hc27; have KY27 := ak hy27; have KA27 := ak hA27; clear hy27 hA27; replace q27 := eq_true q27) | ((with_reducible refine gate_builtin (b := .append) (xs := #[.tmp 37, .tmp 41]) rfl ?_); at_builtin; refine Kd.R_append_rows k71 (w0 := w) w.heap.size rfl (.tmp 37) (.tmp 41) 32 71 (.agg #[(.string ⟨#[]⟩), (.int .i64 0)]) 24 rfl Try.underlying32 info71 rfl (by decide) (by omega) v363 y362 y365 _ _ _ (fun _ => True) (fun _ => False) rfl rfl ?aO ?aR (fun _ _ h => h) (fun _ h => h.elim) ?aF ?aB ?aS ?aL ?_; (case aR => repeat (first | exact (Kd.C_below HR368.out HB.out) | (with_reducible refine Kd.C_alloc ?_ _) | (with_reducible refine Kd.C_drewN ?_ _) | (with_reducible refine Kd.C_drew ?_))); (case aB => exact (by exact hopb HB.out)); (case aF => exact (fun _ _ => trivial)); (case aO => exact (by (with_reducible repeat (first | apply Kd.R_alloc | apply Kd.R_drewN | apply Kd.R_drew)); exact HO364.out)); (case aS => exact (below_size (by exact hopb HB.out))); (case aL => have := LMc21.out; omega); intro v370 w28 ho hb hg hat; rw [← Ny369.out] at ho; replace HB := ak (hb); have HO371 := ak (ho); clear HO364; clear ho hb hg hat))
           go_ret2
           exact ⟨_, by first | rfl | (simp only [u8_w_, w64_u8_] <;> rfl) | (simp [errW_none, errW_some] <;> rfl) | (simp only [← hji18]; first | rfl | (simp [errW_none, errW_some] <;> rfl)) | (simp [*, errW_none, errW_some] <;> rfl), by (with_reducible repeat (first | apply Kd.R_alloc | apply Kd.R_drewN | apply Kd.R_drew)); exact HO371.out, by exact hopb HB.out⟩
          ·rw [if_neg c21] at H
           exact absurd H (by simp)
         ·rw [if_neg c20] at H
          exact absurd H (by simp)
        ·rw [if_neg c19] at H
         exact absurd H (by simp)
       ·rw [if_neg c17] at H
        exact absurd H (by simp)
      ·rw [if_neg c16] at H
       exact absurd H (by simp)
     ·rw [if_neg c14] at H
      have c14b0 : (((rd_T71 l0 t353).f0).toList == a1.toList) = false := beq_eq_false_iff_ne.mpr c14
      have c14b1 : (((rd_T71 l0 t353).f0).toList != a1.toList) = true := bne_iff_ne.mpr c14
      by_cases c29 : y349.length + l0.length < 5864062014805
      ·rw [if_pos c29] at H
       have LMc29 := ak c29
       clear c29
       obtain ⟨y372, hy372⟩ : ∃ y_ : List (S71), y_ = (y349 ++ l0) := ⟨_, rfl⟩
       replace H : (some (y372, false)) = some (r1, r2) := by first | (rw [hy372]; exact H) | exact H
       have Ny372 := ak hy372
       clear hy372
       simp only [Option.some.injEq, Prod.mk.injEq] at H
       obtain ⟨rfl, rfl⟩ := H
       go_enter Try.func87, Try.ntmps87
       go_wp2_with (first | ((with_reducible refine gate_dst (N := 8) rfl ?_); refine Kd.R_lit k71 _ 71 ?hg (N := 8) ?hd (xs := ([] : List (S71))) (inner := []) (ok := fun _ => True) (okp := fun _ => True) ?hr ?hp (fun _ hk => hk) trivial (Below.refl _ _) (Nat.le_refl _) (by simp) ?_; (case hd => rfl); (case hg => rfl); (case hr => first | (go_simp; done) | (go_simp; rfl)); (case hp => exact (Reps.none _ _)); intro v350 w30 ho31 hb hg_ hnew_; clear hg_ hnew_; (first | rw [← Ny349.out] at ho31 | (simp only [Int.reduceToNat] at ho31; rw [← Ny349.out] at ho31)); have HO351 := ak (Kd.R_lower ho31 (below_size (by exact hopb HB.out))); replace HB := ak (below_step (by exact hopb HB.out) hb); clear hb ho31) | ((with_reducible refine gate_callee (f := 69) rfl ?_); refine goesL_ (some 10) rfl rfl Try.func69 (by kernel_rfl) rfl #[.slice A0 l0.length c0] rfl (by (try simp only [List.map_toArray, List.map_cons, List.map_nil]); first | done | rfl | (simp only [List.length_drop, List.length_take]; rfl)) ?_; (with_reducible refine (spec_PairsValid.calls k _ _ l0 true _ ?side1 ?side2 A3.out).mono ?_); (case side1 => repeat (first | exact (Kd.C_below HR0.out HB.out) | (with_reducible refine Kd.C_alloc ?_ _) | (with_reducible refine Kd.C_drewN ?_ _) | (with_reducible refine Kd.C_drew ?_))); (case side2 => exact HC0.out); rintro e w32 ⟨rfl, hb⟩; refine ⟨_, rfl, ?_⟩; replace HO351 := ak (Kd.R_below (by (with_reducible repeat (first | apply Kd.R_alloc | apply Kd.R_drewN | apply Kd.R_drew)); exact HO351.out) hb); replace HB := ak (below_step (by exact hopb HB.out) hb); (try clear hb)) | ((with_reducible refine gate_callee (f := 107) rfl ?_); refine goesL_ (some 15) rfl rfl Try.func107 (by kernel_rfl) rfl #[.slice A0 l0.length c0, .string a1] rfl (by (try simp only [List.map_toArray, List.map_cons, List.map_nil]); first | done | rfl | (simp only [List.length_drop, List.length_take]; rfl)) ?_; (with_reducible refine (spec_l4Place.calls k _ _ l0 a1 t353 _ ?side1 ?side2 A5.out).mono ?_); (case side1 => repeat (first | exact (Kd.C_below HR0.out HB.out) | (with_reducible refine Kd.C_alloc ?_ _) | (with_reducible refine Kd.C_drewN ?_ _) | (with_reducible refine Kd.C_drew ?_))); (case side2 => exact HC0.out); rintro e w' ⟨rfl, ⟨nd, rfl⟩⟩; refine ⟨_, rfl, ?_⟩; have p357 : 0 ≤ (t353 : Int) := of_decide_eq_true (by assumption); have q357 : t353 < (l0.length : Int) := of_decide_eq_true (by assumption); obtain ⟨ad357, e357, hx357_0, hx357_1⟩ := at_T71 HR0.out t353 p357 q357; cases e357; replace hx357_0 := (HB.out.cell (World.block_lt_of_cell? w _ hx357_0)).trans hx357_0; replace hx357_1 := (HB.out.cell (World.block_lt_of_cell? w _ hx357_1)).trans hx357_1; replace p357 := eq_true p357; replace q357 := eq_true q357) | ((with_reducible refine gate_builtin (b := .append) (xs := #[.tmp 29, .tmp 30]) rfl ?_); at_builtin; refine Kd.R_append_rows k71 (w0 := w) w.heap.size rfl (.tmp 29) (.tmp 30) 32 71 (.agg #[(.string ⟨#[]⟩), (.int .i64 0)]) 24 rfl Try.underlying32 info71 rfl (by decide) (by omega) v350 y349 l0 _ _ _ (fun _ => True) (fun _ => False) rfl rfl ?aO ?aR (fun _ _ h => h) (fun _ h => h.elim) ?aF ?aB ?aS ?aL ?_; (case aR => repeat (first | exact (Kd.C_below HR0.out (by exact hopb HB.out)) | (with_reducible refine Kd.C_alloc ?_ _) | (with_reducible refine Kd.C_drewN ?_ _) | (with_reducible refine Kd.C_drew ?_))); (case aB => exact (by exact hopb HB.out)); (case aF => exact (fun _ _ => trivial)); (case aO => exact (by (with_reducible repeat (first | apply Kd.R_alloc | apply Kd.R_drewN | apply Kd.R_drew)); exact HO351.out)); (case aS => exact (below_size (by exact hopb HB.out))); (case aL => have := LMc29.out; omega); intro v373 w33 ho hb hg hat; rw [← Ny372.out] at ho; replace HB := ak (hb); have HO374 := ak (ho); clear HO351; clear ho hb hg hat))
       go_ret2
       exact ⟨_, by first | rfl | (simp only [u8_w_, w64_u8_] <;> rfl) | (simp [errW_none, errW_some] <;> rfl) | (simp [*, errW_none, errW_some] <;> rfl), by (with_reducible repeat (first | apply Kd.R_alloc | apply Kd.R_drewN | apply Kd.R_drew)); exact HO374.out, by exact hopb HB.out⟩
      ·rw [if_neg c29] at H
       exact absurd H (by simp)
    ·rw [if_neg c13] at H
     exact absurd H (by simp)
   ·rw [if_neg c12] at H
    exact absurd H (by simp)
 ·replace c4 := Bool.eq_false_iff.mpr c4
  subst c4
  rw [if_neg (show ¬ (false = true) by decide)] at H
  simp only [Option.some.injEq, Prod.mk.injEq] at H
  obtain ⟨rfl, rfl⟩ := H
  go_enter Try.func87, Try.ntmps87
  go_wp2_with (first | ((with_reducible refine gate_dst (N := 8) rfl ?_); refine Kd.R_lit k71 _ 71 ?hg (N := 8) ?hd (xs := ([] : List (S71))) (inner := []) (ok := fun _ => True) (okp := fun _ => True) ?hr ?hp (fun _ hk => hk) trivial (Below.refl _ _) (Nat.le_refl _) (by simp) ?_; (case hd => rfl); (case hg => rfl); (case hr => first | (go_simp; done) | (go_simp; rfl)); (case hp => exact (Reps.none _ _)); intro v350 w34 ho35 hb hg_ hnew_; clear hg_ hnew_; (first | rw [← Ny349.out] at ho35 | (simp only [Int.reduceToNat] at ho35; rw [← Ny349.out] at ho35)); have HO351 := ak (Kd.R_lower ho35 (below_size (by exact hopb HB.out))); replace HB := ak (below_step (by exact hopb HB.out) hb); clear hb ho35) | ((with_reducible refine gate_callee (f := 69) rfl ?_); refine goesL_ (some 10) rfl rfl Try.func69 (by kernel_rfl) rfl #[.slice A0 l0.length c0] rfl (by (try simp only [List.map_toArray, List.map_cons, List.map_nil]); first | done | rfl | (simp only [List.length_drop, List.length_take]; rfl)) ?_; (with_reducible refine (spec_PairsValid.calls k _ _ l0 false _ ?side1 ?side2 A3.out).mono ?_); (case side1 => repeat (first | exact (Kd.C_below HR0.out HB.out) | (with_reducible refine Kd.C_alloc ?_ _) | (with_reducible refine Kd.C_drewN ?_ _) | (with_reducible refine Kd.C_drew ?_))); (case side2 => exact HC0.out); rintro e w36 ⟨rfl, hb⟩; refine ⟨_, rfl, ?_⟩; replace HO351 := ak (Kd.R_below (by (with_reducible repeat (first | apply Kd.R_alloc | apply Kd.R_drewN | apply Kd.R_drew)); exact HO351.out) hb); replace HB := ak (below_step (by exact hopb HB.out) hb); (try clear hb)))
  go_ret2
  exact ⟨_, by first | rfl | (simp only [u8_w_, w64_u8_] <;> rfl) | (simp [errW_none, errW_some] <;> rfl) | (simp [*, errW_none, errW_some] <;> rfl), by (with_reducible repeat (first | apply Kd.R_alloc | apply Kd.R_drewN | apply Kd.R_drew)); exact HO351.out, by exact hopb HB.out⟩

end Go.Proofs.Ytebgpbcbbjpbfaa.PFnPageFind
