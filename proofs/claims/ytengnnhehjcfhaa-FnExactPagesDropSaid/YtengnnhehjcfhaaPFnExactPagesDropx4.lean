-- Written for this claim by a program of this session (wip/myprint in the proofs' repo)
import Derived.Test.YtengnnhehjcfhaaPFnExactPagesDropx0
import Derived.Test.YtengnnhehjcfhaaPFnExactPagesDropx2
import Derived.Test.YtengnnhehjcfhaaPFnExactPagesDropx3
import Derived.Test.YtengnnhehjcfhaaWZip
-- slim3
namespace Go.Proofs.Ytengnnhehjcfhaa.PFnExactPagesDrop
open Go.RowKit Go.Proofs.YtengnnhehjcfhaaW.PrintWords Go.Proofs.YtengnnhehjcfhaaW.PrintLast Go.Proofs.YtengnnhehjcfhaaW.PrintMore
attribute [local go_sem] max2_int min2_int max_two min_two max_three min_three max_four min_four max2_strs min2_strs   -- for this text's walks alone
set_option linter.unusedVariables false
set_option linter.unusedSimpArgs false

/-! ### spec_PairDrop: function 27 -/
def spec_PairDrop.f (k : Nat) (l0 : List (S65)) (a1 : ByteArray) : Option ((List (S65)) × Bool) := (some (([] : List (S65)) : List (S65))).bind fun y146 => ((spec_PairsValid.f k l0).bind fun t149 => (if t149 = true then ((spec_l4Place.f k l0 a1).bind fun t150 => (if t150 = (l0.length : Int) then (if y146.length + l0.length < 5864062014805 then (some ((y146 ++ l0), false)) else (none)) else (if 0 ≤ t150 then (if t150 < (l0.length : Int) then (if ((rd_T65 l0 t150).f0).toList = a1.toList then (if t150 ≤ (l0.length : Int) then ((some (l0.take (t150 : Int).toNat : List (S65))).bind fun y155 => (if y146.length + y155.length < 5864062014805 then ((some (y146 ++ y155 : List (S65))).bind fun y159 => (if 0 ≤ (wrap64 (t150 + 1)) then (if (wrap64 (t150 + 1)) ≤ (l0.length : Int) then ((some (l0.drop ((wrap64 (t150 + 1)) : Int).toNat : List (S65))).bind fun y162 => (if y159.length + y162.length < 5864062014805 then (some ((y159 ++ y162), true)) else (none))) else (none)) else (none))) else (none))) else (none)) else (if y146.length + l0.length < 5864062014805 then (some ((y146 ++ l0), false)) else (none))) else (none)) else (none)))) else (some (y146, false))))
theorem spec_PairDrop.mono : ∀ a0 a1 k, LeO (spec_PairDrop.f k a0 a1) (spec_PairDrop.f (k + 1) a0 a1) := by
 intro a0 a1 k
 unfold spec_PairDrop.f
 repeat' first
   | (with_reducible exact spec_PairsValid.mono _ _)
   | (with_reducible exact spec_l4Place.mono _ _ _)
   | (with_reducible exact LeO.refl _)
   | (with_reducible exact LeO.none _)
   | (with_reducible refine LeO.ite ?_ ?_)
   | (with_reducible refine LeO.bind ?_ (fun _ => ?_))
   | exact LeO.none _
   | refine LeO.ite ?_ ?_
   | refine LeO.bind ?_ (fun _ => ?_)
set_option maxHeartbeats 8000000 in
set_option maxRecDepth 100000 in
theorem spec_PairDrop.calls (k : Nat) (A0 : Option Addr) (c0 : Nat) (l0 : List (S65)) (a1 : ByteArray) (r1 : List (S65)) (r2 : Bool) (w : World) (hr0 : Kd.C k65 w A0 l0.length l0) (hc0 : l0.length ≤ c0) (h : spec_PairDrop.f k l0 a1 = some (r1, r2)) :
  Calls Try.prog 27 #[.slice A0 l0.length c0, .string a1] w fun e w' => ∃ v0_ : Value, e = .returned (.tuple #[v0_, .bool r2]) ∧ Kd.R k65 65 w' w.heap.size (fun _ => True) v0_ r1 ∧ Below w.heap.size w w' := by
 have HR0 := ak hr0
 have HC0 := ak hc0
 clear hr0 hc0
 have HB := ak (Below.refl w.heap.size w)
 have H : ((some (([] : List (S65)) : List (S65))).bind fun y146 => ((spec_PairsValid.f k l0).bind fun t149 => (if t149 = true then ((spec_l4Place.f k l0 a1).bind fun t150 => (if t150 = (l0.length : Int) then (if y146.length + l0.length < 5864062014805 then (some ((y146 ++ l0), false)) else (none)) else (if 0 ≤ t150 then (if t150 < (l0.length : Int) then (if ((rd_T65 l0 t150).f0).toList = a1.toList then (if t150 ≤ (l0.length : Int) then ((some (l0.take (t150 : Int).toNat : List (S65))).bind fun y155 => (if y146.length + y155.length < 5864062014805 then ((some (y146 ++ y155 : List (S65))).bind fun y159 => (if 0 ≤ (wrap64 (t150 + 1)) then (if (wrap64 (t150 + 1)) ≤ (l0.length : Int) then ((some (l0.drop ((wrap64 (t150 + 1)) : Int).toNat : List (S65))).bind fun y162 => (if y159.length + y162.length < 5864062014805 then (some ((y159 ++ y162), true)) else (none))) else (none)) else (none))) else (none))) else (none)) else (if y146.length + l0.length < 5864062014805 then (some ((y146 ++ l0), false)) else (none))) else (none)) else (none)))) else (some (y146, false))))) = some (r1, r2) := h
 clear h
 obtain ⟨y146, hy146⟩ : ∃ y_ : List (S65), y_ = (([] : List (S65))) := ⟨_, rfl⟩
 replace H : ((spec_PairsValid.f k l0).bind fun t149 => (if t149 = true then ((spec_l4Place.f k l0 a1).bind fun t150 => (if t150 = (l0.length : Int) then (if y146.length + l0.length < 5864062014805 then (some ((y146 ++ l0), false)) else (none)) else (if 0 ≤ t150 then (if t150 < (l0.length : Int) then (if ((rd_T65 l0 t150).f0).toList = a1.toList then (if t150 ≤ (l0.length : Int) then ((some (l0.take (t150 : Int).toNat : List (S65))).bind fun y155 => (if y146.length + y155.length < 5864062014805 then ((some (y146 ++ y155 : List (S65))).bind fun y159 => (if 0 ≤ (wrap64 (t150 + 1)) then (if (wrap64 (t150 + 1)) ≤ (l0.length : Int) then ((some (l0.drop ((wrap64 (t150 + 1)) : Int).toNat : List (S65))).bind fun y162 => (if y159.length + y162.length < 5864062014805 then (some ((y159 ++ y162), true)) else (none))) else (none)) else (none))) else (none))) else (none)) else (if y146.length + l0.length < 5864062014805 then (some ((y146 ++ l0), false)) else (none))) else (none)) else (none)))) else (some (y146, false)))) = some (r1, r2) := by first | (rw [hy146]; exact H) | exact H
 have Ny146 := ak hy146
 clear hy146
 replace H := Option.bind_eq_some_iff.mp H
 obtain ⟨t149, A30, H⟩ := H
 try dsimp only at H
 have A3 := ak A30
 clear A30
 by_cases c4 : t149 = true
 ·subst c4
  rw [if_pos rfl] at H
  replace H := Option.bind_eq_some_iff.mp H
  obtain ⟨t150, A50, H⟩ := H
  try dsimp only at H
  have A5 := ak A50
  clear A50
  by_cases c6 : t150 = (l0.length : Int)
  ·rw [if_pos c6] at H
   have c6b0 : (t150 == (l0.length : Int)) = true := beq_iff_eq.mpr c6
   have c6b1 : (t150 != (l0.length : Int)) = false := bne_eq_false_iff_eq.mpr c6
   clear c6
   by_cases c7 : y146.length + l0.length < 5864062014805
   ·rw [if_pos c7] at H
    have LMc7 := ak c7
    clear c7
    obtain ⟨y151, hy151⟩ : ∃ y_ : List (S65), y_ = (y146 ++ l0) := ⟨_, rfl⟩
    replace H : (some (y151, false)) = some (r1, r2) := by first | (rw [hy151]; exact H) | exact H
    have Ny151 := ak hy151
    clear hy151
    simp only [Option.some.injEq, Prod.mk.injEq] at H
    obtain ⟨rfl, rfl⟩ := H
    go_enter Try.func27, Try.ntmps27
    go_wp2_with (first | ((with_reducible refine gate_dst (N := 8) rfl ?_); refine Kd.R_lit k65 _ 65 ?hg (N := 8) ?hd (xs := ([] : List (S65))) (inner := []) (ok := fun _ => True) (okp := fun _ => True) ?hr ?hp (fun _ hk => hk) trivial (Below.refl _ _) (Nat.le_refl _) (by simp) ?_; (case hd => rfl); (case hg => rfl); (case hr => first | (go_simp; done) | (go_simp; rfl)); (case hp => exact (Reps.none _ _)); intro v147 w8 ho9 hb hg_ hnew_; clear hg_ hnew_; (first | rw [← Ny146.out] at ho9 | (simp only [Int.reduceToNat] at ho9; rw [← Ny146.out] at ho9)); have HO148 := ak (Kd.R_lower ho9 (below_size (by exact hopb HB.out))); replace HB := ak (below_step (by exact hopb HB.out) hb); clear hb ho9) | ((with_reducible refine gate_callee (f := 54) rfl ?_); refine goesL_ (some 10) rfl rfl Try.func54 (by kernel_rfl) rfl #[.slice A0 l0.length c0] rfl (by (try simp only [List.map_toArray, List.map_cons, List.map_nil]); first | done | rfl | (simp only [List.length_drop, List.length_take]; rfl)) ?_; (with_reducible refine (spec_PairsValid.calls k _ _ l0 true _ ?side1 ?side2 A3.out).mono ?_); (case side1 => repeat (first | exact (Kd.C_below HR0.out HB.out) | (with_reducible refine Kd.C_alloc ?_ _) | (with_reducible refine Kd.C_drewN ?_ _) | (with_reducible refine Kd.C_drew ?_))); (case side2 => exact HC0.out); rintro e w10 ⟨rfl, hb⟩; refine ⟨_, rfl, ?_⟩; replace HO148 := ak (Kd.R_below (by (with_reducible repeat (first | apply Kd.R_alloc | apply Kd.R_drewN | apply Kd.R_drew)); exact HO148.out) hb); replace HB := ak (below_step (by exact hopb HB.out) hb); (try clear hb)) | ((with_reducible refine gate_callee (f := 55) rfl ?_); refine goesL_ (some 15) rfl rfl Try.func55 (by kernel_rfl) rfl #[.slice A0 l0.length c0, .string a1] rfl (by (try simp only [List.map_toArray, List.map_cons, List.map_nil]); first | done | rfl | (simp only [List.length_drop, List.length_take]; rfl)) ?_; (with_reducible refine (spec_l4Place.calls k _ _ l0 a1 t150 _ ?side1 ?side2 A5.out).mono ?_); (case side1 => repeat (first | exact (Kd.C_below HR0.out HB.out) | (with_reducible refine Kd.C_alloc ?_ _) | (with_reducible refine Kd.C_drewN ?_ _) | (with_reducible refine Kd.C_drew ?_))); (case side2 => exact HC0.out); rintro e w' ⟨rfl, ⟨nd, rfl⟩⟩; refine ⟨_, rfl, ?_⟩) | ((with_reducible refine gate_builtin (b := .append) (xs := #[.tmp 29, .tmp 30]) rfl ?_); at_builtin; refine Kd.R_append_rows k65 (w0 := w) w.heap.size rfl (.tmp 29) (.tmp 30) 36 65 (.agg #[(.string ⟨#[]⟩), (.int .i64 0)]) 24 rfl Try.underlying36 info65 rfl (by decide) (by omega) v147 y146 l0 _ _ _ (fun _ => True) (fun _ => False) rfl rfl ?aO ?aR (fun _ _ h => h) (fun _ h => h.elim) ?aF ?aB ?aS ?aL ?_; (case aR => repeat (first | exact (Kd.C_below HR0.out (by exact hopb HB.out)) | (with_reducible refine Kd.C_alloc ?_ _) | (with_reducible refine Kd.C_drewN ?_ _) | (with_reducible refine Kd.C_drew ?_))); (case aB => exact (by exact hopb HB.out)); (case aF => exact (fun _ _ => trivial)); (case aO => exact (by (with_reducible repeat (first | apply Kd.R_alloc | apply Kd.R_drewN | apply Kd.R_drew)); exact HO148.out)); (case aS => exact (below_size (by exact hopb HB.out))); (case aL => have := LMc7.out; omega); intro v152 w11 ho hb hg hat; rw [← Ny151.out] at ho; replace HB := ak (hb); have HO153 := ak (ho); clear HO148; clear ho hb hg hat))
    go_ret2
    exact ⟨_, by first | rfl | (simp [*, errW_none, errW_some] <;> rfl), by (with_reducible repeat (first | apply Kd.R_alloc | apply Kd.R_drewN | apply Kd.R_drew)); exact HO153.out, by exact hopb HB.out⟩
   ·rw [if_neg c7] at H
    exact absurd H (by simp)
  ·rw [if_neg c6] at H
   have c6b0 : (t150 == (l0.length : Int)) = false := beq_eq_false_iff_ne.mpr c6
   have c6b1 : (t150 != (l0.length : Int)) = true := bne_iff_ne.mpr c6
   by_cases c12 : 0 ≤ t150
   ·rw [if_pos c12] at H
    have c12b0 : decide (0 ≤ t150) = true := decide_eq_true c12
    clear c12
    by_cases c13 : t150 < (l0.length : Int)
    ·rw [if_pos c13] at H
     have c13b0 : decide (t150 < (l0.length : Int)) = true := decide_eq_true c13
     clear c13
     by_cases c14 : ((rd_T65 l0 t150).f0).toList = a1.toList
     ·rw [if_pos c14] at H
      have c14b0 : (((rd_T65 l0 t150).f0).toList == a1.toList) = true := beq_iff_eq.mpr c14
      have c14b1 : (((rd_T65 l0 t150).f0).toList != a1.toList) = false := bne_eq_false_iff_eq.mpr c14
      clear c14
      have c15b0 := eq_true (of_decide_eq_true (by assumption) : 0 ≤ t150)
      by_cases c16 : t150 ≤ (l0.length : Int)
      ·rw [if_pos c16] at H
       have c16b0 := eq_true c16
       have c16b1 : decide (t150 ≤ (l0.length : Int)) = true := decide_eq_true c16
       clear c16
       obtain ⟨y155, hy155⟩ : ∃ y_ : List (S65), y_ = (l0.take (t150 : Int).toNat) := ⟨_, rfl⟩
       replace H : (if y146.length + y155.length < 5864062014805 then ((some (y146 ++ y155 : List (S65))).bind fun y159 => (if 0 ≤ (wrap64 (t150 + 1)) then (if (wrap64 (t150 + 1)) ≤ (l0.length : Int) then ((some (l0.drop ((wrap64 (t150 + 1)) : Int).toNat : List (S65))).bind fun y162 => (if y159.length + y162.length < 5864062014805 then (some ((y159 ++ y162), true)) else (none))) else (none)) else (none))) else (none)) = some (r1, r2) := by first | (rw [hy155]; exact H) | exact H
       have Ny155 := ak hy155
       clear hy155
       by_cases c17 : y146.length + y155.length < 5864062014805
       ·rw [if_pos c17] at H
        have LMc17 := ak c17
        clear c17
        obtain ⟨y159, hy159⟩ : ∃ y_ : List (S65), y_ = (y146 ++ y155) := ⟨_, rfl⟩
        replace H : (if 0 ≤ (wrap64 (t150 + 1)) then (if (wrap64 (t150 + 1)) ≤ (l0.length : Int) then ((some (l0.drop ((wrap64 (t150 + 1)) : Int).toNat : List (S65))).bind fun y162 => (if y159.length + y162.length < 5864062014805 then (some ((y159 ++ y162), true)) else (none))) else (none)) else (none)) = some (r1, r2) := by first | (rw [hy159]; exact H) | exact H
        have Ny159 := ak hy159
        clear hy159
        obtain ⟨ji18, hji18⟩ : ∃ j_ : Int, (wrap64 (t150 + 1)) = j_ := ⟨_, rfl⟩
        replace H : (if 0 ≤ (ji18) then (if (ji18) ≤ (l0.length : Int) then ((some (l0.drop ((ji18) : Int).toNat : List (S65))).bind fun y162 => (if y159.length + y162.length < 5864062014805 then (some ((y159 ++ y162), true)) else (none))) else (none)) else (none)) = some (r1, r2) := by first | (rw [hji18] at H; exact H) | (simp only [hji18] at H ⊢; exact H)
        (try rw [hji18] at A3)
        (try rw [hji18] at A5)
        have hji18w : (IntKind.i64.wrap (t150 + 1)) = ji18 := (i64_w _).trans hji18
        by_cases c19 : 0 ≤ (ji18)
        ·rw [if_pos c19] at H
         have c19b0 := eq_true c19
         have c19b1 : decide (0 ≤ (ji18)) = true := decide_eq_true c19
         clear c19
         by_cases c20 : (ji18) ≤ (l0.length : Int)
         ·rw [if_pos c20] at H
          have c20b0 := eq_true c20
          have c20b1 : decide ((ji18) ≤ (l0.length : Int)) = true := decide_eq_true c20
          clear c20
          obtain ⟨y162, hy162⟩ : ∃ y_ : List (S65), y_ = (l0.drop ((ji18) : Int).toNat) := ⟨_, rfl⟩
          replace H : (if y159.length + y162.length < 5864062014805 then (some ((y159 ++ y162), true)) else (none)) = some (r1, r2) := by first | (rw [hy162]; exact H) | exact H
          have Ny162 := ak hy162
          clear hy162
          by_cases c21 : y159.length + y162.length < 5864062014805
          ·rw [if_pos c21] at H
           have LMc21 := ak c21
           clear c21
           obtain ⟨y166, hy166⟩ : ∃ y_ : List (S65), y_ = (y159 ++ y162) := ⟨_, rfl⟩
           replace H : (some (y166, true)) = some (r1, r2) := by first | (rw [hy166]; exact H) | exact H
           have Ny166 := ak hy166
           clear hy166
           simp only [Option.some.injEq, Prod.mk.injEq] at H
           obtain ⟨rfl, rfl⟩ := H
           go_enter Try.func27, Try.ntmps27
           go_wp2_with (first | ((with_reducible refine gate_dst (N := 8) rfl ?_); refine Kd.R_lit k65 _ 65 ?hg (N := 8) ?hd (xs := ([] : List (S65))) (inner := []) (ok := fun _ => True) (okp := fun _ => True) ?hr ?hp (fun _ hk => hk) trivial (Below.refl _ _) (Nat.le_refl _) (by simp) ?_; (case hd => rfl); (case hg => rfl); (case hr => first | (go_simp; done) | (go_simp; rfl)); (case hp => exact (Reps.none _ _)); intro v147 w22 ho23 hb hg_ hnew_; clear hg_ hnew_; (first | rw [← Ny146.out] at ho23 | (simp only [Int.reduceToNat] at ho23; rw [← Ny146.out] at ho23)); have HO148 := ak (Kd.R_lower ho23 (below_size (by exact hopb HB.out))); replace HB := ak (below_step (by exact hopb HB.out) hb); clear hb ho23) | ((with_reducible refine gate_callee (f := 54) rfl ?_); refine goesL_ (some 10) rfl rfl Try.func54 (by kernel_rfl) rfl #[.slice A0 l0.length c0] rfl (by (try simp only [List.map_toArray, List.map_cons, List.map_nil]); first | done | rfl | (simp only [List.length_drop, List.length_take]; rfl)) ?_; (with_reducible refine (spec_PairsValid.calls k _ _ l0 true _ ?side1 ?side2 A3.out).mono ?_); (case side1 => repeat (first | exact (Kd.C_below HR0.out HB.out) | (with_reducible refine Kd.C_alloc ?_ _) | (with_reducible refine Kd.C_drewN ?_ _) | (with_reducible refine Kd.C_drew ?_))); (case side2 => exact HC0.out); rintro e w24 ⟨rfl, hb⟩; refine ⟨_, rfl, ?_⟩; replace HO148 := ak (Kd.R_below (by (with_reducible repeat (first | apply Kd.R_alloc | apply Kd.R_drewN | apply Kd.R_drew)); exact HO148.out) hb); replace HB := ak (below_step (by exact hopb HB.out) hb); (try clear hb)) | ((with_reducible refine gate_callee (f := 55) rfl ?_); refine goesL_ (some 15) rfl rfl Try.func55 (by kernel_rfl) rfl #[.slice A0 l0.length c0, .string a1] rfl (by (try simp only [List.map_toArray, List.map_cons, List.map_nil]); first | done | rfl | (simp only [List.length_drop, List.length_take]; rfl)) ?_; (with_reducible refine (spec_l4Place.calls k _ _ l0 a1 t150 _ ?side1 ?side2 A5.out).mono ?_); (case side1 => repeat (first | exact (Kd.C_below HR0.out HB.out) | (with_reducible refine Kd.C_alloc ?_ _) | (with_reducible refine Kd.C_drewN ?_ _) | (with_reducible refine Kd.C_drew ?_))); (case side2 => exact HC0.out); rintro e w' ⟨rfl, ⟨nd, rfl⟩⟩; refine ⟨_, rfl, ?_⟩; have p154 : 0 ≤ (t150 : Int) := of_decide_eq_true (by assumption); have q154 : t150 < (l0.length : Int) := of_decide_eq_true (by assumption); obtain ⟨ad154, e154, hx154_0, hx154_1⟩ := at_T65 HR0.out t150 p154 q154; cases e154; replace hx154_0 := (HB.out.cell (World.block_lt_of_cell? w _ hx154_0)).trans hx154_0; replace hx154_1 := (HB.out.cell (World.block_lt_of_cell? w _ hx154_1)).trans hx154_1; replace p154 := eq_true p154; replace q154 := eq_true q154; have q25 : (t150 : Int) ≤ ((l0.length : Int) : Int) := of_decide_eq_true (by assumption); obtain ⟨i025, hi025, _, hsz25, _⟩ := info_parts info65; have hroom25 : l0.length ≤ c0 := HC0.out; have hC25 : Kd.C k65 _ (some ad154) l0.length l0 := HR0.out; have hcut25 := cut_to (P := Try.prog) 36 65 .i64 Try.underlying36 hi025 (some ad154) l0.length c0 t150 (of_decide_eq_true (by assumption)) q25 hroom25; have hr25 := Kd.C_take (m := (t150 : Int).toNat) hC25 (by omega); have hy25 : y155.length = (t150 : Int).toNat := (by rw [Ny155.out, List.length_take]; omega); rw [← Ny155.out] at hr25; rw [← hy25] at hcut25; have HR158 := ak hr25; have HC158 := ak (show y155.length ≤ c0 from by omega); clear hr25 hC25 hroom25 hi025 hsz25; have KY25 := ak hy25; clear hy25; replace q25 := eq_true q25) | ((with_reducible refine gate_builtin (b := .append) (xs := #[.tmp 32, .tmp 35]) rfl ?_); at_builtin; refine Kd.R_append_rows k65 (w0 := w) w.heap.size rfl (.tmp 32) (.tmp 35) 36 65 (.agg #[(.string ⟨#[]⟩), (.int .i64 0)]) 24 rfl Try.underlying36 info65 rfl (by decide) (by omega) v147 y146 y155 _ _ _ (fun _ => True) (fun _ => False) rfl rfl ?aO ?aR (fun _ _ h => h) (fun _ h => h.elim) ?aF ?aB ?aS ?aL ?_; (case aR => repeat (first | exact (Kd.C_below HR158.out (by exact hopb HB.out)) | (with_reducible refine Kd.C_alloc ?_ _) | (with_reducible refine Kd.C_drewN ?_ _) | (with_reducible refine Kd.C_drew ?_))); (case aB => exact (by exact hopb HB.out)); (case aF => exact (fun _ _ => trivial)); (case aO => exact (by (with_reducible repeat (first | apply Kd.R_alloc | apply Kd.R_drewN | apply Kd.R_drew)); exact HO148.out)); (case aS => exact (below_size (by exact hopb HB.out))); (case aL => have := LMc17.out; omega); intro v160 w26 ho hb hg hat; rw [← Ny159.out] at ho; replace HB := ak (hb); have HO161 := ak (ho); clear HO148; clear ho hb hg hat; have q27 : ((ji18) : Int) ≤ ((l0.length : Int) : Int) := of_decide_eq_true (by assumption); obtain ⟨i027, hi027, _, hsz27, _⟩ := info_parts info65; have hroom27 : l0.length ≤ c0 := HC0.out; have hC27 : Kd.C k65 _ (some ad154) l0.length l0 := HR0.out; have q027 : (0 : Int) ≤ ((ji18) : Int) := of_decide_eq_true (by assumption); have hcut27 := cut_from (P := Try.prog) 36 65 .i64 Try.underlying36 hi027 2 hsz27 (some ad154) l0.length c0 (ji18) q027 q27; have hr27 := Kd.C_drop (m := ((ji18) : Int).toNat) (c := c0) hC27 (by omega) hroom27; obtain ⟨A27, hA27⟩ : ∃ A1, A1 = (if c0 = ((ji18) : Int).toNat then (some ad154) else ((some ad154) : Option Addr).map (·.add (((ji18) : Int).toNat * 2))) := ⟨_, rfl⟩; obtain ⟨c27, hc27⟩ : ∃ c1, c1 = c0 - ((ji18) : Int).toNat := ⟨_, rfl⟩; have hy27 : y162.length = l0.length - ((ji18) : Int).toNat := (by rw [Ny162.out, List.length_drop] <;> omega); rw [show (l0).drop ((ji18) : Int).toNat = y162 from Ny162.out.symm] at hr27; replace hr27 : Kd.C k65 _ A27 y162.length y162 := (by rw [hA27]; exact hr27); rw [← hy27, ← hA27, ← hc27] at hcut27; have HR165 := ak hr27; have HC165 := ak (show y162.length ≤ c27 from by rw [hy27, hc27]; exact Nat.sub_le_sub_right hroom27 _); clear hr27 hC27 hroom27 hi027 hsz27 hc27; have KY27 := ak hy27; have KA27 := ak hA27; clear hy27 hA27; replace q27 := eq_true q27) | ((with_reducible refine gate_builtin (b := .append) (xs := #[.tmp 37, .tmp 41]) rfl ?_); at_builtin; refine Kd.R_append_rows k65 (w0 := w) w.heap.size rfl (.tmp 37) (.tmp 41) 36 65 (.agg #[(.string ⟨#[]⟩), (.int .i64 0)]) 24 rfl Try.underlying36 info65 rfl (by decide) (by omega) v160 y159 y162 _ _ _ (fun _ => True) (fun _ => False) rfl rfl ?aO ?aR (fun _ _ h => h) (fun _ h => h.elim) ?aF ?aB ?aS ?aL ?_; (case aR => repeat (first | exact (Kd.C_below HR165.out HB.out) | (with_reducible refine Kd.C_alloc ?_ _) | (with_reducible refine Kd.C_drewN ?_ _) | (with_reducible refine Kd.C_drew ?_))); (case aB => exact (by exact hopb HB.out)); (case aF => exact (fun _ _ => trivial)); (case aO => exact (by (with_reducible repeat (first | apply Kd.R_alloc | apply Kd.R_drewN | apply Kd.R_drew)); exact HO161.out)); (case aS => exact (below_size (by exact hopb HB.out))); (case aL => have := LMc21.out; omega); intro v167 w28 ho hb hg hat; rw [← Ny166.out] at ho; replace HB := ak (hb); have HO168 := ak (ho); clear HO161; clear ho hb hg hat))
           go_ret2
           exact ⟨_, by first | rfl | (simp only [u8_w_, w64_u8_] <;> rfl) | (simp [errW_none, errW_some] <;> rfl) | (simp only [← hji18]; first | rfl | (simp [errW_none, errW_some] <;> rfl)) | (simp [*, errW_none, errW_some] <;> rfl), by (with_reducible repeat (first | apply Kd.R_alloc | apply Kd.R_drewN | apply Kd.R_drew)); exact HO168.out, by exact hopb HB.out⟩
          ·rw [if_neg c21] at H
           exact absurd H (by simp)
         ·rw [if_neg c20] at H
          exact absurd H (by simp)
        ·rw [if_neg c19] at H
         exact absurd H (by simp)
       ·rw [if_neg c17] at H
        exact absurd H (by simp)
      ·rw [if_neg c16] at H
       exact absurd H (by simp)
     ·rw [if_neg c14] at H
      have c14b0 : (((rd_T65 l0 t150).f0).toList == a1.toList) = false := beq_eq_false_iff_ne.mpr c14
      have c14b1 : (((rd_T65 l0 t150).f0).toList != a1.toList) = true := bne_iff_ne.mpr c14
      by_cases c29 : y146.length + l0.length < 5864062014805
      ·rw [if_pos c29] at H
       have LMc29 := ak c29
       clear c29
       obtain ⟨y169, hy169⟩ : ∃ y_ : List (S65), y_ = (y146 ++ l0) := ⟨_, rfl⟩
       replace H : (some (y169, false)) = some (r1, r2) := by first | (rw [hy169]; exact H) | exact H
       have Ny169 := ak hy169
       clear hy169
       simp only [Option.some.injEq, Prod.mk.injEq] at H
       obtain ⟨rfl, rfl⟩ := H
       go_enter Try.func27, Try.ntmps27
       go_wp2_with (first | ((with_reducible refine gate_dst (N := 8) rfl ?_); refine Kd.R_lit k65 _ 65 ?hg (N := 8) ?hd (xs := ([] : List (S65))) (inner := []) (ok := fun _ => True) (okp := fun _ => True) ?hr ?hp (fun _ hk => hk) trivial (Below.refl _ _) (Nat.le_refl _) (by simp) ?_; (case hd => rfl); (case hg => rfl); (case hr => first | (go_simp; done) | (go_simp; rfl)); (case hp => exact (Reps.none _ _)); intro v147 w30 ho31 hb hg_ hnew_; clear hg_ hnew_; (first | rw [← Ny146.out] at ho31 | (simp only [Int.reduceToNat] at ho31; rw [← Ny146.out] at ho31)); have HO148 := ak (Kd.R_lower ho31 (below_size (by exact hopb HB.out))); replace HB := ak (below_step (by exact hopb HB.out) hb); clear hb ho31) | ((with_reducible refine gate_callee (f := 54) rfl ?_); refine goesL_ (some 10) rfl rfl Try.func54 (by kernel_rfl) rfl #[.slice A0 l0.length c0] rfl (by (try simp only [List.map_toArray, List.map_cons, List.map_nil]); first | done | rfl | (simp only [List.length_drop, List.length_take]; rfl)) ?_; (with_reducible refine (spec_PairsValid.calls k _ _ l0 true _ ?side1 ?side2 A3.out).mono ?_); (case side1 => repeat (first | exact (Kd.C_below HR0.out HB.out) | (with_reducible refine Kd.C_alloc ?_ _) | (with_reducible refine Kd.C_drewN ?_ _) | (with_reducible refine Kd.C_drew ?_))); (case side2 => exact HC0.out); rintro e w32 ⟨rfl, hb⟩; refine ⟨_, rfl, ?_⟩; replace HO148 := ak (Kd.R_below (by (with_reducible repeat (first | apply Kd.R_alloc | apply Kd.R_drewN | apply Kd.R_drew)); exact HO148.out) hb); replace HB := ak (below_step (by exact hopb HB.out) hb); (try clear hb)) | ((with_reducible refine gate_callee (f := 55) rfl ?_); refine goesL_ (some 15) rfl rfl Try.func55 (by kernel_rfl) rfl #[.slice A0 l0.length c0, .string a1] rfl (by (try simp only [List.map_toArray, List.map_cons, List.map_nil]); first | done | rfl | (simp only [List.length_drop, List.length_take]; rfl)) ?_; (with_reducible refine (spec_l4Place.calls k _ _ l0 a1 t150 _ ?side1 ?side2 A5.out).mono ?_); (case side1 => repeat (first | exact (Kd.C_below HR0.out HB.out) | (with_reducible refine Kd.C_alloc ?_ _) | (with_reducible refine Kd.C_drewN ?_ _) | (with_reducible refine Kd.C_drew ?_))); (case side2 => exact HC0.out); rintro e w' ⟨rfl, ⟨nd, rfl⟩⟩; refine ⟨_, rfl, ?_⟩; have p154 : 0 ≤ (t150 : Int) := of_decide_eq_true (by assumption); have q154 : t150 < (l0.length : Int) := of_decide_eq_true (by assumption); obtain ⟨ad154, e154, hx154_0, hx154_1⟩ := at_T65 HR0.out t150 p154 q154; cases e154; replace hx154_0 := (HB.out.cell (World.block_lt_of_cell? w _ hx154_0)).trans hx154_0; replace hx154_1 := (HB.out.cell (World.block_lt_of_cell? w _ hx154_1)).trans hx154_1; replace p154 := eq_true p154; replace q154 := eq_true q154) | ((with_reducible refine gate_builtin (b := .append) (xs := #[.tmp 29, .tmp 30]) rfl ?_); at_builtin; refine Kd.R_append_rows k65 (w0 := w) w.heap.size rfl (.tmp 29) (.tmp 30) 36 65 (.agg #[(.string ⟨#[]⟩), (.int .i64 0)]) 24 rfl Try.underlying36 info65 rfl (by decide) (by omega) v147 y146 l0 _ _ _ (fun _ => True) (fun _ => False) rfl rfl ?aO ?aR (fun _ _ h => h) (fun _ h => h.elim) ?aF ?aB ?aS ?aL ?_; (case aR => repeat (first | exact (Kd.C_below HR0.out (by exact hopb HB.out)) | (with_reducible refine Kd.C_alloc ?_ _) | (with_reducible refine Kd.C_drewN ?_ _) | (with_reducible refine Kd.C_drew ?_))); (case aB => exact (by exact hopb HB.out)); (case aF => exact (fun _ _ => trivial)); (case aO => exact (by (with_reducible repeat (first | apply Kd.R_alloc | apply Kd.R_drewN | apply Kd.R_drew)); exact HO148.out)); (case aS => exact (below_size (by exact hopb HB.out))); (case aL => have := LMc29.out; omega); intro v170 w33 ho hb hg hat; rw [← Ny169.out] at ho; replace HB := ak (hb); have HO171 := ak (ho); clear HO148; clear ho hb hg hat))
       go_ret2
       exact ⟨_, by first | rfl | (simp [*, errW_none, errW_some] <;> rfl), by (with_reducible repeat (first | apply Kd.R_alloc | apply Kd.R_drewN | apply Kd.R_drew)); exact HO171.out, by exact hopb HB.out⟩
      ·rw [if_neg c29] at H
       exact absurd H (by simp)
    ·rw [if_neg c13] at H
     exact absurd H (by simp)
   ·rw [if_neg c12] at H
    exact absurd H (by simp)
 ·replace c4 := Bool.eq_false_iff.mpr c4
  subst c4
  rw [if_neg (show ¬ (false = true) by decide)] at H
  simp only [Option.some.injEq, Prod.mk.injEq] at H
  obtain ⟨rfl, rfl⟩ := H
  go_enter Try.func27, Try.ntmps27
  go_wp2_with (first | ((with_reducible refine gate_dst (N := 8) rfl ?_); refine Kd.R_lit k65 _ 65 ?hg (N := 8) ?hd (xs := ([] : List (S65))) (inner := []) (ok := fun _ => True) (okp := fun _ => True) ?hr ?hp (fun _ hk => hk) trivial (Below.refl _ _) (Nat.le_refl _) (by simp) ?_; (case hd => rfl); (case hg => rfl); (case hr => first | (go_simp; done) | (go_simp; rfl)); (case hp => exact (Reps.none _ _)); intro v147 w34 ho35 hb hg_ hnew_; clear hg_ hnew_; (first | rw [← Ny146.out] at ho35 | (simp only [Int.reduceToNat] at ho35; rw [← Ny146.out] at ho35)); have HO148 := ak (Kd.R_lower ho35 (below_size (by exact hopb HB.out))); replace HB := ak (below_step (by exact hopb HB.out) hb); clear hb ho35) | ((with_reducible refine gate_callee (f := 54) rfl ?_); refine goesL_ (some 10) rfl rfl Try.func54 (by kernel_rfl) rfl #[.slice A0 l0.length c0] rfl (by (try simp only [List.map_toArray, List.map_cons, List.map_nil]); first | done | rfl | (simp only [List.length_drop, List.length_take]; rfl)) ?_; (with_reducible refine (spec_PairsValid.calls k _ _ l0 false _ ?side1 ?side2 A3.out).mono ?_); (case side1 => repeat (first | exact (Kd.C_below HR0.out HB.out) | (with_reducible refine Kd.C_alloc ?_ _) | (with_reducible refine Kd.C_drewN ?_ _) | (with_reducible refine Kd.C_drew ?_))); (case side2 => exact HC0.out); rintro e w36 ⟨rfl, hb⟩; refine ⟨_, rfl, ?_⟩; replace HO148 := ak (Kd.R_below (by (with_reducible repeat (first | apply Kd.R_alloc | apply Kd.R_drewN | apply Kd.R_drew)); exact HO148.out) hb); replace HB := ak (below_step (by exact hopb HB.out) hb); (try clear hb)))
  go_ret2
  exact ⟨_, by first | rfl | (simp [*, errW_none, errW_some] <;> rfl), by (with_reducible repeat (first | apply Kd.R_alloc | apply Kd.R_drewN | apply Kd.R_drew)); exact HO148.out, by exact hopb HB.out⟩

end Go.Proofs.Ytengnnhehjcfhaa.PFnExactPagesDrop
