-- Written for this claim by a program of this session (wip/myprint in the proofs' repo)
import Derived.Test.YtengnnhehjcfhaaPFnPagesPutx0
import Derived.Test.YtengnnhehjcfhaaPFnPagesPutx3
import Derived.Test.YtengnnhehjcfhaaPFnPagesPutx4
import Derived.Test.YtengnnhehjcfhaaWZip
-- slim4
namespace Go.Proofs.Ytengnnhehjcfhaa.PFnPagesPut
open Go.RowKit Go.Proofs.YtengnnhehjcfhaaW.PrintWords Go.Proofs.YtengnnhehjcfhaaW.PrintLast Go.Proofs.YtengnnhehjcfhaaW.PrintMore
attribute [local go_sem] max2_int min2_int max_two min_two max_three min_three max_four min_four max2_strs min2_strs   -- for this text's walks alone
set_option linter.unusedVariables false
set_option linter.unusedSimpArgs false

/-! ### spec_PairDrop: function 27 -/
def spec_PairDrop.f (k : Nat) (l0 : List (S65)) (a1 : ByteArray) : Option ((List (S65)) × Bool) := (some (([] : List (S65)) : List (S65))).bind fun y142 => ((spec_PairsValid.f k l0).bind fun t145 => (if t145 = true then ((spec_l4Place.f k l0 a1).bind fun t146 => (if t146 = (l0.length : Int) then (if y142.length + l0.length < 5864062014805 then (some ((y142 ++ l0), false)) else (none)) else (if 0 ≤ t146 then (if t146 < (l0.length : Int) then (if ((rd_T65 l0 t146).f0).toList = a1.toList then (if t146 ≤ (l0.length : Int) then ((some (l0.take (t146 : Int).toNat : List (S65))).bind fun y151 => (if y142.length + y151.length < 5864062014805 then ((some (y142 ++ y151 : List (S65))).bind fun y155 => (if 0 ≤ (wrap64 (t146 + 1)) then (if (wrap64 (t146 + 1)) ≤ (l0.length : Int) then ((some (l0.drop ((wrap64 (t146 + 1)) : Int).toNat : List (S65))).bind fun y158 => (if y155.length + y158.length < 5864062014805 then (some ((y155 ++ y158), true)) else (none))) else (none)) else (none))) else (none))) else (none)) else (if y142.length + l0.length < 5864062014805 then (some ((y142 ++ l0), false)) else (none))) else (none)) else (none)))) else (some (y142, false))))
theorem spec_PairDrop.mono : ∀ a0 a1 k, LeO (spec_PairDrop.f k a0 a1) (spec_PairDrop.f (k + 1) a0 a1) := by
 intro a0 a1 k
 unfold spec_PairDrop.f
 repeat' first
   | (with_reducible exact spec_PairsValid.mono _ _)
   | (with_reducible exact spec_l4Place.mono _ _ _)
   | (with_reducible exact LeO.refl _)
   | (with_reducible exact LeO.none _)
   | (with_reducible refine LeO.ite ?_ ?_)
   | (with_reducible refine LeO.bind ?_ (fun _ => ?_))
   | exact LeO.none _
   | refine LeO.ite ?_ ?_
   | refine LeO.bind ?_ (fun _ => ?_)
set_option maxHeartbeats 8000000 in
set_option maxRecDepth 100000 in
theorem spec_PairDrop.calls (k : Nat) (A0 : Option Addr) (c0 : Nat) (l0 : List (S65)) (a1 : ByteArray) (r1 : List (S65)) (r2 : Bool) (w : World) (hr0 : Kd.C k65 w A0 l0.length l0) (hc0 : l0.length ≤ c0) (h : spec_PairDrop.f k l0 a1 = some (r1, r2)) :
  Calls Try.prog 27 #[.slice A0 l0.length c0, .string a1] w fun e w' => ∃ v0_ : Value, e = .returned (.tuple #[v0_, .bool r2]) ∧ Kd.R k65 65 w' w.heap.size (fun _ => True) v0_ r1 ∧ Below w.heap.size w w' := by
 have HR0 := ak hr0
 have HC0 := ak hc0
 clear hr0 hc0
 have HB := ak (Below.refl w.heap.size w)
 have H : ((some (([] : List (S65)) : List (S65))).bind fun y142 => ((spec_PairsValid.f k l0).bind fun t145 => (if t145 = true then ((spec_l4Place.f k l0 a1).bind fun t146 => (if t146 = (l0.length : Int) then (if y142.length + l0.length < 5864062014805 then (some ((y142 ++ l0), false)) else (none)) else (if 0 ≤ t146 then (if t146 < (l0.length : Int) then (if ((rd_T65 l0 t146).f0).toList = a1.toList then (if t146 ≤ (l0.length : Int) then ((some (l0.take (t146 : Int).toNat : List (S65))).bind fun y151 => (if y142.length + y151.length < 5864062014805 then ((some (y142 ++ y151 : List (S65))).bind fun y155 => (if 0 ≤ (wrap64 (t146 + 1)) then (if (wrap64 (t146 + 1)) ≤ (l0.length : Int) then ((some (l0.drop ((wrap64 (t146 + 1)) : Int).toNat : List (S65))).bind fun y158 => (if y155.length + y158.length < 5864062014805 then (some ((y155 ++ y158), true)) else (none))) else (none)) else (none))) else (none))) else (none)) else (if y142.length + l0.length < 5864062014805 then (some ((y142 ++ l0), false)) else (none))) else (none)) else (none)))) else (some (y142, false))))) = some (r1, r2) := h
 clear h
 obtain ⟨y142, hy142⟩ : ∃ y_ : List (S65), y_ = (([] : List (S65))) := ⟨_, rfl⟩
 replace H : ((spec_PairsValid.f k l0).bind fun t145 => (if t145 = true then ((spec_l4Place.f k l0 a1).bind fun t146 => (if t146 = (l0.length : Int) then (if y142.length + l0.length < 5864062014805 then (some ((y142 ++ l0), false)) else (none)) else (if 0 ≤ t146 then (if t146 < (l0.length : Int) then (if ((rd_T65 l0 t146).f0).toList = a1.toList then (if t146 ≤ (l0.length : Int) then ((some (l0.take (t146 : Int).toNat : List (S65))).bind fun y151 => (if y142.length + y151.length < 5864062014805 then ((some (y142 ++ y151 : List (S65))).bind fun y155 => (if 0 ≤ (wrap64 (t146 + 1)) then (if (wrap64 (t146 + 1)) ≤ (l0.length : Int) then ((some (l0.drop ((wrap64 (t146 + 1)) : Int).toNat : List (S65))).bind fun y158 => (if y155.length + y158.length < 5864062014805 then (some ((y155 ++ y158), true)) else (none))) else (none)) else (none))) else (none))) else (none)) else (if y142.length + l0.length < 5864062014805 then (some ((y142 ++ l0), false)) else (none))) else (none)) else (none)))) else (some (y142, false)))) = some (r1, r2) := by first | (rw [hy142]; exact H) | exact H
 have Ny142 := ak hy142
 clear hy142
 replace H := Option.bind_eq_some_iff.mp H
 obtain ⟨t145, A30, H⟩ := H
 try dsimp only at H
 have A3 := ak A30
 clear A30
 by_cases c4 : t145 = true
 ·subst c4
  rw [if_pos rfl] at H
  replace H := Option.bind_eq_some_iff.mp H
  obtain ⟨t146, A50, H⟩ := H
  try dsimp only at H
  have A5 := ak A50
  clear A50
  by_cases c6 : t146 = (l0.length : Int)
  ·rw [if_pos c6] at H
   have c6b0 : (t146 == (l0.length : Int)) = true := beq_iff_eq.mpr c6
   have c6b1 : (t146 != (l0.length : Int)) = false := bne_eq_false_iff_eq.mpr c6
   clear c6
   by_cases c7 : y142.length + l0.length < 5864062014805
   ·rw [if_pos c7] at H
    have LMc7 := ak c7
    clear c7
    obtain ⟨y147, hy147⟩ : ∃ y_ : List (S65), y_ = (y142 ++ l0) := ⟨_, rfl⟩
    replace H : (some (y147, false)) = some (r1, r2) := by first | (rw [hy147]; exact H) | exact H
    have Ny147 := ak hy147
    clear hy147
    simp only [Option.some.injEq, Prod.mk.injEq] at H
    obtain ⟨rfl, rfl⟩ := H
    go_enter Try.func27, Try.ntmps27
    go_wp2_with (first | ((with_reducible refine gate_dst (N := 8) rfl ?_); refine Kd.R_lit k65 _ 65 ?hg (N := 8) ?hd (xs := ([] : List (S65))) (inner := []) (ok := fun _ => True) (okp := fun _ => True) ?hr ?hp (fun _ hk => hk) trivial (Below.refl _ _) (Nat.le_refl _) (by simp) ?_; (case hd => rfl); (case hg => rfl); (case hr => go_simp <;> rfl); (case hp => exact (Reps.none _ _)); intro v143 w8 ho9 hb hg_ hnew_; clear hg_ hnew_; (first | rw [← Ny142.out] at ho9 | (simp only [Int.reduceToNat] at ho9; rw [← Ny142.out] at ho9)); have HO144 := ak (Kd.R_lower ho9 (below_size (by exact hopb HB.out))); replace HB := ak (below_step (by exact hopb HB.out) hb); clear hb ho9) | ((with_reducible refine gate_callee (f := 54) rfl ?_); refine gL (some 10) Try.func54 #[.slice A0 l0.length c0] ?_; (with_reducible refine (spec_PairsValid.calls k _ _ l0 true _ ?side1 ?side2 A3.out).mono ?_); (case side1 => exact hC (Kd.C_below HR0.out HB.out)); (case side2 => exact HC0.out); rintro e w10 ⟨rfl, hb⟩; refine ⟨_, rfl, ?_⟩; replace HO144 := ak (Kd.R_below (hR HO144.out) hb); replace HB := ak (below_step (by exact hopb HB.out) hb); (try clear hb)) | ((with_reducible refine gate_callee (f := 55) rfl ?_); refine gL (some 15) Try.func55 #[.slice A0 l0.length c0, .string a1] ?_; (with_reducible refine (spec_l4Place.calls k _ _ l0 a1 t146 _ ?side1 ?side2 A5.out).mono ?_); (case side1 => exact hC (Kd.C_below HR0.out HB.out)); (case side2 => exact HC0.out); rintro e w' ⟨rfl, ⟨nd, rfl⟩⟩; refine ⟨_, rfl, ?_⟩) | ((with_reducible refine gate_builtin (b := .append) (xs := #[.tmp 29, .tmp 30]) rfl ?_); at_builtin; refine Kd.R_append_rows k65 (w0 := w) w.heap.size rfl (.tmp 29) (.tmp 30) 36 65 (.agg #[(.string ⟨#[]⟩), (.int .i64 0)]) 24 rfl Try.underlying36 info65 rfl (by decide) (by omega) v143 y142 l0 _ _ _ (fun _ => True) (fun _ => False) rfl rfl ?aO ?aR (fun _ _ h => h) (fun _ h => h.elim) ?aF ?aB ?aS ?aL ?_; (case aR => exact (Kd.C_below HR0.out (by exact hopb HB.out))); (case aB => exact (by exact hopb HB.out)); (case aF => exact (fun _ _ => trivial)); (case aO => exact (hR HO144.out)); (case aS => exact (below_size (by exact hopb HB.out))); (case aL => have := LMc7.out; omega); intro v148 w11 ho hb hg hat; rw [← Ny147.out] at ho; replace HB := ak (hb); have HO149 := ak (ho); clear HO144; clear ho hb hg hat))
    go_ret2
    exact ⟨_, by first | rfl | (simp [*, errW_none, errW_some] <;> rfl), by (with_reducible repeat (first | apply Kd.R_alloc | apply Kd.R_drewN | apply Kd.R_drew)); exact HO149.out, by exact hopb HB.out⟩
   ·rw [if_neg c7] at H
    exact absurd H (by simp)
  ·rw [if_neg c6] at H
   have c6b0 : (t146 == (l0.length : Int)) = false := beq_eq_false_iff_ne.mpr c6
   have c6b1 : (t146 != (l0.length : Int)) = true := bne_iff_ne.mpr c6
   by_cases c12 : 0 ≤ t146
   ·rw [if_pos c12] at H
    have c12b0 : decide (0 ≤ t146) = true := decide_eq_true c12
    clear c12
    by_cases c13 : t146 < (l0.length : Int)
    ·rw [if_pos c13] at H
     have c13b0 : decide (t146 < (l0.length : Int)) = true := decide_eq_true c13
     clear c13
     by_cases c14 : ((rd_T65 l0 t146).f0).toList = a1.toList
     ·rw [if_pos c14] at H
      have c14b0 : (((rd_T65 l0 t146).f0).toList == a1.toList) = true := beq_iff_eq.mpr c14
      have c14b1 : (((rd_T65 l0 t146).f0).toList != a1.toList) = false := bne_eq_false_iff_eq.mpr c14
      clear c14
      have c15b0 := eq_true (of_decide_eq_true (by assumption) : 0 ≤ t146)
      by_cases c16 : t146 ≤ (l0.length : Int)
      ·rw [if_pos c16] at H
       have c16b0 := eq_true c16
       have c16b1 : decide (t146 ≤ (l0.length : Int)) = true := decide_eq_true c16
       clear c16
       obtain ⟨y151, hy151⟩ : ∃ y_ : List (S65), y_ = (l0.take (t146 : Int).toNat) := ⟨_, rfl⟩
       replace H : (if y142.length + y151.length < 5864062014805 then ((some (y142 ++ y151 : List (S65))).bind fun y155 => (if 0 ≤ (wrap64 (t146 + 1)) then (if (wrap64 (t146 + 1)) ≤ (l0.length : Int) then ((some (l0.drop ((wrap64 (t146 + 1)) : Int).toNat : List (S65))).bind fun y158 => (if y155.length + y158.length < 5864062014805 then (some ((y155 ++ y158), true)) else (none))) else (none)) else (none))) else (none)) = some (r1, r2) := by first | (rw [hy151]; exact H) | exact H
       have Ny151 := ak hy151
       clear hy151
       by_cases c17 : y142.length + y151.length < 5864062014805
       ·rw [if_pos c17] at H
        have LMc17 := ak c17
        clear c17
        obtain ⟨y155, hy155⟩ : ∃ y_ : List (S65), y_ = (y142 ++ y151) := ⟨_, rfl⟩
        replace H : (if 0 ≤ (wrap64 (t146 + 1)) then (if (wrap64 (t146 + 1)) ≤ (l0.length : Int) then ((some (l0.drop ((wrap64 (t146 + 1)) : Int).toNat : List (S65))).bind fun y158 => (if y155.length + y158.length < 5864062014805 then (some ((y155 ++ y158), true)) else (none))) else (none)) else (none)) = some (r1, r2) := by first | (rw [hy155]; exact H) | exact H
        have Ny155 := ak hy155
        clear hy155
        obtain ⟨ji18, hji18⟩ : ∃ j_ : Int, (wrap64 (t146 + 1)) = j_ := ⟨_, rfl⟩
        replace H : (if 0 ≤ (ji18) then (if (ji18) ≤ (l0.length : Int) then ((some (l0.drop ((ji18) : Int).toNat : List (S65))).bind fun y158 => (if y155.length + y158.length < 5864062014805 then (some ((y155 ++ y158), true)) else (none))) else (none)) else (none)) = some (r1, r2) := by first | (rw [hji18] at H; exact H) | (simp only [hji18] at H ⊢; exact H)
        (try rw [hji18] at A3)
        (try rw [hji18] at A5)
        have hji18w : (IntKind.i64.wrap (t146 + 1)) = ji18 := (i64_w _).trans hji18
        by_cases c19 : 0 ≤ (ji18)
        ·rw [if_pos c19] at H
         have c19b0 := eq_true c19
         have c19b1 : decide (0 ≤ (ji18)) = true := decide_eq_true c19
         clear c19
         by_cases c20 : (ji18) ≤ (l0.length : Int)
         ·rw [if_pos c20] at H
          have c20b0 := eq_true c20
          have c20b1 : decide ((ji18) ≤ (l0.length : Int)) = true := decide_eq_true c20
          clear c20
          obtain ⟨y158, hy158⟩ : ∃ y_ : List (S65), y_ = (l0.drop ((ji18) : Int).toNat) := ⟨_, rfl⟩
          replace H : (if y155.length + y158.length < 5864062014805 then (some ((y155 ++ y158), true)) else (none)) = some (r1, r2) := by first | (rw [hy158]; exact H) | exact H
          have Ny158 := ak hy158
          clear hy158
          by_cases c21 : y155.length + y158.length < 5864062014805
          ·rw [if_pos c21] at H
           have LMc21 := ak c21
           clear c21
           obtain ⟨y162, hy162⟩ : ∃ y_ : List (S65), y_ = (y155 ++ y158) := ⟨_, rfl⟩
           replace H : (some (y162, true)) = some (r1, r2) := by first | (rw [hy162]; exact H) | exact H
           have Ny162 := ak hy162
           clear hy162
           simp only [Option.some.injEq, Prod.mk.injEq] at H
           obtain ⟨rfl, rfl⟩ := H
           go_enter Try.func27, Try.ntmps27
           go_wp2_with (first | ((with_reducible refine gate_dst (N := 8) rfl ?_); refine Kd.R_lit k65 _ 65 ?hg (N := 8) ?hd (xs := ([] : List (S65))) (inner := []) (ok := fun _ => True) (okp := fun _ => True) ?hr ?hp (fun _ hk => hk) trivial (Below.refl _ _) (Nat.le_refl _) (by simp) ?_; (case hd => rfl); (case hg => rfl); (case hr => go_simp <;> rfl); (case hp => exact (Reps.none _ _)); intro v143 w22 ho23 hb hg_ hnew_; clear hg_ hnew_; (first | rw [← Ny142.out] at ho23 | (simp only [Int.reduceToNat] at ho23; rw [← Ny142.out] at ho23)); have HO144 := ak (Kd.R_lower ho23 (below_size (by exact hopb HB.out))); replace HB := ak (below_step (by exact hopb HB.out) hb); clear hb ho23) | ((with_reducible refine gate_callee (f := 54) rfl ?_); refine gL (some 10) Try.func54 #[.slice A0 l0.length c0] ?_; (with_reducible refine (spec_PairsValid.calls k _ _ l0 true _ ?side1 ?side2 A3.out).mono ?_); (case side1 => exact hC (Kd.C_below HR0.out HB.out)); (case side2 => exact HC0.out); rintro e w24 ⟨rfl, hb⟩; refine ⟨_, rfl, ?_⟩; replace HO144 := ak (Kd.R_below (hR HO144.out) hb); replace HB := ak (below_step (by exact hopb HB.out) hb); (try clear hb)) | ((with_reducible refine gate_callee (f := 55) rfl ?_); refine gL (some 15) Try.func55 #[.slice A0 l0.length c0, .string a1] ?_; (with_reducible refine (spec_l4Place.calls k _ _ l0 a1 t146 _ ?side1 ?side2 A5.out).mono ?_); (case side1 => exact hC (Kd.C_below HR0.out HB.out)); (case side2 => exact HC0.out); rintro e w' ⟨rfl, ⟨nd, rfl⟩⟩; refine ⟨_, rfl, ?_⟩; have p150 : 0 ≤ (t146 : Int) := of_decide_eq_true (by assumption); have q150 : t146 < (l0.length : Int) := of_decide_eq_true (by assumption); obtain ⟨ad150, e150, hx150_0, hx150_1⟩ := at_T65 HR0.out t146 p150 q150; cases e150; replace hx150_0 := (HB.out.cell (World.block_lt_of_cell? w _ hx150_0)).trans hx150_0; replace hx150_1 := (HB.out.cell (World.block_lt_of_cell? w _ hx150_1)).trans hx150_1; replace p150 := eq_true p150; replace q150 := eq_true q150; have q25 : (t146 : Int) ≤ ((l0.length : Int) : Int) := of_decide_eq_true (by assumption); obtain ⟨i025, hi025, _, hsz25, _⟩ := info_parts info65; have hroom25 : l0.length ≤ c0 := HC0.out; have hC25 : Kd.C k65 _ (some ad150) l0.length l0 := HR0.out; have hcut25 := cut_to (P := Try.prog) 36 65 .i64 Try.underlying36 hi025 (some ad150) l0.length c0 t146 (of_decide_eq_true (by assumption)) q25 hroom25; have hr25 := Kd.C_take (m := (t146 : Int).toNat) hC25 (by omega); have hy25 : y151.length = (t146 : Int).toNat := (by rw [Ny151.out, List.length_take]; omega); rw [← Ny151.out] at hr25; rw [← hy25] at hcut25; have HR154 := ak hr25; have HC154 := ak (show y151.length ≤ c0 from by omega); clear hr25 hC25 hroom25 hi025 hsz25; have KY25 := ak hy25; clear hy25; replace q25 := eq_true q25) | ((with_reducible refine gate_builtin (b := .append) (xs := #[.tmp 32, .tmp 35]) rfl ?_); at_builtin; refine Kd.R_append_rows k65 (w0 := w) w.heap.size rfl (.tmp 32) (.tmp 35) 36 65 (.agg #[(.string ⟨#[]⟩), (.int .i64 0)]) 24 rfl Try.underlying36 info65 rfl (by decide) (by omega) v143 y142 y151 _ _ _ (fun _ => True) (fun _ => False) rfl rfl ?aO ?aR (fun _ _ h => h) (fun _ h => h.elim) ?aF ?aB ?aS ?aL ?_; (case aR => exact (Kd.C_below HR154.out (by exact hopb HB.out))); (case aB => exact (by exact hopb HB.out)); (case aF => exact (fun _ _ => trivial)); (case aO => exact (hR HO144.out)); (case aS => exact (below_size (by exact hopb HB.out))); (case aL => have := LMc17.out; omega); intro v156 w26 ho hb hg hat; rw [← Ny155.out] at ho; replace HB := ak (hb); have HO157 := ak (ho); clear HO144; clear ho hb hg hat; have q27 : ((ji18) : Int) ≤ ((l0.length : Int) : Int) := of_decide_eq_true (by assumption); obtain ⟨i027, hi027, _, hsz27, _⟩ := info_parts info65; have hroom27 : l0.length ≤ c0 := HC0.out; have hC27 : Kd.C k65 _ (some ad150) l0.length l0 := HR0.out; have q027 : (0 : Int) ≤ ((ji18) : Int) := of_decide_eq_true (by assumption); have hcut27 := cut_from (P := Try.prog) 36 65 .i64 Try.underlying36 hi027 2 hsz27 (some ad150) l0.length c0 (ji18) q027 q27; have hr27 := Kd.C_drop (m := ((ji18) : Int).toNat) (c := c0) hC27 (by omega) hroom27; obtain ⟨A27, hA27⟩ : ∃ A1, A1 = (if c0 = ((ji18) : Int).toNat then (some ad150) else ((some ad150) : Option Addr).map (·.add (((ji18) : Int).toNat * 2))) := ⟨_, rfl⟩; obtain ⟨c27, hc27⟩ : ∃ c1, c1 = c0 - ((ji18) : Int).toNat := ⟨_, rfl⟩; have hy27 : y158.length = l0.length - ((ji18) : Int).toNat := (by rw [Ny158.out, List.length_drop] <;> omega); rw [show (l0).drop ((ji18) : Int).toNat = y158 from Ny158.out.symm] at hr27; replace hr27 : Kd.C k65 _ A27 y158.length y158 := (by rw [hA27]; exact hr27); rw [← hy27, ← hA27, ← hc27] at hcut27; have HR161 := ak hr27; have HC161 := ak (show y158.length ≤ c27 from by rw [hy27, hc27]; exact Nat.sub_le_sub_right hroom27 _); clear hr27 hC27 hroom27 hi027 hsz27 hc27; have KY27 := ak hy27; have KA27 := ak hA27; clear hy27 hA27; replace q27 := eq_true q27) | ((with_reducible refine gate_builtin (b := .append) (xs := #[.tmp 37, .tmp 41]) rfl ?_); at_builtin; refine Kd.R_append_rows k65 (w0 := w) w.heap.size rfl (.tmp 37) (.tmp 41) 36 65 (.agg #[(.string ⟨#[]⟩), (.int .i64 0)]) 24 rfl Try.underlying36 info65 rfl (by decide) (by omega) v156 y155 y158 _ _ _ (fun _ => True) (fun _ => False) rfl rfl ?aO ?aR (fun _ _ h => h) (fun _ h => h.elim) ?aF ?aB ?aS ?aL ?_; (case aR => exact hC (Kd.C_below HR161.out HB.out)); (case aB => exact (by exact hopb HB.out)); (case aF => exact (fun _ _ => trivial)); (case aO => exact (hR HO157.out)); (case aS => exact (below_size (by exact hopb HB.out))); (case aL => have := LMc21.out; omega); intro v163 w28 ho hb hg hat; rw [← Ny162.out] at ho; replace HB := ak (hb); have HO164 := ak (ho); clear HO157; clear ho hb hg hat))
           go_ret2
           exact ⟨_, by first | rfl | (simp only [u8_w_, w64_u8_] <;> rfl) | (simp [errW_none, errW_some] <;> rfl) | (simp only [← hji18]; first | rfl | (simp [errW_none, errW_some] <;> rfl)) | (simp [*, errW_none, errW_some] <;> rfl), by (with_reducible repeat (first | apply Kd.R_alloc | apply Kd.R_drewN | apply Kd.R_drew)); exact HO164.out, by exact hopb HB.out⟩
          ·rw [if_neg c21] at H
           exact absurd H (by simp)
         ·rw [if_neg c20] at H
          exact absurd H (by simp)
        ·rw [if_neg c19] at H
         exact absurd H (by simp)
       ·rw [if_neg c17] at H
        exact absurd H (by simp)
      ·rw [if_neg c16] at H
       exact absurd H (by simp)
     ·rw [if_neg c14] at H
      have c14b0 : (((rd_T65 l0 t146).f0).toList == a1.toList) = false := beq_eq_false_iff_ne.mpr c14
      have c14b1 : (((rd_T65 l0 t146).f0).toList != a1.toList) = true := bne_iff_ne.mpr c14
      by_cases c29 : y142.length + l0.length < 5864062014805
      ·rw [if_pos c29] at H
       have LMc29 := ak c29
       clear c29
       obtain ⟨y165, hy165⟩ : ∃ y_ : List (S65), y_ = (y142 ++ l0) := ⟨_, rfl⟩
       replace H : (some (y165, false)) = some (r1, r2) := by first | (rw [hy165]; exact H) | exact H
       have Ny165 := ak hy165
       clear hy165
       simp only [Option.some.injEq, Prod.mk.injEq] at H
       obtain ⟨rfl, rfl⟩ := H
       go_enter Try.func27, Try.ntmps27
       go_wp2_with (first | ((with_reducible refine gate_dst (N := 8) rfl ?_); refine Kd.R_lit k65 _ 65 ?hg (N := 8) ?hd (xs := ([] : List (S65))) (inner := []) (ok := fun _ => True) (okp := fun _ => True) ?hr ?hp (fun _ hk => hk) trivial (Below.refl _ _) (Nat.le_refl _) (by simp) ?_; (case hd => rfl); (case hg => rfl); (case hr => go_simp <;> rfl); (case hp => exact (Reps.none _ _)); intro v143 w30 ho31 hb hg_ hnew_; clear hg_ hnew_; (first | rw [← Ny142.out] at ho31 | (simp only [Int.reduceToNat] at ho31; rw [← Ny142.out] at ho31)); have HO144 := ak (Kd.R_lower ho31 (below_size (by exact hopb HB.out))); replace HB := ak (below_step (by exact hopb HB.out) hb); clear hb ho31) | ((with_reducible refine gate_callee (f := 54) rfl ?_); refine gL (some 10) Try.func54 #[.slice A0 l0.length c0] ?_; (with_reducible refine (spec_PairsValid.calls k _ _ l0 true _ ?side1 ?side2 A3.out).mono ?_); (case side1 => exact hC (Kd.C_below HR0.out HB.out)); (case side2 => exact HC0.out); rintro e w32 ⟨rfl, hb⟩; refine ⟨_, rfl, ?_⟩; replace HO144 := ak (Kd.R_below (hR HO144.out) hb); replace HB := ak (below_step (by exact hopb HB.out) hb); (try clear hb)) | ((with_reducible refine gate_callee (f := 55) rfl ?_); refine gL (some 15) Try.func55 #[.slice A0 l0.length c0, .string a1] ?_; (with_reducible refine (spec_l4Place.calls k _ _ l0 a1 t146 _ ?side1 ?side2 A5.out).mono ?_); (case side1 => exact hC (Kd.C_below HR0.out HB.out)); (case side2 => exact HC0.out); rintro e w' ⟨rfl, ⟨nd, rfl⟩⟩; refine ⟨_, rfl, ?_⟩; have p150 : 0 ≤ (t146 : Int) := of_decide_eq_true (by assumption); have q150 : t146 < (l0.length : Int) := of_decide_eq_true (by assumption); obtain ⟨ad150, e150, hx150_0, hx150_1⟩ := at_T65 HR0.out t146 p150 q150; cases e150; replace hx150_0 := (HB.out.cell (World.block_lt_of_cell? w _ hx150_0)).trans hx150_0; replace hx150_1 := (HB.out.cell (World.block_lt_of_cell? w _ hx150_1)).trans hx150_1; replace p150 := eq_true p150; replace q150 := eq_true q150) | ((with_reducible refine gate_builtin (b := .append) (xs := #[.tmp 29, .tmp 30]) rfl ?_); at_builtin; refine Kd.R_append_rows k65 (w0 := w) w.heap.size rfl (.tmp 29) (.tmp 30) 36 65 (.agg #[(.string ⟨#[]⟩), (.int .i64 0)]) 24 rfl Try.underlying36 info65 rfl (by decide) (by omega) v143 y142 l0 _ _ _ (fun _ => True) (fun _ => False) rfl rfl ?aO ?aR (fun _ _ h => h) (fun _ h => h.elim) ?aF ?aB ?aS ?aL ?_; (case aR => exact (Kd.C_below HR0.out (by exact hopb HB.out))); (case aB => exact (by exact hopb HB.out)); (case aF => exact (fun _ _ => trivial)); (case aO => exact (hR HO144.out)); (case aS => exact (below_size (by exact hopb HB.out))); (case aL => have := LMc29.out; omega); intro v166 w33 ho hb hg hat; rw [← Ny165.out] at ho; replace HB := ak (hb); have HO167 := ak (ho); clear HO144; clear ho hb hg hat))
       go_ret2
       exact ⟨_, by first | rfl | (simp [*, errW_none, errW_some] <;> rfl), by (with_reducible repeat (first | apply Kd.R_alloc | apply Kd.R_drewN | apply Kd.R_drew)); exact HO167.out, by exact hopb HB.out⟩
      ·rw [if_neg c29] at H
       exact absurd H (by simp)
    ·rw [if_neg c13] at H
     exact absurd H (by simp)
   ·rw [if_neg c12] at H
    exact absurd H (by simp)
 ·replace c4 := Bool.eq_false_iff.mpr c4
  subst c4
  rw [if_neg (show ¬ (false = true) by decide)] at H
  simp only [Option.some.injEq, Prod.mk.injEq] at H
  obtain ⟨rfl, rfl⟩ := H
  go_enter Try.func27, Try.ntmps27
  go_wp2_with (first | ((with_reducible refine gate_dst (N := 8) rfl ?_); refine Kd.R_lit k65 _ 65 ?hg (N := 8) ?hd (xs := ([] : List (S65))) (inner := []) (ok := fun _ => True) (okp := fun _ => True) ?hr ?hp (fun _ hk => hk) trivial (Below.refl _ _) (Nat.le_refl _) (by simp) ?_; (case hd => rfl); (case hg => rfl); (case hr => go_simp <;> rfl); (case hp => exact (Reps.none _ _)); intro v143 w34 ho35 hb hg_ hnew_; clear hg_ hnew_; (first | rw [← Ny142.out] at ho35 | (simp only [Int.reduceToNat] at ho35; rw [← Ny142.out] at ho35)); have HO144 := ak (Kd.R_lower ho35 (below_size (by exact hopb HB.out))); replace HB := ak (below_step (by exact hopb HB.out) hb); clear hb ho35) | ((with_reducible refine gate_callee (f := 54) rfl ?_); refine gL (some 10) Try.func54 #[.slice A0 l0.length c0] ?_; (with_reducible refine (spec_PairsValid.calls k _ _ l0 false _ ?side1 ?side2 A3.out).mono ?_); (case side1 => exact hC (Kd.C_below HR0.out HB.out)); (case side2 => exact HC0.out); rintro e w36 ⟨rfl, hb⟩; refine ⟨_, rfl, ?_⟩; replace HO144 := ak (Kd.R_below (hR HO144.out) hb); replace HB := ak (below_step (by exact hopb HB.out) hb); (try clear hb)))
  go_ret2
  exact ⟨_, by first | rfl | (simp [*, errW_none, errW_some] <;> rfl), by (with_reducible repeat (first | apply Kd.R_alloc | apply Kd.R_drewN | apply Kd.R_drew)); exact HO144.out, by exact hopb HB.out⟩

end Go.Proofs.Ytengnnhehjcfhaa.PFnPagesPut
