-- Written for this claim by a program of this session (wip/myprint in the proofs' repo)
import Derived.Test.YtebgpbcbbjpbfaaPFnPageFindx0
import Derived.Test.YtebgpbcbbjpbfaaPFnPageFindx3
import Derived.Test.YtebgpbcbbjpbfaaPFnPageFindx5
import Derived.Test.YtebgpbcbbjpbfaaPFnPageFindx6
import Derived.Test.YtebgpbcbbjpbfaaPFnPageFindx9
import Derived.Test.YtebgpbcbbjpbfaaPFnPageFindx10
import Derived.Test.YtebgpbcbbjpbfaaWZip
-- slim3
namespace Go.Proofs.Ytebgpbcbbjpbfaa.PFnPageFind
open Go.RowKit Go.Proofs.YtebgpbcbbjpbfaaW.PrintWords Go.Proofs.YtebgpbcbbjpbfaaW.PrintLast Go.Proofs.YtebgpbcbbjpbfaaW.PrintMore
attribute [local go_sem] max2_int min2_int max_two min_two max_three min_three max_four min_four max2_strs min2_strs   -- for this text's walks alone
set_option linter.unusedVariables false
set_option linter.unusedSimpArgs false
set_option maxHeartbeats 8000000
set_option maxRecDepth 100000

/-! ### spec_PagesDrop: function 47 -/
def spec_PagesDrop.j0 : Nat → List (S64) → ByteArray → Bool → Option ((List (S64)) × Bool)
 | 0, _, _, _ => none
 | k + 1, x0, x1, x17 => if x17 = true then (some ((([] : List (S64))), false)) else ((spec_l6Copy.f k x0).bind fun t466 => ((spec_PageFind.f k x0 x1).bind fun t469 => (if t469 < 0 then (some (t466, false)) else (if 0 ≤ t469 then (if t469 < (x0.length : Int) then ((spec_PairDrop.f k ((rd_T64 x0 t469).f0) x1).bind fun bt471 => (if bt471.2 = true then (if t469 < (t466.length : Int) then ((spec_l6Mend.f k (t466.set (t469 : Int).toNat (⟨bt471.1⟩ : S64)) t469).bind fun t476 => (some (t476, true))) else (none)) else (some (t466, false)))) else (none)) else (none)))))
def spec_PagesDrop.f (k : Nat) (l0 : List (S64)) (a1 : ByteArray) : Option ((List (S64)) × Bool) := (spec_PagesValid.f k l0).bind fun t461 => (if t461 = true then ((spec_KeyValid.f k a1).bind fun t462 => (spec_PagesDrop.j0 k l0 a1 (!t462))) else (spec_PagesDrop.j0 k l0 a1 true))
theorem spec_PagesDrop.mono_l : ∀ k, (∀ y0 y1 y2, LeO (spec_PagesDrop.j0 k y0 y1 y2) (spec_PagesDrop.j0 (k + 1) y0 y1 y2))
 | 0 => fun _ _ _ r h => by simp [spec_PagesDrop.j0] at h
 | k + 1 => by
  have ih0 := spec_PagesDrop.mono_l k
  ·intro y0 y1 y2
   unfold spec_PagesDrop.j0
   repeat' first
   | (with_reducible exact ih0 _ _ _)
   | (with_reducible exact spec_KeyValid.mono _ _)
   | (with_reducible exact spec_PageFind.mono _ _ _)
   | (with_reducible exact spec_PagesValid.mono _ _)
   | (with_reducible exact spec_PairDrop.mono _ _ _)
   | (with_reducible exact spec_l6Copy.mono _ _)
   | (with_reducible exact spec_l6Mend.mono _ _ _)
   | (with_reducible exact LeO.refl _)
   | (with_reducible exact LeO.none _)
   | (with_reducible refine LeO.ite ?_ ?_)
   | (with_reducible refine LeO.bind ?_ (fun _ => ?_))
   | exact ih0 _ _ _
   | exact LeO.none _
   | refine LeO.ite ?_ ?_
   | refine LeO.bind ?_ (fun _ => ?_)
theorem spec_PagesDrop.mono : ∀ a0 a1 k, LeO (spec_PagesDrop.f k a0 a1) (spec_PagesDrop.f (k + 1) a0 a1) := by
 intro a0 a1 k
 have ih0 := spec_PagesDrop.mono_l k
 unfold spec_PagesDrop.f
 repeat' first
   | (with_reducible exact ih0 _ _ _)
   | (with_reducible exact spec_KeyValid.mono _ _)
   | (with_reducible exact spec_PageFind.mono _ _ _)
   | (with_reducible exact spec_PagesValid.mono _ _)
   | (with_reducible exact spec_PairDrop.mono _ _ _)
   | (with_reducible exact spec_l6Copy.mono _ _)
   | (with_reducible exact spec_l6Mend.mono _ _ _)
   | (with_reducible exact LeO.refl _)
   | (with_reducible exact LeO.none _)
   | (with_reducible refine LeO.ite ?_ ?_)
   | (with_reducible refine LeO.bind ?_ (fun _ => ?_))
   | exact ih0 _ _ _
   | exact LeO.none _
   | refine LeO.ite ?_ ?_
   | refine LeO.bind ?_ (fun _ => ?_)
theorem spec_PagesDrop.calls (k : Nat) (A0 : Option Addr) (c0 : Nat) (l0 : List (S64)) (a1 : ByteArray) (r1 : List (S64)) (r2 : Bool) (w : World) (hr0 : Kd.C k64 w A0 l0.length l0) (hc0 : l0.length ≤ c0) (h : spec_PagesDrop.f k l0 a1 = some (r1, r2)) :
  Calls Try.prog 47 #[.slice A0 l0.length c0, .string a1] w fun e w' => ∃ v0_ : Value, e = .returned (.tuple #[v0_, .bool r2]) ∧ Kd.N k64 64 w' w.heap.size (fun k_ => (w.heap.size ≤ k_)) v0_ r1 ∧ Below w.heap.size w w' := by
 have HR0 := ak hr0
 have HC0 := ak hc0
 clear hr0 hc0
 have HB := ak (Below.refl w.heap.size w)
 have H : ((spec_PagesValid.f k l0).bind fun t461 => (if t461 = true then ((spec_KeyValid.f k a1).bind fun t462 => (spec_PagesDrop.j0 k l0 a1 (!t462))) else (spec_PagesDrop.j0 k l0 a1 true))) = some (r1, r2) := h
 clear h
 have HC3 := ak H
 clear H
 go_enter Try.func47, Try.ntmps47
 go_upto_region 1 with (fail)
 go_cut [17] (fun v17 wc => ∃ (kq : Nat) (x17_2 : Bool), v17 = .bool x17_2 ∧ Aside0 (spec_PagesDrop.j0 kq l0 a1 x17_2 = some (r1, r2)) ∧ Aside0 (kq ≤ k) ∧ Aside0 (Below w.heap.size w wc))
 case first =>
  have H := HC3.out
  clear HC3
  replace H := Option.bind_eq_some_iff.mp H
  obtain ⟨t461, A40, H⟩ := H
  try dsimp only at H
  have A4 := ak A40
  clear A40
  by_cases c5 : t461 = true
  ·subst c5
   rw [if_pos rfl] at H
   replace H := Option.bind_eq_some_iff.mp H
   obtain ⟨t462, A60, H⟩ := H
   try dsimp only at H
   have A6 := ak A60
   clear A60
   have H' := ak H
   clear H
   go_wp2_with (first | ((with_reducible refine gate_callee (f := 32) rfl ?_); refine goesL_ (some 11) rfl rfl Try.func32 (by kernel_rfl) rfl #[.slice A0 l0.length c0] rfl (by (try simp only [List.map_toArray, List.map_cons, List.map_nil]); first | done | rfl | (simp only [List.length_drop, List.length_take]; rfl)) ?_; (with_reducible refine (spec_PagesValid.calls k _ _ l0 true _ ?side1 ?side2 A4.out).mono ?_); (case side1 => repeat (first | exact (Kd.C_below HR0.out HB.out) | (with_reducible refine Kd.C_alloc ?_ _) | (with_reducible refine Kd.C_drewN ?_ _) | (with_reducible refine Kd.C_drew ?_))); (case side2 => exact HC0.out); rintro e w7 ⟨rfl, hb⟩; refine ⟨_, rfl, ?_⟩; replace HB := ak (below_step (by exact hopb HB.out) hb); (try clear hb)) | (go_at_call 76; (with_reducible refine (spec_KeyValid.calls k a1 t462 _ A6.out).mono ?_); rintro e w' ⟨rfl, ⟨nd, rfl⟩⟩))
   go_meet
   case rel => exact ⟨_, (!t462), (by first | rfl | (simp; done) | (simp [bne]; done) | (simp [*]; done)), H', ⟨by first | omega | exact Nat.le_refl _⟩, ⟨by exact hopb HB.out⟩⟩
  ·replace c5 := Bool.eq_false_iff.mpr c5
   subst c5
   rw [if_neg (show ¬ (false = true) by decide)] at H
   have H' := ak H
   clear H
   go_wp2_with (first | ((with_reducible refine gate_callee (f := 32) rfl ?_); refine goesL_ (some 11) rfl rfl Try.func32 (by kernel_rfl) rfl #[.slice A0 l0.length c0] rfl (by (try simp only [List.map_toArray, List.map_cons, List.map_nil]); first | done | rfl | (simp only [List.length_drop, List.length_take]; rfl)) ?_; (with_reducible refine (spec_PagesValid.calls k _ _ l0 false _ ?side1 ?side2 A4.out).mono ?_); (case side1 => repeat (first | exact (Kd.C_below HR0.out HB.out) | (with_reducible refine Kd.C_alloc ?_ _) | (with_reducible refine Kd.C_drewN ?_ _) | (with_reducible refine Kd.C_drew ?_))); (case side2 => exact HC0.out); rintro e w8 ⟨rfl, hb⟩; refine ⟨_, rfl, ?_⟩; replace HB := ak (below_step (by exact hopb HB.out) hb); (try clear hb)))
   go_meet
   case rel => exact ⟨_, (true), (by first | rfl | (simp; done) | (simp [bne]; done) | (simp [*]; done)), H', ⟨by first | omega | exact Nat.le_refl _⟩, ⟨by exact hopb HB.out⟩⟩
 case rest =>
  clear HC3
  try clear p2
  try clear c3
  try clear c4
  try clear c5
  obtain ⟨kq, x17_2, rfl, HA, HJ2, HB⟩ := hcut
  cases kq with
  | zero => exact absurd HA.out (by simp [spec_PagesDrop.j0])
  | succ kj2 =>
   have H := HA.out
   clear HA
   simp only [spec_PagesDrop.j0] at H
   by_cases c9 : x17_2 = true
   ·subst c9
    rw [if_pos rfl] at H
    obtain ⟨y463, hy463⟩ : ∃ y_ : List (S64), y_ = (([] : List (S64))) := ⟨_, rfl⟩
    replace H : (some (y463, false)) = some (r1, r2) := by first | (rw [hy463]; exact H) | exact H
    have Ny463 := ak hy463
    clear hy463
    simp only [Option.some.injEq, Prod.mk.injEq] at H
    obtain ⟨rfl, rfl⟩ := H
    go_wp2_with (first | ((with_reducible refine gate_dst (N := 18) rfl ?_); refine Kd.N_lit k64 _ 64 ?hg (N' := 18) ?hd (xs := ([] : List (S64))) (inner := []) (ok := (fun k_ => (w.heap.size ≤ k_))) (okp := (fun k_ => (w.heap.size ≤ k_))) ?hr ?hp (fun _ hk => hk) ((show ∀ k_, wc.heap.size ≤ k_ → (fun k_ => (w.heap.size ≤ k_)) k_ from fun k_ hk => (Nat.le_trans (below_size (by exact hopb HB.out)) hk)) _ (Nat.le_refl _)) (Below.refl _ _) (Nat.le_refl _) (by simp) ?_; (case hd => rfl); (case hg => rfl); (case hr => first | (go_simp; done) | (go_simp; rfl)); (case hp => exact (Reps.none _ _)); intro v464 w10 ho11 hb hg_ hnew_; clear hg_ hnew_; (first | rw [← Ny463.out] at ho11 | (simp only [Int.reduceToNat] at ho11; rw [← Ny463.out] at ho11)); have HO465 := ak (Kd.N_lower ho11 (below_size (by exact hopb HB.out))); replace HB := ak (below_step (by exact hopb HB.out) hb); clear hb ho11))
    go_ret2
    exact ⟨_, by first | rfl | (simp only [u8_w_, w64_u8_] <;> rfl) | (simp [errW_none, errW_some] <;> rfl) | (simp [*, errW_none, errW_some] <;> rfl), by (with_reducible repeat (first | apply Kd.N_alloc | apply Kd.N_drewN | apply Kd.N_drew)); exact HO465.out, by exact hopb HB.out⟩
   ·replace c9 := Bool.eq_false_iff.mpr c9
    subst c9
    rw [if_neg (show ¬ (false = true) by decide)] at H
    replace H := Option.bind_eq_some_iff.mp H
    obtain ⟨t466, A120, H⟩ := H
    try dsimp only at H
    have A12 := ak A120
    clear A120
    replace H := Option.bind_eq_some_iff.mp H
    obtain ⟨t469, A130, H⟩ := H
    try dsimp only at H
    have A13 := ak A130
    clear A130
    by_cases c14 : t469 < 0
    ·rw [if_pos c14] at H
     have c14b0 : decide (t469 < 0) = true := decide_eq_true c14
     clear c14
     simp only [Option.some.injEq, Prod.mk.injEq] at H
     obtain ⟨rfl, rfl⟩ := H
     go_wp2_with (first | ((with_reducible refine gate_callee (f := 82) rfl ?_); refine goesL_ (some 20) rfl rfl Try.func82 (by kernel_rfl) rfl #[.slice A0 l0.length c0] rfl (by (try simp only [List.map_toArray, List.map_cons, List.map_nil]); first | done | rfl | (simp only [List.length_drop, List.length_take]; rfl)) ?_; (with_reducible refine (spec_l6Copy.calls kj2 _ _ l0 t466 _ ?side1 ?side2 A12.out).mono ?_); (case side1 => repeat (first | exact (Kd.C_below HR0.out HB.out) | (with_reducible refine Kd.C_alloc ?_ _) | (with_reducible refine Kd.C_drewN ?_ _) | (with_reducible refine Kd.C_drew ?_))); (case side2 => exact HC0.out); rintro e w15 ⟨v467, rfl, ho0, hb⟩; refine ⟨_, rfl, ?_⟩; have HO468 := ak (Kd.N_lower (Kd.N_mono (ok' := fun k_ => (w.heap.size ≤ k_)) (Kd.S_N (Kd.S_bound ho0)) (fun k_ hk_ => (Nat.le_trans (below_size (by exact hopb HB.out)) hk_.2.1))) (below_size (by exact hopb HB.out))); replace HB := ak (below_step (by exact hopb HB.out) hb); (try clear hb); (try clear ho0)) | ((with_reducible refine gate_callee (f := 35) rfl ?_); refine goesL_ (some 23) rfl rfl Try.func35 (by kernel_rfl) rfl #[.slice A0 l0.length c0, .string a1] rfl (by (try simp only [List.map_toArray, List.map_cons, List.map_nil]); first | done | rfl | (simp only [List.length_drop, List.length_take]; rfl)) ?_; (with_reducible refine (spec_PageFind.calls kj2 _ _ l0 a1 t469 _ ?side1 ?side2 A13.out).mono ?_); (case side1 => repeat (first | exact (Kd.C_below HR0.out HB.out) | (with_reducible refine Kd.C_alloc ?_ _) | (with_reducible refine Kd.C_drewN ?_ _) | (with_reducible refine Kd.C_drew ?_))); (case side2 => exact HC0.out); rintro e w16 ⟨rfl, hb⟩; refine ⟨_, rfl, ?_⟩; replace HO468 := ak (Kd.N_below (by (with_reducible repeat (first | apply Kd.N_alloc | apply Kd.N_drewN | apply Kd.N_drew)); exact HO468.out) hb); replace HB := ak (below_step (by exact hopb HB.out) hb); (try clear hb)))
     go_ret2
     exact ⟨_, by first | rfl | (simp only [u8_w_, w64_u8_] <;> rfl) | (simp [errW_none, errW_some] <;> rfl) | (simp [*, errW_none, errW_some] <;> rfl), by (with_reducible repeat (first | apply Kd.N_alloc | apply Kd.N_drewN | apply Kd.N_drew)); exact HO468.out, by exact hopb HB.out⟩
    ·rw [if_neg c14] at H
     have c14b0 : decide (t469 < 0) = false := decide_eq_false c14
     clear c14
     by_cases c17 : 0 ≤ t469
     ·rw [if_pos c17] at H
      have c17b0 : decide (0 ≤ t469) = true := decide_eq_true c17
      clear c17
      by_cases c18 : t469 < (l0.length : Int)
      ·rw [if_pos c18] at H
       have c18b0 : decide (t469 < (l0.length : Int)) = true := decide_eq_true c18
       clear c18
       replace H := Option.bind_eq_some_iff.mp H
       obtain ⟨⟨t471, t472⟩, A190, H⟩ := H
       try dsimp only at H
       have A19 := ak A190
       clear A190
       by_cases c20 : t472 = true
       ·subst c20
        rw [if_pos rfl] at H
        by_cases c21 : t469 < (t466.length : Int)
        ·rw [if_pos c21] at H
         have c21b0 : decide (t469 < (t466.length : Int)) = true := decide_eq_true c21
         clear c21
         obtain ⟨y475, hy475⟩ : ∃ y_ : List (S64), y_ = (t466.set (t469 : Int).toNat (⟨t471⟩ : S64)) := ⟨_, rfl⟩
         replace H : ((spec_l6Mend.f kj2 y475 t469).bind fun t476 => (some (t476, true))) = some (r1, r2) := by first | (rw [hy475]; exact H) | exact H
         have Ny475 := ak hy475
         clear hy475
         replace H := Option.bind_eq_some_iff.mp H
         obtain ⟨t476, A230, H⟩ := H
         try dsimp only at H
         have A23 := ak A230
         clear A230
         simp only [Option.some.injEq, Prod.mk.injEq] at H
         obtain ⟨rfl, rfl⟩ := H
         go_wp2_with (first | ((with_reducible refine gate_callee (f := 82) rfl ?_); refine goesL_ (some 20) rfl rfl Try.func82 (by kernel_rfl) rfl #[.slice A0 l0.length c0] rfl (by (try simp only [List.map_toArray, List.map_cons, List.map_nil]); first | done | rfl | (simp only [List.length_drop, List.length_take]; rfl)) ?_; (with_reducible refine (spec_l6Copy.calls kj2 _ _ l0 t466 _ ?side1 ?side2 A12.out).mono ?_); (case side1 => repeat (first | exact (Kd.C_below HR0.out HB.out) | (with_reducible refine Kd.C_alloc ?_ _) | (with_reducible refine Kd.C_drewN ?_ _) | (with_reducible refine Kd.C_drew ?_))); (case side2 => exact HC0.out); rintro e w24 ⟨v467, rfl, ho0, hb⟩; refine ⟨_, rfl, ?_⟩; have HO468 := ak (Kd.N_lower (Kd.N_mono (ok' := fun k_ => (w.heap.size ≤ k_)) (Kd.S_N (Kd.S_bound ho0)) (fun k_ hk_ => (Nat.le_trans (below_size (by exact hopb HB.out)) hk_.2.1))) (below_size (by exact hopb HB.out))); replace HB := ak (below_step (by exact hopb HB.out) hb); (try clear hb); (try clear ho0)) | ((with_reducible refine gate_callee (f := 35) rfl ?_); refine goesL_ (some 23) rfl rfl Try.func35 (by kernel_rfl) rfl #[.slice A0 l0.length c0, .string a1] rfl (by (try simp only [List.map_toArray, List.map_cons, List.map_nil]); first | done | rfl | (simp only [List.length_drop, List.length_take]; rfl)) ?_; (with_reducible refine (spec_PageFind.calls kj2 _ _ l0 a1 t469 _ ?side1 ?side2 A13.out).mono ?_); (case side1 => repeat (first | exact (Kd.C_below HR0.out HB.out) | (with_reducible refine Kd.C_alloc ?_ _) | (with_reducible refine Kd.C_drewN ?_ _) | (with_reducible refine Kd.C_drew ?_))); (case side2 => exact HC0.out); rintro e w25 ⟨rfl, hb⟩; refine ⟨_, rfl, ?_⟩; replace HO468 := ak (Kd.N_below (by (with_reducible repeat (first | apply Kd.N_alloc | apply Kd.N_drewN | apply Kd.N_drew)); exact HO468.out) hb); replace HB := ak (below_step (by exact hopb HB.out) hb); (try clear hb); have p470 : 0 ≤ (t469 : Int) := of_decide_eq_true (by assumption); have q470 : t469 < (l0.length : Int) := of_decide_eq_true (by assumption); obtain ⟨ad470, A470_0, c470_0, e470, hx470_0, hl470_0, hi470_0⟩ := at_T64 HR0.out t469 p470 q470; cases e470; replace hx470_0 := (HB.out.cell (World.block_lt_of_cell? w _ hx470_0)).trans hx470_0; have HR470_0 := ak hi470_0; have HC470_0 := ak hl470_0; clear hi470_0 hl470_0; replace p470 := eq_true p470; replace q470 := eq_true q470) | ((with_reducible refine gate_callee (f := 87) rfl ?_); refine goesL_ (some 34) rfl rfl Try.func87 (by kernel_rfl) rfl #[.slice A470_0 ((rd_T64 l0 t469).f0).length c470_0, .string a1] rfl (by (try simp only [List.map_toArray, List.map_cons, List.map_nil]); first | done | rfl | (simp only [List.length_drop, List.length_take]; rfl)) ?_; (with_reducible refine (spec_PairDrop.calls kj2 _ _ ((rd_T64 l0 t469).f0) a1 t471 true _ ?side1 ?side2 A19.out).mono ?_); (case side1 => repeat (first | exact (Kd.C_below HR470_0.out HB.out) | (with_reducible refine Kd.C_alloc ?_ _) | (with_reducible refine Kd.C_drewN ?_ _) | (with_reducible refine Kd.C_drew ?_))); (case side2 => exact HC470_0.out); rintro e w26 ⟨v473, rfl, ho0, hb⟩; refine ⟨_, rfl, ?_⟩; replace HO468 := ak (Kd.N_elder' (by (with_reducible repeat (first | apply Kd.N_alloc | apply Kd.N_drewN | apply Kd.N_drew)); exact HO468.out) (Kd.R_base ho0) hb); have HO474 := ak (Kd.R_lower (Kd.R_newM (M := fun k_ => (w.heap.size ≤ k_)) ho0 (below_size (by exact hopb HB.out)) (fun k_ h_ => h_)) (below_size (by exact hopb HB.out))); replace HB := ak (below_step (by exact hopb HB.out) hb); (try clear hb); (try clear ho0); have p22 : 0 ≤ (t469 : Int) := of_decide_eq_true (by assumption); have q22 : (t469 : Int) < ((t466.length : Int) : Int) := of_decide_eq_true (by assumption); obtain ⟨go22, co22, eo22, gb22, gl22, cl22, HG22⟩ := Kd.N_form HO468.out (by omega); (first | cases eo22 | (injection eo22 with ea_ en_ ec_; (first | subst ea_ | (injection ea_ with ea_; subst ea_)); subst ec_; clear en_)); have GB22 := ak gb22; have GG22 := ak HG22; clear gb22 gl22 HG22; obtain ⟨ce22, hcl22, hM22, hcc22, hfr22⟩ := Kd.N_elem HO468.out z64 (t469 : Int) p22 q22; obtain ⟨ua22_0, uc22_0, rfl, ul22_0, ge22_0⟩ := k64_openF hM22; have hx22_0 := hcc22 0 _ rfl; have hf22_0 := hfr22 0; (try simp only [show (k64).sz = 1 from rfl, Nat.mul_one, Nat.add_zero] at hx22_0); (try simp only [show (k64).sz = 1 from rfl, Nat.mul_one, Nat.add_zero] at hf22_0); clear hcl22 hcc22 hfr22 hM22; replace p22 := eq_true p22; replace q22 := eq_true q22; have HX27 := ak (show Kd.N k64 64 w26 w.heap.size (fun k_ => (w.heap.size ≤ k_)) (.slice (some ⟨go22, 0, none⟩) t466.length co22) t466 from (by (with_reducible repeat (first | apply Kd.N_alloc | apply Kd.N_drewN | apply Kd.N_drew)); exact Kd.N_mono HO468.out (fun _ hk => hk.1))); obtain ⟨ce27, hcl27, hM27, hcc27, hfr27⟩ := Kd.N_elem HX27.out z64 (t469 : Int) (of_decide_eq_true (by assumption)) (by have h_ : (t469 : Int) < ((t466.length : Int) : Int) := of_decide_eq_true (by assumption); first | exact h_ | (have e_ := (Kd.N_reads' HO468.out).1; omega) | simpa using h_); obtain ⟨ua27_0, uc27_0, rfl, ul27_0, ge27_0⟩ := k64_openF hM27; have HP27 := Kd.N_seg HX27.out (t469 : Int) (of_decide_eq_true (by assumption)) (by have h_ : (t469 : Int) < ((t466.length : Int) : Int) := of_decide_eq_true (by assumption); first | exact h_ | (have e_ := (Kd.N_reads' HO468.out).1; omega) | simpa using h_) (seg := [v473]) (j := 0) hcl27 hcc27 (show 1 ≤ 1 from by decide) (x' := (⟨t471⟩ : S64)) (by have hmk_ := Kd.R_mono (ok' := (fun k_ => ((fun k_ => (w.heap.size ≤ k_))) k_ ∧ k_ ≠ go22)) (Kd.R_apart' (HO474.out) (Kd.N_typed HO468.out) (by decide)) (fun k_ hk => ⟨hk.1.1, fun e_ => (hk.2) (by rw [e_]; rfl)⟩); obtain ⟨Am_, cm_, em_⟩ := Kd.R_slice hmk_; rw [em_] at hmk_ ⊢; exact k64_mkF _ _ (⟨t471⟩ : S64) (Kd.R_reads' hmk_).2.1 (Kd.R_F hmk_)) (fun _ hk => hk); have hx27_0 := hcc27 0 _ rfl; (try simp only [show (k64).sz = 1 from rfl, Nat.mul_one, Nat.add_zero] at hx27_0); have hf27_0 := hfr27 0; (try simp only [show (k64).sz = 1 from rfl, Nat.mul_one, Nat.add_zero] at hf27_0); clear hcl27 hcc27 hfr27 hM27; (try simp only [show (k64).sz = 1 from rfl, Nat.mul_one, Nat.add_zero] at HP27); (try simp only [show (k64).sz = 1 from rfl, Nat.mul_one, Nat.add_zero] at HP27)) | ((with_reducible refine gate_store (t := 32) (p := 44) rfl ?_); refine store_event (t := 32) (p := 44) (v := ?vo_w28) (w1 := (w26.setCell ⟨go22, (t469 : Int).toNat, none⟩ (v473))) ?hg ?ho ?hn ?hr ?_; (case ho => rfl); (case hg => rfl); (case hn => rfl); (case hr => first | (go_simp; done) | (go_simp; rfl) | (obtain ⟨A_, c_, e_⟩ := Kd.R_slice (‹Aside0 (Kd.R _ _ _ _ _ v473 _)›).out; rw [e_]; first | (go_simp; done) | (go_simp; rfl)) | (have one_ : Value.oneCell' v473 = true := (by (first | obtain ⟨A_, c_, e_⟩ := Kd.R_slice (‹Aside0 (Kd.R _ _ _ _ _ v473 _)›).out | obtain ⟨A_, c_, e_⟩ := Kd.N_slice (‹Aside0 (Kd.N _ _ _ _ _ v473 _)›).out | obtain ⟨A_, c_, e_⟩ := Kd.S_slice (‹Aside0 (Kd.S _ _ _ _ _ v473 _)›).out); rw [e_]; rfl); have sto_ := fun (a_ : Addr) m_ (w_ : World) => run_store Try.prog w_ a_ v473 m_ one_; first | (go_simp; done) | (go_simp; rfl))); intro w28 hw; have hg : w26.grownBy w28 (some go22) := (by rw [hw]; exact HP27.2); have hp_ : Kd.N k64 64 w28 w.heap.size (fun k_ => (w.heap.size ≤ k_)) (.slice (some ⟨go22, 0, none⟩) t466.length co22) y475 := (by rw [hw, Ny475.out]; exact HP27.1); clear HP27; replace HO468 := ak (hp_); replace HB := ak ((by rw [hw]; exact below_set (HB.out) GB22.out : Below w.heap.size w w28)); clear HO474; clear hg hw hp_) | ((with_reducible refine gate_callee (f := 88) rfl ?_); refine goesL_ (some 47) rfl rfl Try.func88 (by kernel_rfl) rfl #[.slice (some ⟨go22, 0, none⟩) t466.length co22, .int .i64 t469] rfl (by (try simp only [List.map_toArray, List.map_cons, List.map_nil]); first | done | rfl | (simp only [List.length_drop, List.length_take]; rfl)) ?_; (with_reducible refine (spec_l6Mend.calls kj2 (fun k_ => (w.heap.size ≤ k_)) (.slice (some ⟨go22, 0, none⟩) t466.length co22) y475 t469 t476 w _ ?side1 ?side2 A23.out).mono ?_); (case side1 => exact hopb HB.out); (case side2 => exact HO468.out); rintro e w29 ⟨v477, rfl, ho0, hb, hkp⟩; refine ⟨_, rfl, ?_⟩; have HO478 := ak (Kd.N_mono (ok' := fun k_ => (w.heap.size ≤ k_)) ho0 (fun k_ hk_ => Or.elim hk_ (fun hs_ => hs_) (fun hn_ => (Nat.le_trans (below_size (by exact hopb HB.out)) hn_)))); replace HB := ak (hb); clear HO468; (try clear hb); (try clear hkp); (try clear ho0)))
         go_ret2
         exact ⟨_, by first | rfl | (simp only [u8_w_, w64_u8_] <;> rfl) | (simp [errW_none, errW_some] <;> rfl) | (simp [*, errW_none, errW_some] <;> rfl), by (with_reducible repeat (first | apply Kd.N_alloc | apply Kd.N_drewN | apply Kd.N_drew)); exact HO478.out, by exact hopb HB.out⟩
        ·rw [if_neg c21] at H
         exact absurd H (by simp)
       ·replace c20 := Bool.eq_false_iff.mpr c20
        subst c20
        rw [if_neg (show ¬ (false = true) by decide)] at H
        simp only [Option.some.injEq, Prod.mk.injEq] at H
        obtain ⟨rfl, rfl⟩ := H
        go_wp2_with (first | ((with_reducible refine gate_callee (f := 82) rfl ?_); refine goesL_ (some 20) rfl rfl Try.func82 (by kernel_rfl) rfl #[.slice A0 l0.length c0] rfl (by (try simp only [List.map_toArray, List.map_cons, List.map_nil]); first | done | rfl | (simp only [List.length_drop, List.length_take]; rfl)) ?_; (with_reducible refine (spec_l6Copy.calls kj2 _ _ l0 t466 _ ?side1 ?side2 A12.out).mono ?_); (case side1 => repeat (first | exact (Kd.C_below HR0.out HB.out) | (with_reducible refine Kd.C_alloc ?_ _) | (with_reducible refine Kd.C_drewN ?_ _) | (with_reducible refine Kd.C_drew ?_))); (case side2 => exact HC0.out); rintro e w30 ⟨v467, rfl, ho0, hb⟩; refine ⟨_, rfl, ?_⟩; have HO468 := ak (Kd.N_lower (Kd.N_mono (ok' := fun k_ => (w.heap.size ≤ k_)) (Kd.S_N (Kd.S_bound ho0)) (fun k_ hk_ => (Nat.le_trans (below_size (by exact hopb HB.out)) hk_.2.1))) (below_size (by exact hopb HB.out))); replace HB := ak (below_step (by exact hopb HB.out) hb); (try clear hb); (try clear ho0)) | ((with_reducible refine gate_callee (f := 35) rfl ?_); refine goesL_ (some 23) rfl rfl Try.func35 (by kernel_rfl) rfl #[.slice A0 l0.length c0, .string a1] rfl (by (try simp only [List.map_toArray, List.map_cons, List.map_nil]); first | done | rfl | (simp only [List.length_drop, List.length_take]; rfl)) ?_; (with_reducible refine (spec_PageFind.calls kj2 _ _ l0 a1 t469 _ ?side1 ?side2 A13.out).mono ?_); (case side1 => repeat (first | exact (Kd.C_below HR0.out HB.out) | (with_reducible refine Kd.C_alloc ?_ _) | (with_reducible refine Kd.C_drewN ?_ _) | (with_reducible refine Kd.C_drew ?_))); (case side2 => exact HC0.out); rintro e w31 ⟨rfl, hb⟩; refine ⟨_, rfl, ?_⟩; replace HO468 := ak (Kd.N_below (by (with_reducible repeat (first | apply Kd.N_alloc | apply Kd.N_drewN | apply Kd.N_drew)); exact HO468.out) hb); replace HB := ak (below_step (by exact hopb HB.out) hb); (try clear hb); have p470 : 0 ≤ (t469 : Int) := of_decide_eq_true (by assumption); have q470 : t469 < (l0.length : Int) := of_decide_eq_true (by assumption); obtain ⟨ad470, A470_0, c470_0, e470, hx470_0, hl470_0, hi470_0⟩ := at_T64 HR0.out t469 p470 q470; cases e470; replace hx470_0 := (HB.out.cell (World.block_lt_of_cell? w _ hx470_0)).trans hx470_0; have HR470_0 := ak hi470_0; have HC470_0 := ak hl470_0; clear hi470_0 hl470_0; replace p470 := eq_true p470; replace q470 := eq_true q470) | ((with_reducible refine gate_callee (f := 87) rfl ?_); refine goesL_ (some 34) rfl rfl Try.func87 (by kernel_rfl) rfl #[.slice A470_0 ((rd_T64 l0 t469).f0).length c470_0, .string a1] rfl (by (try simp only [List.map_toArray, List.map_cons, List.map_nil]); first | done | rfl | (simp only [List.length_drop, List.length_take]; rfl)) ?_; (with_reducible refine (spec_PairDrop.calls kj2 _ _ ((rd_T64 l0 t469).f0) a1 t471 false _ ?side1 ?side2 A19.out).mono ?_); (case side1 => repeat (first | exact (Kd.C_below HR470_0.out HB.out) | (with_reducible refine Kd.C_alloc ?_ _) | (with_reducible refine Kd.C_drewN ?_ _) | (with_reducible refine Kd.C_drew ?_))); (case side2 => exact HC470_0.out); rintro e w32 ⟨v473, rfl, ho0, hb⟩; refine ⟨_, rfl, ?_⟩; replace HO468 := ak (Kd.N_elder' (by (with_reducible repeat (first | apply Kd.N_alloc | apply Kd.N_drewN | apply Kd.N_drew)); exact HO468.out) (Kd.R_base ho0) hb); have HO474 := ak (Kd.R_lower (Kd.R_newM (M := fun k_ => (w.heap.size ≤ k_)) ho0 (below_size (by exact hopb HB.out)) (fun k_ h_ => h_)) (below_size (by exact hopb HB.out))); replace HB := ak (below_step (by exact hopb HB.out) hb); (try clear hb); (try clear ho0)))
        go_ret2
        exact ⟨_, by first | rfl | (simp only [u8_w_, w64_u8_] <;> rfl) | (simp [errW_none, errW_some] <;> rfl) | (simp [*, errW_none, errW_some] <;> rfl), by (with_reducible repeat (first | apply Kd.N_alloc | apply Kd.N_drewN | apply Kd.N_drew)); exact Kd.N_mono HO468.out (fun _ hk => hk.1), by exact hopb HB.out⟩
      ·rw [if_neg c18] at H
       exact absurd H (by simp)
     ·rw [if_neg c17] at H
      exact absurd H (by simp)

/-! ### spec_l20Rd_pick: function 102 -/
def spec_l20Rd_pick.j0 : Nat → Int → Bool → List Int → Int → Option (Int × Int)
 | 0, _, _, _, _ => none
 | k + 1, x1, x24, x1000, x1001 => if x24 = true then (some (0, x1001)) else (if (wrap64 (x1001 - 1)) < (x1000.length : Int) then (if 0 ≤ (wrap64 (x1001 - 1)) then (if x1 = 0 then (none) else (some (Int.tmod (wrap64 (rd x1000 (wrap64 (x1001 - 1)))) x1, x1001))) else (none)) else (if (x1000.length : Int) = 0 then (none) else (if 0 ≤ (Int.tmod (wrap64 (x1001 - 1)) (x1000.length : Int)) then (if (Int.tmod (wrap64 (x1001 - 1)) (x1000.length : Int)) < (x1000.length : Int) then (if 0 ≤ (Int.tmod (wrap64 ((wrap64 ((wrap64 (x1001 - 1)) * 7)) + 3)) (x1000.length : Int)) then (if (Int.tmod (wrap64 ((wrap64 ((wrap64 (x1001 - 1)) * 7)) + 3)) (x1000.length : Int)) < (x1000.length : Int) then (if x1 = 0 then (none) else (some (Int.tmod (Go.bits .xor .i64 (wrap64 ((wrap64 ((wrap64 ((wrap64 ((wrap64 (rd x1000 (Int.tmod (wrap64 (x1001 - 1)) (x1000.length : Int)))) * 131)) + (wrap64 ((wrap64 (rd x1000 (Int.tmod (wrap64 ((wrap64 ((wrap64 (x1001 - 1)) * 7)) + 3)) (x1000.length : Int)))) * 1117)))) + (wrap64 ((wrap64 (x1001 - 1)) * 29)))) + (wrap64 ((wrap64 (Int.tdiv (wrap64 (x1001 - 1)) (x1000.length : Int))) * 53)))) (wrap64 (Int.tdiv (wrap64 ((wrap64 ((wrap64 ((wrap64 ((wrap64 (rd x1000 (Int.tmod (wrap64 (x1001 - 1)) (x1000.length : Int)))) * 131)) + (wrap64 ((wrap64 (rd x1000 (Int.tmod (wrap64 ((wrap64 ((wrap64 (x1001 - 1)) * 7)) + 3)) (x1000.length : Int)))) * 1117)))) + (wrap64 ((wrap64 (x1001 - 1)) * 29)))) + (wrap64 ((wrap64 (Int.tdiv (wrap64 (x1001 - 1)) (x1000.length : Int))) * 53)))) 64))) x1, x1001))) else (none)) else (none)) else (none)) else (none))))
def spec_l20Rd_pick.f (k : Nat) (s0_0 : List Int) (s0_1 : Int) (a1 : Int) : Option (Int × Int) := if a1 < 1 then (spec_l20Rd_pick.j0 k a1 true s0_0 (wrap64 (s0_1 + 1))) else (spec_l20Rd_pick.j0 k a1 ((s0_0.length : Int) == 0) s0_0 (wrap64 (s0_1 + 1)))
theorem spec_l20Rd_pick.mono_l : ∀ k, (∀ y0 y1 y2 y3, LeO (spec_l20Rd_pick.j0 k y0 y1 y2 y3) (spec_l20Rd_pick.j0 (k + 1) y0 y1 y2 y3))
 | 0 => fun _ _ _ _ r h => by simp [spec_l20Rd_pick.j0] at h
 | k + 1 => by
  have ih0 := spec_l20Rd_pick.mono_l k
  ·intro y0 y1 y2 y3
   unfold spec_l20Rd_pick.j0
   repeat' first
   | (with_reducible exact ih0 _ _ _ _)
   | (with_reducible exact LeO.refl _)
   | (with_reducible exact LeO.none _)
   | (with_reducible refine LeO.ite ?_ ?_)
   | (with_reducible refine LeO.bind ?_ (fun _ => ?_))
   | exact ih0 _ _ _ _
   | exact LeO.none _
   | refine LeO.ite ?_ ?_
   | refine LeO.bind ?_ (fun _ => ?_)
theorem spec_l20Rd_pick.mono : ∀ a0 a1 a2 k, LeO (spec_l20Rd_pick.f k a0 a1 a2) (spec_l20Rd_pick.f (k + 1) a0 a1 a2) := by
 intro a0 a1 a2 k
 have ih0 := spec_l20Rd_pick.mono_l k
 unfold spec_l20Rd_pick.f
 repeat' first
   | (with_reducible exact ih0 _ _ _ _)
   | (with_reducible exact LeO.refl _)
   | (with_reducible exact LeO.none _)
   | (with_reducible refine LeO.ite ?_ ?_)
   | (with_reducible refine LeO.bind ?_ (fun _ => ?_))
   | exact ih0 _ _ _ _
   | exact LeO.none _
   | refine LeO.ite ?_ ?_
   | refine LeO.bind ?_ (fun _ => ?_)
theorem spec_l20Rd_pick.calls (k : Nat) (g : Nat) (s0_0 : List Int) (s0_1 : Int) (a1 : Int) (r1 : Int) (r2 : Int) (w0 w : World) (hI : IsS116 w0 w g s0_0 s0_1) (hB : Below w0.heap.size w0 w) (h : spec_l20Rd_pick.f k s0_0 s0_1 a1 = some (r1, r2)) :
  Calls Try.prog 102 #[.pointer (some ⟨g, 0, none⟩), .int .i64 a1] w fun e w' => e = .returned (.int .i64 r1) ∧ IsS116 w0 w' g s0_0 r2 ∧ Below w0.heap.size w0 w' ∧ KeepBut w w' g none := by
 have HI0 := ak hI
 have HK := ak (KeepBut.refl w g none)
 have HL := ak hB.size
 clear hI
 have HW0 := ak hB.size
 have HB := ak hB
 clear hB
 have H : (if a1 < 1 then (spec_l20Rd_pick.j0 k a1 true s0_0 (wrap64 (s0_1 + 1))) else (spec_l20Rd_pick.j0 k a1 ((s0_0.length : Int) == 0) s0_0 (wrap64 (s0_1 + 1)))) = some (r1, r2) := h
 clear h
 have HC3 := ak H
 clear H
 obtain ⟨ASz4_0, cSz4_0, HGz4, hgz4, HSz4_0⟩ := HI0.out
 have hcz4_0 := cellS116_0 HGz4
 have hcz4_1 := cellS116_1 HGz4
 have hfz4_1 := blk_frozen HGz4 1
 clear HGz4 hgz4
 go_enter Try.func102, Try.ntmps102
 go_upto_region 2 with (fail)
 repeat (go_quiet (fail); go_upto_region 2 with (fail))
 go_cut [24] (fun v24 wc => ∃ (kq : Nat) (x24_2 : Bool), v24 = .bool x24_2 ∧ Aside0 (spec_l20Rd_pick.j0 kq a1 x24_2 s0_0 (wrap64 (s0_1 + 1)) = some (r1, r2)) ∧ Aside0 (kq ≤ k) ∧ Aside0 (IsS116 w0 wc g s0_0 (wrap64 (s0_1 + 1))) ∧ Aside0 (KeepBut w wc g none) ∧ Aside0 (Below w0.heap.size w0 wc))
 case first =>
  have H := HC3.out
  clear HC3
  by_cases c5 : a1 < 1
  ·rw [if_pos c5] at H
   have c5b0 : decide (a1 < 1) = true := decide_eq_true c5
   clear c5
   (first | rw [c5b0] | (simp only [i64_w, i32_w]; rw [c5b0]) | skip)
   have H' := ak H
   clear H
   go_wp2
   repeat (go_quiet (fail); try go_wp2)
   go_meet
   case rel => exact ⟨_, (true), (by first | rfl | (simp; done) | (simp [bne]; done) | (simp [*]; done)), H', ⟨by first | omega | exact Nat.le_refl _⟩, ⟨by repeat (first | exact HI0.out | apply IsS116.alloc | apply IsS116.drewN | apply IsS116.drew | apply IsS116.set_1)⟩, ⟨by repeat (first | exact HK.out | apply KeepBut.set_ | apply keep_drewN | apply keep_drew | apply keep_alloc)⟩, ⟨by repeat (first | exact HB.out | apply bA | apply bN | apply bD | refine bS ?_ (IsS116.ge HI0.out))⟩⟩
  ·rw [if_neg c5] at H
   have c5b0 : decide (a1 < 1) = false := decide_eq_false c5
   clear c5
   (first | rw [c5b0] | (simp only [i64_w, i32_w]; rw [c5b0]) | skip)
   have H' := ak H
   clear H
   obtain ⟨ASz6_0, cSz6_0, HGz6, hgz6, HSz6_0⟩ := HI0.out
   have hcz6_0 := cellS116_0 HGz6
   have hcz6_1 := cellS116_1 HGz6
   have hfz6_1 := blk_frozen HGz6 1
   clear HGz6 hgz6
   go_wp2
   repeat (go_quiet (fail); try go_wp2)
   go_meet
   case rel => exact ⟨_, (((s0_0.length : Int) == 0)), (by first | rfl | (simp; done) | (simp [bne]; done) | (simp [*]; done)), H', ⟨by first | omega | exact Nat.le_refl _⟩, ⟨by repeat (first | exact HI0.out | apply IsS116.alloc | apply IsS116.drewN | apply IsS116.drew | apply IsS116.set_1)⟩, ⟨by repeat (first | exact HK.out | apply KeepBut.set_ | apply keep_drewN | apply keep_drew | apply keep_alloc)⟩, ⟨by repeat (first | exact HB.out | apply bA | apply bN | apply bD | refine bS ?_ (IsS116.ge HI0.out))⟩⟩
 case rest =>
  clear HC3
  try clear c1
  try clear p2
  try clear c5
  try clear c5b0
  try clear p6
  try clear hcz4_0
  try clear hcz4_1
  try clear hcz6_0
  try clear hcz6_1
  try clear hfz4_1
  try clear hfz6_1
  obtain ⟨kq, x24_2, rfl, HA, HJ2, HI0, HK, HB⟩ := hcut
  cases kq with
  | zero => exact absurd HA.out (by simp [spec_l20Rd_pick.j0])
  | succ kj2 =>
   have H := HA.out
   clear HA
   simp only [spec_l20Rd_pick.j0] at H
   by_cases c7 : x24_2 = true
   ·subst c7
    rw [if_pos rfl] at H
    simp only [Option.some.injEq, Prod.mk.injEq] at H
    obtain ⟨rfl, rfl⟩ := H
    go_wp2
    repeat (go_quiet (fail); try go_wp2)
    go_ret
    exact ⟨by first | rfl | (simp only [u8_w_, w64_u8_] <;> rfl) | (simp [errW_none, errW_some] <;> rfl) | (simp [*, errW_none, errW_some] <;> rfl), by repeat (first | exact HI0.out | apply IsS116.alloc | apply IsS116.drewN | apply IsS116.drew | apply IsS116.set_1), by repeat (first | exact HB.out | apply bA | apply bN | apply bD | refine bS ?_ (IsS116.ge HI0.out)), by repeat (first | exact HK.out | apply KeepBut.set_ | apply keep_drewN | apply keep_drew | apply keep_alloc)⟩
   ·replace c7 := Bool.eq_false_iff.mpr c7
    subst c7
    rw [if_neg (show ¬ (false = true) by decide)] at H
    by_cases c8 : (wrap64 ((wrap64 (s0_1 + 1)) - 1)) < (s0_0.length : Int)
    ·rw [if_pos c8] at H
     have c8b0 : decide ((wrap64 ((wrap64 (s0_1 + 1)) - 1)) < (s0_0.length : Int)) = true := decide_eq_true c8
     clear c8
     obtain ⟨ji9, hji9⟩ : ∃ j_ : Int, (wrap64 ((wrap64 (s0_1 + 1)) - 1)) = j_ := ⟨_, rfl⟩
     replace H : (if 0 ≤ (ji9) then (if a1 = 0 then (none) else (some (Int.tmod (wrap64 (rd s0_0 (ji9))) a1, (wrap64 (s0_1 + 1))))) else (none)) = some (r1, r2) := by first | (rw [hji9] at H; exact H) | (simp only [hji9] at H ⊢; exact H)
     (try rw [hji9] at c8b0)
     have hji9w : (IntKind.i64.wrap ((wrap64 (s0_1 + 1)) - 1)) = ji9 := (i64_w _).trans hji9
     by_cases c10 : 0 ≤ (ji9)
     ·rw [if_pos c10] at H
      have c10b0 : decide (0 ≤ (ji9)) = true := decide_eq_true c10
      clear c10
      by_cases c11 : a1 = 0
      ·rw [if_pos c11] at H
       exact absurd H (by simp)
      ·rw [if_neg c11] at H
       have c11b0 : (a1 == 0) = false := beq_eq_false_iff_ne.mpr c11
       have c11b1 : (a1 != 0) = true := bne_iff_ne.mpr c11
       simp only [Option.some.injEq, Prod.mk.injEq] at H
       obtain ⟨rfl, rfl⟩ := H
       obtain ⟨ASz12_0, cSz12_0, HGz12, hgz12, HSz12_0⟩ := HI0.out
       have hcz12_0 := cellS116_0 HGz12
       have hcz12_1 := cellS116_1 HGz12
       have hfz12_1 := blk_frozen HGz12 1
       clear HGz12 hgz12
       have p479 : 0 ≤ ((ji9) : Int) := of_decide_eq_true (by assumption)
       have q479 : (ji9) < (s0_0.length : Int) := of_decide_eq_true (by assumption)
       obtain ⟨ad479, e479, hx479_0⟩ := Kd.at_int HSz12_0 (ji9) p479 q479
       cases e479
       replace hx479_0 := pw_cell_below HB.out hx479_0
       replace p479 := eq_true p479
       replace q479 := eq_true q479
       go_wp2
       repeat (go_quiet (fail); try go_wp2)
       go_ret
       exact ⟨by first | rfl | (simp only [u8_w_, w64_u8_] <;> rfl) | (simp [errW_none, errW_some] <;> rfl) | (simp only [← hji9]; first | rfl | (simp [errW_none, errW_some] <;> rfl)) | (simp [*, errW_none, errW_some] <;> rfl), by repeat (first | exact HI0.out | apply IsS116.alloc | apply IsS116.drewN | apply IsS116.drew | apply IsS116.set_1), by repeat (first | exact HB.out | apply bA | apply bN | apply bD | refine bS ?_ (IsS116.ge HI0.out)), by repeat (first | exact HK.out | apply KeepBut.set_ | apply keep_drewN | apply keep_drew | apply keep_alloc)⟩
     ·rw [if_neg c10] at H
      exact absurd H (by simp)
    ·rw [if_neg c8] at H
     have c8b0 : decide ((wrap64 ((wrap64 (s0_1 + 1)) - 1)) < (s0_0.length : Int)) = false := decide_eq_false c8
     clear c8
     by_cases c13 : (s0_0.length : Int) = 0
     ·rw [if_pos c13] at H
      exact absurd H (by simp)
     ·rw [if_neg c13] at H
      have c13b0 : ((s0_0.length : Int) == 0) = false := beq_eq_false_iff_ne.mpr c13
      have c13b1 : ((s0_0.length : Int) != 0) = true := bne_iff_ne.mpr c13
      have c13b2 : ¬ (s0_0 = []) := fun h_ => c13 (by rw [h_]; rfl)
      obtain ⟨ji14, hji14⟩ : ∃ j_ : Int, (Int.tmod (wrap64 ((wrap64 (s0_1 + 1)) - 1)) (s0_0.length : Int)) = j_ := ⟨_, rfl⟩
      replace H : (if 0 ≤ (ji14) then (if (ji14) < (s0_0.length : Int) then (if 0 ≤ (Int.tmod (wrap64 ((wrap64 ((wrap64 ((wrap64 (s0_1 + 1)) - 1)) * 7)) + 3)) (s0_0.length : Int)) then (if (Int.tmod (wrap64 ((wrap64 ((wrap64 ((wrap64 (s0_1 + 1)) - 1)) * 7)) + 3)) (s0_0.length : Int)) < (s0_0.length : Int) then (if a1 = 0 then (none) else (some (Int.tmod (Go.bits .xor .i64 (wrap64 ((wrap64 ((wrap64 ((wrap64 ((wrap64 (rd s0_0 (ji14))) * 131)) + (wrap64 ((wrap64 (rd s0_0 (Int.tmod (wrap64 ((wrap64 ((wrap64 ((wrap64 (s0_1 + 1)) - 1)) * 7)) + 3)) (s0_0.length : Int)))) * 1117)))) + (wrap64 ((wrap64 ((wrap64 (s0_1 + 1)) - 1)) * 29)))) + (wrap64 ((wrap64 (Int.tdiv (wrap64 ((wrap64 (s0_1 + 1)) - 1)) (s0_0.length : Int))) * 53)))) (wrap64 (Int.tdiv (wrap64 ((wrap64 ((wrap64 ((wrap64 ((wrap64 (rd s0_0 (ji14))) * 131)) + (wrap64 ((wrap64 (rd s0_0 (Int.tmod (wrap64 ((wrap64 ((wrap64 ((wrap64 (s0_1 + 1)) - 1)) * 7)) + 3)) (s0_0.length : Int)))) * 1117)))) + (wrap64 ((wrap64 ((wrap64 (s0_1 + 1)) - 1)) * 29)))) + (wrap64 ((wrap64 (Int.tdiv (wrap64 ((wrap64 (s0_1 + 1)) - 1)) (s0_0.length : Int))) * 53)))) 64))) a1, (wrap64 (s0_1 + 1))))) else (none)) else (none)) else (none)) else (none)) = some (r1, r2) := by first | (rw [hji14] at H; exact H) | (simp only [hji14] at H ⊢; exact H)
      by_cases c15 : 0 ≤ (ji14)
      ·rw [if_pos c15] at H
       have c15b0 : decide (0 ≤ (ji14)) = true := decide_eq_true c15
       clear c15
       by_cases c16 : (ji14) < (s0_0.length : Int)
       ·rw [if_pos c16] at H
        have c16b0 : decide ((ji14) < (s0_0.length : Int)) = true := decide_eq_true c16
        clear c16
        obtain ⟨ji17, hji17⟩ : ∃ j_ : Int, (Int.tmod (wrap64 ((wrap64 ((wrap64 ((wrap64 (s0_1 + 1)) - 1)) * 7)) + 3)) (s0_0.length : Int)) = j_ := ⟨_, rfl⟩
        replace H : (if 0 ≤ (ji17) then (if (ji17) < (s0_0.length : Int) then (if a1 = 0 then (none) else (some (Int.tmod (Go.bits .xor .i64 (wrap64 ((wrap64 ((wrap64 ((wrap64 ((wrap64 (rd s0_0 (ji14))) * 131)) + (wrap64 ((wrap64 (rd s0_0 (ji17))) * 1117)))) + (wrap64 ((wrap64 ((wrap64 (s0_1 + 1)) - 1)) * 29)))) + (wrap64 ((wrap64 (Int.tdiv (wrap64 ((wrap64 (s0_1 + 1)) - 1)) (s0_0.length : Int))) * 53)))) (wrap64 (Int.tdiv (wrap64 ((wrap64 ((wrap64 ((wrap64 ((wrap64 (rd s0_0 (ji14))) * 131)) + (wrap64 ((wrap64 (rd s0_0 (ji17))) * 1117)))) + (wrap64 ((wrap64 ((wrap64 (s0_1 + 1)) - 1)) * 29)))) + (wrap64 ((wrap64 (Int.tdiv (wrap64 ((wrap64 (s0_1 + 1)) - 1)) (s0_0.length : Int))) * 53)))) 64))) a1, (wrap64 (s0_1 + 1))))) else (none)) else (none)) = some (r1, r2) := by first | (rw [hji17] at H; exact H) | (simp only [hji17] at H ⊢; exact H)
        by_cases c18 : 0 ≤ (ji17)
        ·rw [if_pos c18] at H
         have c18b0 : decide (0 ≤ (ji17)) = true := decide_eq_true c18
         clear c18
         by_cases c19 : (ji17) < (s0_0.length : Int)
         ·rw [if_pos c19] at H
          have c19b0 : decide ((ji17) < (s0_0.length : Int)) = true := decide_eq_true c19
          clear c19
          by_cases c20 : a1 = 0
          ·rw [if_pos c20] at H
           exact absurd H (by simp)
          ·rw [if_neg c20] at H
           have c20b0 : (a1 == 0) = false := beq_eq_false_iff_ne.mpr c20
           have c20b1 : (a1 != 0) = true := bne_iff_ne.mpr c20
           simp only [Option.some.injEq, Prod.mk.injEq] at H
           obtain ⟨rfl, rfl⟩ := H
           obtain ⟨ASz21_0, cSz21_0, HGz21, hgz21, HSz21_0⟩ := HI0.out
           have hcz21_0 := cellS116_0 HGz21
           have hcz21_1 := cellS116_1 HGz21
           have hfz21_1 := blk_frozen HGz21 1
           clear HGz21 hgz21
           have p480 : 0 ≤ ((ji14) : Int) := of_decide_eq_true (by assumption)
           have q480 : (ji14) < (s0_0.length : Int) := of_decide_eq_true (by assumption)
           obtain ⟨ad480, e480, hx480_0⟩ := Kd.at_int HSz21_0 (ji14) p480 q480
           cases e480
           replace hx480_0 := pw_cell_below HB.out hx480_0
           replace p480 := eq_true p480
           replace q480 := eq_true q480
           have p481 : 0 ≤ ((ji17) : Int) := of_decide_eq_true (by assumption)
           have q481 : (ji17) < (s0_0.length : Int) := of_decide_eq_true (by assumption)
           obtain ⟨ad481, e481, hx481_0⟩ := Kd.at_int HSz21_0 (ji17) p481 q481
           obtain rfl : ad480 = ad481 := (by injection e481)
           replace hx481_0 := pw_cell_below HB.out hx481_0
           replace p481 := eq_true p481
           replace q481 := eq_true q481
           go_wp2
           repeat (go_quiet (fail); try go_wp2)
           go_ret
           exact ⟨by first | rfl | (simp only [u8_w_, w64_u8_] <;> rfl) | (simp [errW_none, errW_some] <;> rfl) | (simp only [← hji14, ← hji17]; first | rfl | (simp [errW_none, errW_some] <;> rfl)) | (simp [*, errW_none, errW_some] <;> rfl), by repeat (first | exact HI0.out | apply IsS116.alloc | apply IsS116.drewN | apply IsS116.drew | apply IsS116.set_1), by repeat (first | exact HB.out | apply bA | apply bN | apply bD | refine bS ?_ (IsS116.ge HI0.out)), by repeat (first | exact HK.out | apply KeepBut.set_ | apply keep_drewN | apply keep_drew | apply keep_alloc)⟩
         ·rw [if_neg c19] at H
          exact absurd H (by simp)
        ·rw [if_neg c18] at H
         exact absurd H (by simp)
       ·rw [if_neg c16] at H
        exact absurd H (by simp)
      ·rw [if_neg c15] at H
       exact absurd H (by simp)

/-! ### spec_l20Rd_odd: function 105 -/
def spec_l20Rd_odd.f (k : Nat) (s0_0 : List Int) (s0_1 : Int) (a1 : Int) : Option (Bool × Int) := if a1 > 0 then ((spec_l20Rd_pick.f k s0_0 s0_1 a1).bind fun bt482 => (some ((bt482.1 == (wrap64 (a1 - 1))), bt482.2))) else (some (false, s0_1))
theorem spec_l20Rd_odd.mono : ∀ a0 a1 a2 k, LeO (spec_l20Rd_odd.f k a0 a1 a2) (spec_l20Rd_odd.f (k + 1) a0 a1 a2) := by
 intro a0 a1 a2 k
 unfold spec_l20Rd_odd.f
 repeat' first
   | (with_reducible exact spec_l20Rd_pick.mono _ _ _ _)
   | (with_reducible exact LeO.refl _)
   | (with_reducible exact LeO.none _)
   | (with_reducible refine LeO.ite ?_ ?_)
   | (with_reducible refine LeO.bind ?_ (fun _ => ?_))
   | exact LeO.none _
   | refine LeO.ite ?_ ?_
   | refine LeO.bind ?_ (fun _ => ?_)
theorem spec_l20Rd_odd.calls (k : Nat) (g : Nat) (s0_0 : List Int) (s0_1 : Int) (a1 : Int) (r1 : Bool) (r2 : Int) (w0 w : World) (hI : IsS116 w0 w g s0_0 s0_1) (hB : Below w0.heap.size w0 w) (h : spec_l20Rd_odd.f k s0_0 s0_1 a1 = some (r1, r2)) :
  Calls Try.prog 105 #[.pointer (some ⟨g, 0, none⟩), .int .i64 a1] w fun e w' => e = .returned (.bool r1) ∧ IsS116 w0 w' g s0_0 r2 ∧ Below w0.heap.size w0 w' ∧ KeepBut w w' g none := by
 have HI0 := ak hI
 have HK := ak (KeepBut.refl w g none)
 have HL := ak hB.size
 clear hI
 have HW0 := ak hB.size
 have HB := ak hB
 clear hB
 have H : (if a1 > 0 then ((spec_l20Rd_pick.f k s0_0 s0_1 a1).bind fun bt482 => (some ((bt482.1 == (wrap64 (a1 - 1))), bt482.2))) else (some (false, s0_1))) = some (r1, r2) := h
 clear h
 by_cases c3 : a1 > 0
 ·rw [if_pos c3] at H
  have c3b0 : decide (0 < a1) = true := decide_eq_true c3
  clear c3
  replace H := Option.bind_eq_some_iff.mp H
  obtain ⟨⟨t482, t483⟩, A40, H⟩ := H
  try dsimp only at H
  have A4 := ak A40
  clear A40
  simp only [Option.some.injEq, Prod.mk.injEq] at H
  obtain ⟨rfl, rfl⟩ := H
  go_enter Try.func105, Try.ntmps105
  go_wp2_with (first | (go_at_call 102; (with_reducible refine (spec_l20Rd_pick.calls k g s0_0 s0_1 a1 t482 t483 w0 _ ?side1 ?side2 A4.out).mono ?_); (case side1 => repeat (first | exact HI0.out | apply IsS116.alloc | apply IsS116.drewN | apply IsS116.drew | apply IsS116.set_1)); (case side2 => repeat (first | exact HB.out | apply bA | apply bN | apply bD | refine bS ?_ (IsS116.ge HI0.out))); rintro e w5 ⟨rfl, hi, hb, hk⟩; replace HK := ak (KeepBut.trans (by repeat (first | exact HK.out | apply KeepBut.set_ | apply keep_drewN | apply keep_drew | apply keep_alloc)) hk (.inl rfl)); replace HB := ak (hb); replace HI0 := ak (hi); (try clear hb)))
  go_ret
  exact ⟨by first | rfl | (simp only [u8_w_, w64_u8_] <;> rfl) | (simp [errW_none, errW_some] <;> rfl) | (simp [*, errW_none, errW_some] <;> rfl), by repeat (first | exact HI0.out | apply IsS116.alloc | apply IsS116.drewN | apply IsS116.drew | apply IsS116.set_1), by repeat (first | exact HB.out | apply bA | apply bN | apply bD | refine bS ?_ (IsS116.ge HI0.out)), by repeat (first | exact HK.out | apply KeepBut.set_ | apply keep_drewN | apply keep_drew | apply keep_alloc)⟩
 ·rw [if_neg c3] at H
  have c3b0 : decide (0 < a1) = false := decide_eq_false c3
  clear c3
  simp only [Option.some.injEq, Prod.mk.injEq] at H
  obtain ⟨rfl, rfl⟩ := H
  go_enter Try.func105, Try.ntmps105
  go_wp2
  go_ret
  exact ⟨by first | rfl | (simp only [u8_w_, w64_u8_] <;> rfl) | (simp [errW_none, errW_some] <;> rfl) | (simp [*, errW_none, errW_some] <;> rfl), by repeat (first | exact HI0.out | apply IsS116.alloc | apply IsS116.drewN | apply IsS116.drew | apply IsS116.set_1), by repeat (first | exact HB.out | apply bA | apply bN | apply bD | refine bS ?_ (IsS116.ge HI0.out)), by repeat (first | exact HK.out | apply KeepBut.set_ | apply keep_drewN | apply keep_drew | apply keep_alloc)⟩

/-! ### spec_l20Value: function 94 -/
def spec_l20Value.f (k : Nat) (s0_0 : List Int) (s0_1 : Int) (a1 : Int) : Option (Int × Int) := (spec_l20Rd_odd.f k s0_0 s0_1 a1).bind fun bt484 => (if bt484.1 = true then ((some (([(-1), 1000] : List Int) : List Int)).bind fun y486 => ((spec_l20Rd_pick.f k s0_0 bt484.2 2).bind fun bt489 => (if 0 ≤ bt489.1 then (if bt489.1 < (y486.length : Int) then (some (rd y486 bt489.1, bt489.2)) else (none)) else (none)))) else ((spec_l20Rd_pick.f k s0_0 bt484.2 20).bind fun bt492 => ((some (([bt492.1, 999] : List Int) : List Int)).bind fun y494 => ((spec_l20Rd_pick.f k s0_0 bt492.2 9).bind fun bt497 => (if 0 ≤ (wrap64 (Int.tdiv bt497.1 8)) then (if (wrap64 (Int.tdiv bt497.1 8)) < (y494.length : Int) then (some (rd y494 (wrap64 (Int.tdiv bt497.1 8)), bt497.2)) else (none)) else (none))))))
theorem spec_l20Value.mono : ∀ a0 a1 a2 k, LeO (spec_l20Value.f k a0 a1 a2) (spec_l20Value.f (k + 1) a0 a1 a2) := by
 intro a0 a1 a2 k
 unfold spec_l20Value.f
 repeat' first
   | (with_reducible exact spec_l20Rd_odd.mono _ _ _ _)
   | (with_reducible exact spec_l20Rd_pick.mono _ _ _ _)
   | (with_reducible exact LeO.refl _)
   | (with_reducible exact LeO.none _)
   | (with_reducible refine LeO.ite ?_ ?_)
   | (with_reducible refine LeO.bind ?_ (fun _ => ?_))
   | exact LeO.none _
   | refine LeO.ite ?_ ?_
   | refine LeO.bind ?_ (fun _ => ?_)
theorem spec_l20Value.calls (k : Nat) (g : Nat) (s0_0 : List Int) (s0_1 : Int) (a1 : Int) (r1 : Int) (r2 : Int) (w0 w : World) (hI : IsS116 w0 w g s0_0 s0_1) (hB : Below w0.heap.size w0 w) (h : spec_l20Value.f k s0_0 s0_1 a1 = some (r1, r2)) :
  Calls Try.prog 94 #[.pointer (some ⟨g, 0, none⟩), .int .i64 a1] w fun e w' => e = .returned (.int .i64 r1) ∧ IsS116 w0 w' g s0_0 r2 ∧ Below w0.heap.size w0 w' ∧ KeepBut w w' g none := by
 have HI0 := ak hI
 have HK := ak (KeepBut.refl w g none)
 have HL := ak hB.size
 clear hI
 have HW0 := ak hB.size
 have HB := ak hB
 clear hB
 have H : ((spec_l20Rd_odd.f k s0_0 s0_1 a1).bind fun bt484 => (if bt484.1 = true then ((some (([(-1), 1000] : List Int) : List Int)).bind fun y486 => ((spec_l20Rd_pick.f k s0_0 bt484.2 2).bind fun bt489 => (if 0 ≤ bt489.1 then (if bt489.1 < (y486.length : Int) then (some (rd y486 bt489.1, bt489.2)) else (none)) else (none)))) else ((spec_l20Rd_pick.f k s0_0 bt484.2 20).bind fun bt492 => ((some (([bt492.1, 999] : List Int) : List Int)).bind fun y494 => ((spec_l20Rd_pick.f k s0_0 bt492.2 9).bind fun bt497 => (if 0 ≤ (wrap64 (Int.tdiv bt497.1 8)) then (if (wrap64 (Int.tdiv bt497.1 8)) < (y494.length : Int) then (some (rd y494 (wrap64 (Int.tdiv bt497.1 8)), bt497.2)) else (none)) else (none))))))) = some (r1, r2) := h
 clear h
 replace H := Option.bind_eq_some_iff.mp H
 obtain ⟨⟨t484, t485⟩, A30, H⟩ := H
 try dsimp only at H
 have A3 := ak A30
 clear A30
 by_cases c4 : t484 = true
 ·subst c4
  rw [if_pos rfl] at H
  obtain ⟨y486, hy486⟩ : ∃ y_ : List Int, y_ = (([(-1), 1000] : List Int)) := ⟨_, rfl⟩
  replace H : ((spec_l20Rd_pick.f k s0_0 t485 2).bind fun bt489 => (if 0 ≤ bt489.1 then (if bt489.1 < (y486.length : Int) then (some (rd y486 bt489.1, bt489.2)) else (none)) else (none))) = some (r1, r2) := by first | (rw [hy486]; exact H) | exact H
  have Ny486 := ak hy486
  clear hy486
  replace H := Option.bind_eq_some_iff.mp H
  obtain ⟨⟨t489, t490⟩, A50, H⟩ := H
  try dsimp only at H
  have A5 := ak A50
  clear A50
  by_cases c6 : 0 ≤ t489
  ·rw [if_pos c6] at H
   have c6b0 : decide (0 ≤ t489) = true := decide_eq_true c6
   clear c6
   by_cases c7 : t489 < (y486.length : Int)
   ·rw [if_pos c7] at H
    have c7b0 : decide (t489 < (y486.length : Int)) = true := decide_eq_true c7
    clear c7
    simp only [Option.some.injEq, Prod.mk.injEq] at H
    obtain ⟨rfl, rfl⟩ := H
    go_enter Try.func94, Try.ntmps94
    go_wp2_with (first | ((with_reducible refine gate_callee (f := 105) rfl ?_); refine goesL_ (some 7) rfl rfl Try.func105 (by kernel_rfl) rfl #[.pointer (some ⟨g, 0, none⟩), .int .i64 a1] rfl (by (try simp only [List.map_toArray, List.map_cons, List.map_nil]); first | done | rfl | (simp only [List.length_drop, List.length_take]; rfl)) ?_; (with_reducible refine (spec_l20Rd_odd.calls k g s0_0 s0_1 a1 true t485 w0 _ ?side1 ?side2 A3.out).mono ?_); (case side1 => repeat (first | exact HI0.out | apply IsS116.alloc | apply IsS116.drewN | apply IsS116.drew | apply IsS116.set_1)); (case side2 => repeat (first | exact HB.out | apply bA | apply bN | apply bD | refine bS ?_ (IsS116.ge HI0.out))); rintro e w8 ⟨rfl, hi, hb, hk⟩; refine ⟨_, rfl, ?_⟩; replace HK := ak (KeepBut.trans (by repeat (first | exact HK.out | apply KeepBut.set_ | apply keep_drewN | apply keep_drew | apply keep_alloc)) hk (.inl rfl)); replace HB := ak (hb); replace HI0 := ak (hi); (try clear hb)) | ((with_reducible refine gate_dst (N := 8) rfl ?_); refine Kd.R_lit (Kd.int .i64) _ 3 ?hg (N := 8) ?hd (xs := ([(-1), 1000] : List Int)) (inner := [.int .i64 (-1), .int .i64 1000]) (ok := fun _ => True) (okp := fun _ => True) ?hr ?hp (fun _ hk => hk) trivial (Below.refl _ _) (Nat.le_refl _) (by simp) ?_; (case hd => rfl); (case hg => rfl); (case hr => first | (go_simp; done) | (go_simp; rfl)); (case hp => exact (Reps.one (show Kd.M (Kd.int .i64) _ _ _ (-1) [.int .i64 (-1)] from rfl) (Reps.one (show Kd.M (Kd.int .i64) _ _ _ 1000 [.int .i64 1000] from rfl) (Reps.none _ _)))); intro v487 w9 ho10 hb hg_ hnew_; clear hg_ hnew_; (first | rw [← Ny486.out] at ho10 | (simp only [Int.reduceToNat] at ho10; rw [← Ny486.out] at ho10)); have HO488 := ak (Kd.R_lower ho10 (keep_size (w := w) (g := g) (row := none) (by repeat (first | exact HK.out | apply KeepBut.set_ | apply keep_drewN | apply keep_drew | apply keep_alloc)))); replace HK := ak (KeepBut.trans (by repeat (first | exact HK.out | apply KeepBut.set_ | apply keep_drewN | apply keep_drew | apply keep_alloc)) (KeepBut.of_below hb g none) (.inl rfl)); replace HB := ak (below_step (by repeat (first | exact HB.out | apply bA | apply bN | apply bD | refine bS ?_ (IsS116.ge HI0.out))) hb); replace HI0 := ak (IsS116.below (by repeat (first | exact HI0.out | apply IsS116.alloc | apply IsS116.drewN | apply IsS116.drew | apply IsS116.set_1)) hb); clear hb ho10) | ((with_reducible refine gate_callee (f := 102) rfl ?_); refine goesL_ (some 10) rfl rfl Try.func102 (by kernel_rfl) rfl #[.pointer (some ⟨g, 0, none⟩), .int .i64 2] rfl (by (try simp only [List.map_toArray, List.map_cons, List.map_nil]); first | done | rfl | (simp only [List.length_drop, List.length_take]; rfl)) ?_; (with_reducible refine (spec_l20Rd_pick.calls k g s0_0 t485 2 t489 t490 w0 _ ?side1 ?side2 A5.out).mono ?_); (case side1 => repeat (first | exact HI0.out | apply IsS116.alloc | apply IsS116.drewN | apply IsS116.drew | apply IsS116.set_1)); (case side2 => repeat (first | exact HB.out | apply bA | apply bN | apply bD | refine bS ?_ (IsS116.ge HI0.out))); rintro e w11 ⟨rfl, hi, hb, hk⟩; refine ⟨_, rfl, ?_⟩; replace HO488 := ak (Kd.R_mono (Kd.R_keep (IsS116.apart (show IsS116 w0 _ g s0_0 t485 from by repeat (first | exact HI0.out | apply IsS116.alloc | apply IsS116.drewN | apply IsS116.drew | apply IsS116.set_1)) (by (with_reducible repeat (first | apply Kd.R_alloc | apply Kd.R_drewN | apply Kd.R_drew)); exact HO488.out) (by decide)) hk (fun _ h => h.2)) (fun _ h => h.1)); replace HK := ak (KeepBut.trans (by repeat (first | exact HK.out | apply KeepBut.set_ | apply keep_drewN | apply keep_drew | apply keep_alloc)) hk (.inl rfl)); replace HB := ak (hb); replace HI0 := ak (hi); (try clear hb); obtain ⟨Ao12, co12, eo12⟩ := Kd.R_slice HO488.out; subst eo12; have p491 : 0 ≤ (t489 : Int) := of_decide_eq_true (by assumption); have q491 : t489 < (y486.length : Int) := of_decide_eq_true (by assumption); obtain ⟨ad491, e491, hx491_0⟩ := Kd.at_int (Kd.R_reads' HO488.out).2.2 t489 p491 q491; cases e491; replace p491 := eq_true p491; replace q491 := eq_true q491))
    go_ret
    exact ⟨by first | rfl | (simp only [u8_w_, w64_u8_] <;> rfl) | (simp [errW_none, errW_some] <;> rfl) | (simp [*, errW_none, errW_some] <;> rfl), by repeat (first | exact HI0.out | apply IsS116.alloc | apply IsS116.drewN | apply IsS116.drew | apply IsS116.set_1), by repeat (first | exact HB.out | apply bA | apply bN | apply bD | refine bS ?_ (IsS116.ge HI0.out)), by repeat (first | exact HK.out | apply KeepBut.set_ | apply keep_drewN | apply keep_drew | apply keep_alloc)⟩
   ·rw [if_neg c7] at H
    exact absurd H (by simp)
  ·rw [if_neg c6] at H
   exact absurd H (by simp)
 ·replace c4 := Bool.eq_false_iff.mpr c4
  subst c4
  rw [if_neg (show ¬ (false = true) by decide)] at H
  replace H := Option.bind_eq_some_iff.mp H
  obtain ⟨⟨t492, t493⟩, A130, H⟩ := H
  try dsimp only at H
  have A13 := ak A130
  clear A130
  obtain ⟨y494, hy494⟩ : ∃ y_ : List Int, y_ = (([t492, 999] : List Int)) := ⟨_, rfl⟩
  replace H : ((spec_l20Rd_pick.f k s0_0 t493 9).bind fun bt497 => (if 0 ≤ (wrap64 (Int.tdiv bt497.1 8)) then (if (wrap64 (Int.tdiv bt497.1 8)) < (y494.length : Int) then (some (rd y494 (wrap64 (Int.tdiv bt497.1 8)), bt497.2)) else (none)) else (none))) = some (r1, r2) := by first | (rw [hy494]; exact H) | exact H
  have Ny494 := ak hy494
  clear hy494
  replace H := Option.bind_eq_some_iff.mp H
  obtain ⟨⟨t497, t498⟩, A140, H⟩ := H
  try dsimp only at H
  have A14 := ak A140
  clear A140
  obtain ⟨ji15, hji15⟩ : ∃ j_ : Int, (wrap64 (Int.tdiv t497 8)) = j_ := ⟨_, rfl⟩
  replace H : (if 0 ≤ (ji15) then (if (ji15) < (y494.length : Int) then (some (rd y494 (ji15), t498)) else (none)) else (none)) = some (r1, r2) := by first | (rw [hji15] at H; exact H) | (simp only [hji15] at H ⊢; exact H)
  (try rw [hji15] at A3)
  (try rw [hji15] at A13)
  (try rw [hji15] at A14)
  have hji15w : (IntKind.i64.wrap (Int.tdiv t497 8)) = ji15 := (i64_w _).trans hji15
  by_cases c16 : 0 ≤ (ji15)
  ·rw [if_pos c16] at H
   have c16b0 : decide (0 ≤ (ji15)) = true := decide_eq_true c16
   clear c16
   by_cases c17 : (ji15) < (y494.length : Int)
   ·rw [if_pos c17] at H
    have c17b0 : decide ((ji15) < (y494.length : Int)) = true := decide_eq_true c17
    clear c17
    simp only [Option.some.injEq, Prod.mk.injEq] at H
    obtain ⟨rfl, rfl⟩ := H
    go_enter Try.func94, Try.ntmps94
    go_wp2_with (first | ((with_reducible refine gate_callee (f := 105) rfl ?_); refine goesL_ (some 7) rfl rfl Try.func105 (by kernel_rfl) rfl #[.pointer (some ⟨g, 0, none⟩), .int .i64 a1] rfl (by (try simp only [List.map_toArray, List.map_cons, List.map_nil]); first | done | rfl | (simp only [List.length_drop, List.length_take]; rfl)) ?_; (with_reducible refine (spec_l20Rd_odd.calls k g s0_0 s0_1 a1 false t485 w0 _ ?side1 ?side2 A3.out).mono ?_); (case side1 => repeat (first | exact HI0.out | apply IsS116.alloc | apply IsS116.drewN | apply IsS116.drew | apply IsS116.set_1)); (case side2 => repeat (first | exact HB.out | apply bA | apply bN | apply bD | refine bS ?_ (IsS116.ge HI0.out))); rintro e w18 ⟨rfl, hi, hb, hk⟩; refine ⟨_, rfl, ?_⟩; replace HK := ak (KeepBut.trans (by repeat (first | exact HK.out | apply KeepBut.set_ | apply keep_drewN | apply keep_drew | apply keep_alloc)) hk (.inl rfl)); replace HB := ak (hb); replace HI0 := ak (hi); (try clear hb)) | ((with_reducible refine gate_callee (f := 102) rfl ?_); refine goesL_ (some 14) rfl rfl Try.func102 (by kernel_rfl) rfl #[.pointer (some ⟨g, 0, none⟩), .int .i64 20] rfl (by (try simp only [List.map_toArray, List.map_cons, List.map_nil]); first | done | rfl | (simp only [List.length_drop, List.length_take]; rfl)) ?_; (with_reducible refine (spec_l20Rd_pick.calls k g s0_0 t485 20 t492 t493 w0 _ ?side1 ?side2 A13.out).mono ?_); (case side1 => repeat (first | exact HI0.out | apply IsS116.alloc | apply IsS116.drewN | apply IsS116.drew | apply IsS116.set_1)); (case side2 => repeat (first | exact HB.out | apply bA | apply bN | apply bD | refine bS ?_ (IsS116.ge HI0.out))); rintro e w19 ⟨rfl, hi, hb, hk⟩; refine ⟨_, rfl, ?_⟩; replace HK := ak (KeepBut.trans (by repeat (first | exact HK.out | apply KeepBut.set_ | apply keep_drewN | apply keep_drew | apply keep_alloc)) hk (.inl rfl)); replace HB := ak (hb); replace HI0 := ak (hi); (try clear hb)) | ((with_reducible refine gate_dst (N := 15) rfl ?_); refine Kd.R_lit (Kd.int .i64) _ 3 ?hg (N := 15) ?hd (xs := ([t492, 999] : List Int)) (inner := [.int .i64 t492, .int .i64 999]) (ok := fun _ => True) (okp := fun _ => True) ?hr ?hp (fun _ hk => hk) trivial (Below.refl _ _) (Nat.le_refl _) (by simp) ?_; (case hd => rfl); (case hg => rfl); (case hr => first | (go_simp; done) | (go_simp; rfl)); (case hp => exact (Reps.one (show Kd.M (Kd.int .i64) _ _ _ t492 [.int .i64 t492] from rfl) (Reps.one (show Kd.M (Kd.int .i64) _ _ _ 999 [.int .i64 999] from rfl) (Reps.none _ _)))); intro v495 w20 ho21 hb hg_ hnew_; clear hg_ hnew_; (first | rw [← Ny494.out] at ho21 | (simp only [Int.reduceToNat] at ho21; rw [← Ny494.out] at ho21)); have HO496 := ak (Kd.R_lower ho21 (keep_size (w := w) (g := g) (row := none) (by repeat (first | exact HK.out | apply KeepBut.set_ | apply keep_drewN | apply keep_drew | apply keep_alloc)))); replace HK := ak (KeepBut.trans (by repeat (first | exact HK.out | apply KeepBut.set_ | apply keep_drewN | apply keep_drew | apply keep_alloc)) (KeepBut.of_below hb g none) (.inl rfl)); replace HB := ak (below_step (by repeat (first | exact HB.out | apply bA | apply bN | apply bD | refine bS ?_ (IsS116.ge HI0.out))) hb); replace HI0 := ak (IsS116.below (by repeat (first | exact HI0.out | apply IsS116.alloc | apply IsS116.drewN | apply IsS116.drew | apply IsS116.set_1)) hb); clear hb ho21) | ((with_reducible refine gate_callee (f := 102) rfl ?_); refine goesL_ (some 17) rfl rfl Try.func102 (by kernel_rfl) rfl #[.pointer (some ⟨g, 0, none⟩), .int .i64 9] rfl (by (try simp only [List.map_toArray, List.map_cons, List.map_nil]); first | done | rfl | (simp only [List.length_drop, List.length_take]; rfl)) ?_; (with_reducible refine (spec_l20Rd_pick.calls k g s0_0 t493 9 t497 t498 w0 _ ?side1 ?side2 A14.out).mono ?_); (case side1 => repeat (first | exact HI0.out | apply IsS116.alloc | apply IsS116.drewN | apply IsS116.drew | apply IsS116.set_1)); (case side2 => repeat (first | exact HB.out | apply bA | apply bN | apply bD | refine bS ?_ (IsS116.ge HI0.out))); rintro e w22 ⟨rfl, hi, hb, hk⟩; refine ⟨_, rfl, ?_⟩; replace HO496 := ak (Kd.R_mono (Kd.R_keep (IsS116.apart (show IsS116 w0 _ g s0_0 t493 from by repeat (first | exact HI0.out | apply IsS116.alloc | apply IsS116.drewN | apply IsS116.drew | apply IsS116.set_1)) (by (with_reducible repeat (first | apply Kd.R_alloc | apply Kd.R_drewN | apply Kd.R_drew)); exact HO496.out) (by decide)) hk (fun _ h => h.2)) (fun _ h => h.1)); replace HK := ak (KeepBut.trans (by repeat (first | exact HK.out | apply KeepBut.set_ | apply keep_drewN | apply keep_drew | apply keep_alloc)) hk (.inl rfl)); replace HB := ak (hb); replace HI0 := ak (hi); (try clear hb); obtain ⟨Ao23, co23, eo23⟩ := Kd.R_slice HO496.out; subst eo23; have p499 : 0 ≤ ((ji15) : Int) := of_decide_eq_true (by assumption); have q499 : (ji15) < (y494.length : Int) := of_decide_eq_true (by assumption); obtain ⟨ad499, e499, hx499_0⟩ := Kd.at_int (Kd.R_reads' HO496.out).2.2 (ji15) p499 q499; cases e499; replace p499 := eq_true p499; replace q499 := eq_true q499))
    go_ret
    exact ⟨by first | rfl | (simp only [u8_w_, w64_u8_] <;> rfl) | (simp [errW_none, errW_some] <;> rfl) | (simp only [← hji15]; first | rfl | (simp [errW_none, errW_some] <;> rfl)) | (simp [*, errW_none, errW_some] <;> rfl), by repeat (first | exact HI0.out | apply IsS116.alloc | apply IsS116.drewN | apply IsS116.drew | apply IsS116.set_1), by repeat (first | exact HB.out | apply bA | apply bN | apply bD | refine bS ?_ (IsS116.ge HI0.out)), by repeat (first | exact HK.out | apply KeepBut.set_ | apply keep_drewN | apply keep_drew | apply keep_alloc)⟩
   ·rw [if_neg c17] at H
    exact absurd H (by simp)
  ·rw [if_neg c16] at H
   exact absurd H (by simp)

/-! ### spec_l20Key: function 103 -/
def spec_l20Key.l0 : Nat → ByteArray → Int → List Int → Int → Option (ByteArray × Int)
 | 0, _, _, _, _ => none
 | k + 1, x5, x6, x1000, x1001 => if x6 > 0 then ((spec_l20Rd_pick.f k x1000 x1001 4).bind fun bt518 => ((some (([(wrap64 (97 + bt518.1)) % 256] : List Int) : List Int)).bind fun y520 => (if x5.size + (strOfNums y520).size ≤ 9223372036854775807 then (spec_l20Key.l0 k (x5 ++ (strOfNums y520)) (wrap64 (x6 - 1)) x1000 bt518.2) else (none)))) else (some (x5, x1001))
def spec_l20Key.f (k : Nat) (s0_0 : List Int) (s0_1 : Int) (a1 : Int) : Option (ByteArray × Int) := (spec_l20Rd_odd.f k s0_0 s0_1 a1).bind fun bt500 => (if bt500.1 = true then ((some (([(⟨#[]⟩ : ByteArray), (⟨#[65]⟩ : ByteArray), (⟨#[97, 49]⟩ : ByteArray), (⟨#[97, 98, 99, 100, 101]⟩ : ByteArray), (⟨#[98, 123]⟩ : ByteArray), (⟨#[97, 32, 98]⟩ : ByteArray)] : List ByteArray) : List ByteArray)).bind fun y502 => ((spec_l20Rd_pick.f k s0_0 bt500.2 6).bind fun bt505 => (if 0 ≤ bt505.1 then (if bt505.1 < (y502.length : Int) then (some (rdOf ByteArray.empty y502 bt505.1, bt505.2)) else (none)) else (none)))) else ((spec_l20Rd_pick.f k s0_0 bt500.2 12).bind fun bt508 => (if bt508.1 = 11 then ((some (([(⟨#[122, 122, 122, 122]⟩ : ByteArray), (⟨#[122, 122, 122]⟩ : ByteArray), (⟨#[97, 122, 122, 122]⟩ : ByteArray), (⟨#[122]⟩ : ByteArray), (⟨#[97, 97, 97, 97]⟩ : ByteArray)] : List ByteArray) : List ByteArray)).bind fun y510 => ((spec_l20Rd_pick.f k s0_0 bt508.2 5).bind fun bt513 => (if 0 ≤ bt513.1 then (if bt513.1 < (y510.length : Int) then (some (rdOf ByteArray.empty y510 bt513.1, bt513.2)) else (none)) else (none)))) else ((spec_l20Rd_pick.f k s0_0 bt508.2 2).bind fun bt516 => (spec_l20Key.l0 k (⟨#[]⟩ : ByteArray) (wrap64 (1 + bt516.1)) s0_0 bt516.2)))))
theorem spec_l20Key.mono_l : ∀ k, (∀ y0 y1 y2 y3, LeO (spec_l20Key.l0 k y0 y1 y2 y3) (spec_l20Key.l0 (k + 1) y0 y1 y2 y3))
 | 0 => fun _ _ _ _ r h => by simp [spec_l20Key.l0] at h
 | k + 1 => by
  have ih0 := spec_l20Key.mono_l k
  ·intro y0 y1 y2 y3
   unfold spec_l20Key.l0
   repeat' first
   | (with_reducible exact ih0 _ _ _ _)
   | (with_reducible exact spec_l20Rd_odd.mono _ _ _ _)
   | (with_reducible exact spec_l20Rd_pick.mono _ _ _ _)
   | (with_reducible exact LeO.refl _)
   | (with_reducible exact LeO.none _)
   | (with_reducible refine LeO.ite ?_ ?_)
   | (with_reducible refine LeO.bind ?_ (fun _ => ?_))
   | exact ih0 _ _ _ _
   | exact LeO.none _
   | refine LeO.ite ?_ ?_
   | refine LeO.bind ?_ (fun _ => ?_)
theorem spec_l20Key.mono : ∀ a0 a1 a2 k, LeO (spec_l20Key.f k a0 a1 a2) (spec_l20Key.f (k + 1) a0 a1 a2) := by
 intro a0 a1 a2 k
 have ih0 := spec_l20Key.mono_l k
 unfold spec_l20Key.f
 repeat' first
   | (with_reducible exact ih0 _ _ _ _)
   | (with_reducible exact spec_l20Rd_odd.mono _ _ _ _)
   | (with_reducible exact spec_l20Rd_pick.mono _ _ _ _)
   | (with_reducible exact LeO.refl _)
   | (with_reducible exact LeO.none _)
   | (with_reducible refine LeO.ite ?_ ?_)
   | (with_reducible refine LeO.bind ?_ (fun _ => ?_))
   | exact ih0 _ _ _ _
   | exact LeO.none _
   | refine LeO.ite ?_ ?_
   | refine LeO.bind ?_ (fun _ => ?_)
theorem spec_l20Key.calls (k : Nat) (g : Nat) (s0_0 : List Int) (s0_1 : Int) (a1 : Int) (r1 : ByteArray) (r2 : Int) (w0 w : World) (hI : IsS116 w0 w g s0_0 s0_1) (hB : Below w0.heap.size w0 w) (h : spec_l20Key.f k s0_0 s0_1 a1 = some (r1, r2)) :
  Calls Try.prog 103 #[.pointer (some ⟨g, 0, none⟩), .int .i64 a1] w fun e w' => e = .returned (.string r1) ∧ IsS116 w0 w' g s0_0 r2 ∧ Below w0.heap.size w0 w' ∧ KeepBut w w' g none := by
 have HI0 := ak hI
 have HK := ak (KeepBut.refl w g none)
 have HL := ak hB.size
 clear hI
 have HW0 := ak hB.size
 have HB := ak hB
 clear hB
 have H : ((spec_l20Rd_odd.f k s0_0 s0_1 a1).bind fun bt500 => (if bt500.1 = true then ((some (([(⟨#[]⟩ : ByteArray), (⟨#[65]⟩ : ByteArray), (⟨#[97, 49]⟩ : ByteArray), (⟨#[97, 98, 99, 100, 101]⟩ : ByteArray), (⟨#[98, 123]⟩ : ByteArray), (⟨#[97, 32, 98]⟩ : ByteArray)] : List ByteArray) : List ByteArray)).bind fun y502 => ((spec_l20Rd_pick.f k s0_0 bt500.2 6).bind fun bt505 => (if 0 ≤ bt505.1 then (if bt505.1 < (y502.length : Int) then (some (rdOf ByteArray.empty y502 bt505.1, bt505.2)) else (none)) else (none)))) else ((spec_l20Rd_pick.f k s0_0 bt500.2 12).bind fun bt508 => (if bt508.1 = 11 then ((some (([(⟨#[122, 122, 122, 122]⟩ : ByteArray), (⟨#[122, 122, 122]⟩ : ByteArray), (⟨#[97, 122, 122, 122]⟩ : ByteArray), (⟨#[122]⟩ : ByteArray), (⟨#[97, 97, 97, 97]⟩ : ByteArray)] : List ByteArray) : List ByteArray)).bind fun y510 => ((spec_l20Rd_pick.f k s0_0 bt508.2 5).bind fun bt513 => (if 0 ≤ bt513.1 then (if bt513.1 < (y510.length : Int) then (some (rdOf ByteArray.empty y510 bt513.1, bt513.2)) else (none)) else (none)))) else ((spec_l20Rd_pick.f k s0_0 bt508.2 2).bind fun bt516 => (spec_l20Key.l0 k (⟨#[]⟩ : ByteArray) (wrap64 (1 + bt516.1)) s0_0 bt516.2)))))) = some (r1, r2) := h
 clear h
 replace H := Option.bind_eq_some_iff.mp H
 obtain ⟨⟨t500, t501⟩, A30, H⟩ := H
 try dsimp only at H
 have A3 := ak A30
 clear A30
 by_cases c4 : t500 = true
 ·subst c4
  rw [if_pos rfl] at H
  obtain ⟨y502, hy502⟩ : ∃ y_ : List ByteArray, y_ = (([(⟨#[]⟩ : ByteArray), (⟨#[65]⟩ : ByteArray), (⟨#[97, 49]⟩ : ByteArray), (⟨#[97, 98, 99, 100, 101]⟩ : ByteArray), (⟨#[98, 123]⟩ : ByteArray), (⟨#[97, 32, 98]⟩ : ByteArray)] : List ByteArray)) := ⟨_, rfl⟩
  replace H : ((spec_l20Rd_pick.f k s0_0 t501 6).bind fun bt505 => (if 0 ≤ bt505.1 then (if bt505.1 < (y502.length : Int) then (some (rdOf ByteArray.empty y502 bt505.1, bt505.2)) else (none)) else (none))) = some (r1, r2) := by first | (rw [hy502]; exact H) | exact H
  have Ny502 := ak hy502
  clear hy502
  replace H := Option.bind_eq_some_iff.mp H
  obtain ⟨⟨t505, t506⟩, A50, H⟩ := H
  try dsimp only at H
  have A5 := ak A50
  clear A50
  by_cases c6 : 0 ≤ t505
  ·rw [if_pos c6] at H
   have c6b0 : decide (0 ≤ t505) = true := decide_eq_true c6
   clear c6
   by_cases c7 : t505 < (y502.length : Int)
   ·rw [if_pos c7] at H
    have c7b0 : decide (t505 < (y502.length : Int)) = true := decide_eq_true c7
    clear c7
    simp only [Option.some.injEq, Prod.mk.injEq] at H
    obtain ⟨rfl, rfl⟩ := H
    go_enter Try.func103, Try.ntmps103
    go_wp2_with (first | ((with_reducible refine gate_callee (f := 105) rfl ?_); refine goesL_ (some 9) rfl rfl Try.func105 (by kernel_rfl) rfl #[.pointer (some ⟨g, 0, none⟩), .int .i64 a1] rfl (by (try simp only [List.map_toArray, List.map_cons, List.map_nil]); first | done | rfl | (simp only [List.length_drop, List.length_take]; rfl)) ?_; (with_reducible refine (spec_l20Rd_odd.calls k g s0_0 s0_1 a1 true t501 w0 _ ?side1 ?side2 A3.out).mono ?_); (case side1 => repeat (first | exact HI0.out | apply IsS116.alloc | apply IsS116.drewN | apply IsS116.drew | apply IsS116.set_1)); (case side2 => repeat (first | exact HB.out | apply bA | apply bN | apply bD | refine bS ?_ (IsS116.ge HI0.out))); rintro e w8 ⟨rfl, hi, hb, hk⟩; refine ⟨_, rfl, ?_⟩; replace HK := ak (KeepBut.trans (by repeat (first | exact HK.out | apply KeepBut.set_ | apply keep_drewN | apply keep_drew | apply keep_alloc)) hk (.inl rfl)); replace HB := ak (hb); replace HI0 := ak (hi); (try clear hb)) | ((with_reducible refine gate_dst (N := 10) rfl ?_); refine Kd.R_lit Kd.string _ 9 ?hg (N := 10) ?hd (xs := ([(⟨#[]⟩ : ByteArray), (⟨#[65]⟩ : ByteArray), (⟨#[97, 49]⟩ : ByteArray), (⟨#[97, 98, 99, 100, 101]⟩ : ByteArray), (⟨#[98, 123]⟩ : ByteArray), (⟨#[97, 32, 98]⟩ : ByteArray)] : List ByteArray)) (inner := [.string (⟨#[]⟩ : ByteArray), .string (⟨#[65]⟩ : ByteArray), .string (⟨#[97, 49]⟩ : ByteArray), .string (⟨#[97, 98, 99, 100, 101]⟩ : ByteArray), .string (⟨#[98, 123]⟩ : ByteArray), .string (⟨#[97, 32, 98]⟩ : ByteArray)]) (ok := fun _ => True) (okp := fun _ => True) ?hr ?hp (fun _ hk => hk) trivial (Below.refl _ _) (Nat.le_refl _) (by simp) ?_; (case hd => rfl); (case hg => rfl); (case hr => first | (go_simp; done) | (go_simp; rfl)); (case hp => exact (Reps.one (show Kd.M Kd.string _ _ _ (⟨#[]⟩ : ByteArray) [.string (⟨#[]⟩ : ByteArray)] from rfl) (Reps.one (show Kd.M Kd.string _ _ _ (⟨#[65]⟩ : ByteArray) [.string (⟨#[65]⟩ : ByteArray)] from rfl) (Reps.one (show Kd.M Kd.string _ _ _ (⟨#[97, 49]⟩ : ByteArray) [.string (⟨#[97, 49]⟩ : ByteArray)] from rfl) (Reps.one (show Kd.M Kd.string _ _ _ (⟨#[97, 98, 99, 100, 101]⟩ : ByteArray) [.string (⟨#[97, 98, 99, 100, 101]⟩ : ByteArray)] from rfl) (Reps.one (show Kd.M Kd.string _ _ _ (⟨#[98, 123]⟩ : ByteArray) [.string (⟨#[98, 123]⟩ : ByteArray)] from rfl) (Reps.one (show Kd.M Kd.string _ _ _ (⟨#[97, 32, 98]⟩ : ByteArray) [.string (⟨#[97, 32, 98]⟩ : ByteArray)] from rfl) (Reps.none _ _)))))))); intro v503 w9 ho10 hb hg_ hnew_; clear hg_ hnew_; (first | rw [← Ny502.out] at ho10 | (simp only [Int.reduceToNat] at ho10; rw [← Ny502.out] at ho10)); have HO504 := ak (Kd.R_lower ho10 (keep_size (w := w) (g := g) (row := none) (by repeat (first | exact HK.out | apply KeepBut.set_ | apply keep_drewN | apply keep_drew | apply keep_alloc)))); replace HK := ak (KeepBut.trans (by repeat (first | exact HK.out | apply KeepBut.set_ | apply keep_drewN | apply keep_drew | apply keep_alloc)) (KeepBut.of_below hb g none) (.inl rfl)); replace HB := ak (below_step (by repeat (first | exact HB.out | apply bA | apply bN | apply bD | refine bS ?_ (IsS116.ge HI0.out))) hb); replace HI0 := ak (IsS116.below (by repeat (first | exact HI0.out | apply IsS116.alloc | apply IsS116.drewN | apply IsS116.drew | apply IsS116.set_1)) hb); clear hb ho10) | ((with_reducible refine gate_callee (f := 102) rfl ?_); refine goesL_ (some 12) rfl rfl Try.func102 (by kernel_rfl) rfl #[.pointer (some ⟨g, 0, none⟩), .int .i64 6] rfl (by (try simp only [List.map_toArray, List.map_cons, List.map_nil]); first | done | rfl | (simp only [List.length_drop, List.length_take]; rfl)) ?_; (with_reducible refine (spec_l20Rd_pick.calls k g s0_0 t501 6 t505 t506 w0 _ ?side1 ?side2 A5.out).mono ?_); (case side1 => repeat (first | exact HI0.out | apply IsS116.alloc | apply IsS116.drewN | apply IsS116.drew | apply IsS116.set_1)); (case side2 => repeat (first | exact HB.out | apply bA | apply bN | apply bD | refine bS ?_ (IsS116.ge HI0.out))); rintro e w11 ⟨rfl, hi, hb, hk⟩; refine ⟨_, rfl, ?_⟩; replace HO504 := ak (Kd.R_mono (Kd.R_keep (IsS116.apart (show IsS116 w0 _ g s0_0 t501 from by repeat (first | exact HI0.out | apply IsS116.alloc | apply IsS116.drewN | apply IsS116.drew | apply IsS116.set_1)) (by (with_reducible repeat (first | apply Kd.R_alloc | apply Kd.R_drewN | apply Kd.R_drew)); exact HO504.out) (by decide)) hk (fun _ h => h.2)) (fun _ h => h.1)); replace HK := ak (KeepBut.trans (by repeat (first | exact HK.out | apply KeepBut.set_ | apply keep_drewN | apply keep_drew | apply keep_alloc)) hk (.inl rfl)); replace HB := ak (hb); replace HI0 := ak (hi); (try clear hb); obtain ⟨Ao12, co12, eo12⟩ := Kd.R_slice HO504.out; subst eo12; have p507 : 0 ≤ (t505 : Int) := of_decide_eq_true (by assumption); have q507 : t505 < (y502.length : Int) := of_decide_eq_true (by assumption); obtain ⟨ad507, e507, hx507_0⟩ := Kd.at_string (Kd.R_reads' HO504.out).2.2 t505 p507 q507; cases e507; replace p507 := eq_true p507; replace q507 := eq_true q507))
    go_ret
    exact ⟨by first | rfl | (simp only [u8_w_, w64_u8_] <;> rfl) | (simp [errW_none, errW_some] <;> rfl) | (simp [*, errW_none, errW_some] <;> rfl), by repeat (first | exact HI0.out | apply IsS116.alloc | apply IsS116.drewN | apply IsS116.drew | apply IsS116.set_1), by repeat (first | exact HB.out | apply bA | apply bN | apply bD | refine bS ?_ (IsS116.ge HI0.out)), by repeat (first | exact HK.out | apply KeepBut.set_ | apply keep_drewN | apply keep_drew | apply keep_alloc)⟩
   ·rw [if_neg c7] at H
    exact absurd H (by simp)
  ·rw [if_neg c6] at H
   exact absurd H (by simp)
 ·replace c4 := Bool.eq_false_iff.mpr c4
  subst c4
  rw [if_neg (show ¬ (false = true) by decide)] at H
  replace H := Option.bind_eq_some_iff.mp H
  obtain ⟨⟨t508, t509⟩, A130, H⟩ := H
  try dsimp only at H
  have A13 := ak A130
  clear A130
  by_cases c14 : t508 = 11
  ·rw [if_pos c14] at H
   have c14b0 : (t508 == 11) = true := beq_iff_eq.mpr c14
   have c14b1 : (t508 != 11) = false := bne_eq_false_iff_eq.mpr c14
   clear c14
   obtain ⟨y510, hy510⟩ : ∃ y_ : List ByteArray, y_ = (([(⟨#[122, 122, 122, 122]⟩ : ByteArray), (⟨#[122, 122, 122]⟩ : ByteArray), (⟨#[97, 122, 122, 122]⟩ : ByteArray), (⟨#[122]⟩ : ByteArray), (⟨#[97, 97, 97, 97]⟩ : ByteArray)] : List ByteArray)) := ⟨_, rfl⟩
   replace H : ((spec_l20Rd_pick.f k s0_0 t509 5).bind fun bt513 => (if 0 ≤ bt513.1 then (if bt513.1 < (y510.length : Int) then (some (rdOf ByteArray.empty y510 bt513.1, bt513.2)) else (none)) else (none))) = some (r1, r2) := by first | (rw [hy510]; exact H) | exact H
   have Ny510 := ak hy510
   clear hy510
   replace H := Option.bind_eq_some_iff.mp H
   obtain ⟨⟨t513, t514⟩, A150, H⟩ := H
   try dsimp only at H
   have A15 := ak A150
   clear A150
   by_cases c16 : 0 ≤ t513
   ·rw [if_pos c16] at H
    have c16b0 : decide (0 ≤ t513) = true := decide_eq_true c16
    clear c16
    by_cases c17 : t513 < (y510.length : Int)
    ·rw [if_pos c17] at H
     have c17b0 : decide (t513 < (y510.length : Int)) = true := decide_eq_true c17
     clear c17
     simp only [Option.some.injEq, Prod.mk.injEq] at H
     obtain ⟨rfl, rfl⟩ := H
     go_enter Try.func103, Try.ntmps103
     go_wp2_with (first | ((with_reducible refine gate_callee (f := 105) rfl ?_); refine goesL_ (some 9) rfl rfl Try.func105 (by kernel_rfl) rfl #[.pointer (some ⟨g, 0, none⟩), .int .i64 a1] rfl (by (try simp only [List.map_toArray, List.map_cons, List.map_nil]); first | done | rfl | (simp only [List.length_drop, List.length_take]; rfl)) ?_; (with_reducible refine (spec_l20Rd_odd.calls k g s0_0 s0_1 a1 false t501 w0 _ ?side1 ?side2 A3.out).mono ?_); (case side1 => repeat (first | exact HI0.out | apply IsS116.alloc | apply IsS116.drewN | apply IsS116.drew | apply IsS116.set_1)); (case side2 => repeat (first | exact HB.out | apply bA | apply bN | apply bD | refine bS ?_ (IsS116.ge HI0.out))); rintro e w18 ⟨rfl, hi, hb, hk⟩; refine ⟨_, rfl, ?_⟩; replace HK := ak (KeepBut.trans (by repeat (first | exact HK.out | apply KeepBut.set_ | apply keep_drewN | apply keep_drew | apply keep_alloc)) hk (.inl rfl)); replace HB := ak (hb); replace HI0 := ak (hi); (try clear hb)) | ((with_reducible refine gate_callee (f := 102) rfl ?_); refine goesL_ (some 16) rfl rfl Try.func102 (by kernel_rfl) rfl #[.pointer (some ⟨g, 0, none⟩), .int .i64 12] rfl (by (try simp only [List.map_toArray, List.map_cons, List.map_nil]); first | done | rfl | (simp only [List.length_drop, List.length_take]; rfl)) ?_; (with_reducible refine (spec_l20Rd_pick.calls k g s0_0 t501 12 t508 t509 w0 _ ?side1 ?side2 A13.out).mono ?_); (case side1 => repeat (first | exact HI0.out | apply IsS116.alloc | apply IsS116.drewN | apply IsS116.drew | apply IsS116.set_1)); (case side2 => repeat (first | exact HB.out | apply bA | apply bN | apply bD | refine bS ?_ (IsS116.ge HI0.out))); rintro e w19 ⟨rfl, hi, hb, hk⟩; refine ⟨_, rfl, ?_⟩; replace HK := ak (KeepBut.trans (by repeat (first | exact HK.out | apply KeepBut.set_ | apply keep_drewN | apply keep_drew | apply keep_alloc)) hk (.inl rfl)); replace HB := ak (hb); replace HI0 := ak (hi); (try clear hb)) | ((with_reducible refine gate_dst (N := 18) rfl ?_); refine Kd.R_lit Kd.string _ 9 ?hg (N := 18) ?hd (xs := ([(⟨#[122, 122, 122, 122]⟩ : ByteArray), (⟨#[122, 122, 122]⟩ : ByteArray), (⟨#[97, 122, 122, 122]⟩ : ByteArray), (⟨#[122]⟩ : ByteArray), (⟨#[97, 97, 97, 97]⟩ : ByteArray)] : List ByteArray)) (inner := [.string (⟨#[122, 122, 122, 122]⟩ : ByteArray), .string (⟨#[122, 122, 122]⟩ : ByteArray), .string (⟨#[97, 122, 122, 122]⟩ : ByteArray), .string (⟨#[122]⟩ : ByteArray), .string (⟨#[97, 97, 97, 97]⟩ : ByteArray)]) (ok := fun _ => True) (okp := fun _ => True) ?hr ?hp (fun _ hk => hk) trivial (Below.refl _ _) (Nat.le_refl _) (by simp) ?_; (case hd => rfl); (case hg => rfl); (case hr => first | (go_simp; done) | (go_simp; rfl)); (case hp => exact (Reps.one (show Kd.M Kd.string _ _ _ (⟨#[122, 122, 122, 122]⟩ : ByteArray) [.string (⟨#[122, 122, 122, 122]⟩ : ByteArray)] from rfl) (Reps.one (show Kd.M Kd.string _ _ _ (⟨#[122, 122, 122]⟩ : ByteArray) [.string (⟨#[122, 122, 122]⟩ : ByteArray)] from rfl) (Reps.one (show Kd.M Kd.string _ _ _ (⟨#[97, 122, 122, 122]⟩ : ByteArray) [.string (⟨#[97, 122, 122, 122]⟩ : ByteArray)] from rfl) (Reps.one (show Kd.M Kd.string _ _ _ (⟨#[122]⟩ : ByteArray) [.string (⟨#[122]⟩ : ByteArray)] from rfl) (Reps.one (show Kd.M Kd.string _ _ _ (⟨#[97, 97, 97, 97]⟩ : ByteArray) [.string (⟨#[97, 97, 97, 97]⟩ : ByteArray)] from rfl) (Reps.none _ _))))))); intro v511 w20 ho21 hb hg_ hnew_; clear hg_ hnew_; (first | rw [← Ny510.out] at ho21 | (simp only [Int.reduceToNat] at ho21; rw [← Ny510.out] at ho21)); have HO512 := ak (Kd.R_lower ho21 (keep_size (w := w) (g := g) (row := none) (by repeat (first | exact HK.out | apply KeepBut.set_ | apply keep_drewN | apply keep_drew | apply keep_alloc)))); replace HK := ak (KeepBut.trans (by repeat (first | exact HK.out | apply KeepBut.set_ | apply keep_drewN | apply keep_drew | apply keep_alloc)) (KeepBut.of_below hb g none) (.inl rfl)); replace HB := ak (below_step (by repeat (first | exact HB.out | apply bA | apply bN | apply bD | refine bS ?_ (IsS116.ge HI0.out))) hb); replace HI0 := ak (IsS116.below (by repeat (first | exact HI0.out | apply IsS116.alloc | apply IsS116.drewN | apply IsS116.drew | apply IsS116.set_1)) hb); clear hb ho21) | ((with_reducible refine gate_callee (f := 102) rfl ?_); refine goesL_ (some 20) rfl rfl Try.func102 (by kernel_rfl) rfl #[.pointer (some ⟨g, 0, none⟩), .int .i64 5] rfl (by (try simp only [List.map_toArray, List.map_cons, List.map_nil]); first | done | rfl | (simp only [List.length_drop, List.length_take]; rfl)) ?_; (with_reducible refine (spec_l20Rd_pick.calls k g s0_0 t509 5 t513 t514 w0 _ ?side1 ?side2 A15.out).mono ?_); (case side1 => repeat (first | exact HI0.out | apply IsS116.alloc | apply IsS116.drewN | apply IsS116.drew | apply IsS116.set_1)); (case side2 => repeat (first | exact HB.out | apply bA | apply bN | apply bD | refine bS ?_ (IsS116.ge HI0.out))); rintro e w22 ⟨rfl, hi, hb, hk⟩; refine ⟨_, rfl, ?_⟩; replace HO512 := ak (Kd.R_mono (Kd.R_keep (IsS116.apart (show IsS116 w0 _ g s0_0 t509 from by repeat (first | exact HI0.out | apply IsS116.alloc | apply IsS116.drewN | apply IsS116.drew | apply IsS116.set_1)) (by (with_reducible repeat (first | apply Kd.R_alloc | apply Kd.R_drewN | apply Kd.R_drew)); exact HO512.out) (by decide)) hk (fun _ h => h.2)) (fun _ h => h.1)); replace HK := ak (KeepBut.trans (by repeat (first | exact HK.out | apply KeepBut.set_ | apply keep_drewN | apply keep_drew | apply keep_alloc)) hk (.inl rfl)); replace HB := ak (hb); replace HI0 := ak (hi); (try clear hb); obtain ⟨Ao23, co23, eo23⟩ := Kd.R_slice HO512.out; subst eo23; have p515 : 0 ≤ (t513 : Int) := of_decide_eq_true (by assumption); have q515 : t513 < (y510.length : Int) := of_decide_eq_true (by assumption); obtain ⟨ad515, e515, hx515_0⟩ := Kd.at_string (Kd.R_reads' HO512.out).2.2 t513 p515 q515; cases e515; replace p515 := eq_true p515; replace q515 := eq_true q515))
     go_ret
     exact ⟨by first | rfl | (simp only [u8_w_, w64_u8_] <;> rfl) | (simp [errW_none, errW_some] <;> rfl) | (simp [*, errW_none, errW_some] <;> rfl), by repeat (first | exact HI0.out | apply IsS116.alloc | apply IsS116.drewN | apply IsS116.drew | apply IsS116.set_1), by repeat (first | exact HB.out | apply bA | apply bN | apply bD | refine bS ?_ (IsS116.ge HI0.out)), by repeat (first | exact HK.out | apply KeepBut.set_ | apply keep_drewN | apply keep_drew | apply keep_alloc)⟩
    ·rw [if_neg c17] at H
     exact absurd H (by simp)
   ·rw [if_neg c16] at H
    exact absurd H (by simp)
  ·rw [if_neg c14] at H
   have c14b0 : (t508 == 11) = false := beq_eq_false_iff_ne.mpr c14
   have c14b1 : (t508 != 11) = true := bne_iff_ne.mpr c14
   replace H := Option.bind_eq_some_iff.mp H
   obtain ⟨⟨t516, t517⟩, A240, H⟩ := H
   try dsimp only at H
   have A24 := ak A240
   clear A240
   have H' := ak H
   clear H
   go_enter Try.func103, Try.ntmps103
   go_wp2_with (first | ((with_reducible refine gate_callee (f := 105) rfl ?_); refine goesL_ (some 9) rfl rfl Try.func105 (by kernel_rfl) rfl #[.pointer (some ⟨g, 0, none⟩), .int .i64 a1] rfl (by (try simp only [List.map_toArray, List.map_cons, List.map_nil]); first | done | rfl | (simp only [List.length_drop, List.length_take]; rfl)) ?_; (with_reducible refine (spec_l20Rd_odd.calls k g s0_0 s0_1 a1 false t501 w0 _ ?side1 ?side2 A3.out).mono ?_); (case side1 => repeat (first | exact HI0.out | apply IsS116.alloc | apply IsS116.drewN | apply IsS116.drew | apply IsS116.set_1)); (case side2 => repeat (first | exact HB.out | apply bA | apply bN | apply bD | refine bS ?_ (IsS116.ge HI0.out))); rintro e w25 ⟨rfl, hi, hb, hk⟩; refine ⟨_, rfl, ?_⟩; replace HK := ak (KeepBut.trans (by repeat (first | exact HK.out | apply KeepBut.set_ | apply keep_drewN | apply keep_drew | apply keep_alloc)) hk (.inl rfl)); replace HB := ak (hb); replace HI0 := ak (hi); (try clear hb)) | ((with_reducible refine gate_callee (f := 102) rfl ?_); refine goesL_ (some 16) rfl rfl Try.func102 (by kernel_rfl) rfl #[.pointer (some ⟨g, 0, none⟩), .int .i64 12] rfl (by (try simp only [List.map_toArray, List.map_cons, List.map_nil]); first | done | rfl | (simp only [List.length_drop, List.length_take]; rfl)) ?_; (with_reducible refine (spec_l20Rd_pick.calls k g s0_0 t501 12 t508 t509 w0 _ ?side1 ?side2 A13.out).mono ?_); (case side1 => repeat (first | exact HI0.out | apply IsS116.alloc | apply IsS116.drewN | apply IsS116.drew | apply IsS116.set_1)); (case side2 => repeat (first | exact HB.out | apply bA | apply bN | apply bD | refine bS ?_ (IsS116.ge HI0.out))); rintro e w26 ⟨rfl, hi, hb, hk⟩; refine ⟨_, rfl, ?_⟩; replace HK := ak (KeepBut.trans (by repeat (first | exact HK.out | apply KeepBut.set_ | apply keep_drewN | apply keep_drew | apply keep_alloc)) hk (.inl rfl)); replace HB := ak (hb); replace HI0 := ak (hi); (try clear hb)) | ((with_reducible refine gate_callee (f := 102) rfl ?_); refine goesL_ (some 24) rfl rfl Try.func102 (by kernel_rfl) rfl #[.pointer (some ⟨g, 0, none⟩), .int .i64 2] rfl (by (try simp only [List.map_toArray, List.map_cons, List.map_nil]); first | done | rfl | (simp only [List.length_drop, List.length_take]; rfl)) ?_; (with_reducible refine (spec_l20Rd_pick.calls k g s0_0 t509 2 t516 t517 w0 _ ?side1 ?side2 A24.out).mono ?_); (case side1 => repeat (first | exact HI0.out | apply IsS116.alloc | apply IsS116.drewN | apply IsS116.drew | apply IsS116.set_1)); (case side2 => repeat (first | exact HB.out | apply bA | apply bN | apply bD | refine bS ?_ (IsS116.ge HI0.out))); rintro e w27 ⟨rfl, hi, hb, hk⟩; refine ⟨_, rfl, ?_⟩; replace HK := ak (KeepBut.trans (by repeat (first | exact HK.out | apply KeepBut.set_ | apply keep_drewN | apply keep_drew | apply keep_alloc)) hk (.inl rfl)); replace HB := ak (hb); replace HI0 := ak (hi); (try clear hb)))
   go_loopg [5, 6] k (fun kq v5 v6 w' => ∃ (x5_1 : ByteArray) (x6_1 : Int) (x1001_1 : Int), v5 = .string x5_1 ∧ v6 = .int .i64 x6_1 ∧ Aside0 (spec_l20Key.l0 kq x5_1 x6_1 s0_0 x1001_1 = some (r1, r2)) ∧ Aside0 (kq ≤ k) ∧ Aside0 (IsS116 w0 w' g s0_0 x1001_1) ∧ Aside0 (KeepBut w w' g none) ∧ Aside0 (Below w0.heap.size w0 w'))
   case atStart => exact ⟨((⟨#[]⟩ : ByteArray)), (wrap64 (1 + t516)), (t517), (by first | rfl | (simp; done) | (simp [bne]; done) | (simp [*]; done)), (by first | rfl | (simp; done) | (simp [bne]; done) | (simp [*]; done)), H', ⟨Nat.le_refl _⟩, ⟨by repeat (first | exact HI0.out | apply IsS116.alloc | apply IsS116.drewN | apply IsS116.drew | apply IsS116.set_1)⟩, ⟨by repeat (first | exact HK.out | apply KeepBut.set_ | apply keep_drewN | apply keep_drew | apply keep_alloc)⟩, ⟨by repeat (first | exact HB.out | apply bA | apply bN | apply bD | refine bS ?_ (IsS116.ge HI0.out))⟩⟩
   case round =>
    clear H'
    try clear c1
    try clear p2
    try clear c4
    try clear p5
    try clear q5
    try clear hx5
    try clear c6
    try clear c6b0
    try clear p6
    try clear c7
    try clear c7b0
    try clear c10
    try clear c14
    try clear c14b0
    try clear c14b1
    try clear c16
    try clear c16b0
    try clear c17
    try clear c17b0
    try clear hx507_0
    try clear hx515_0
    try clear p507
    try clear p515
    try clear q507
    try clear q515
    obtain ⟨x5_1, x6_1, x1001_1, rfl, rfl, HA, HK1, HI0, HK, HB⟩ := hrel
    cases gk with
    | zero => exact absurd HA.out (by simp [spec_l20Key.l0])
    | succ k1 =>
     have H := HA.out
     clear HA
     simp only [spec_l20Key.l0] at H
     by_cases c28 : x6_1 > 0
     ·rw [if_pos c28] at H
      have c28b0 : decide (0 < x6_1) = true := decide_eq_true c28
      clear c28
      replace H := Option.bind_eq_some_iff.mp H
      obtain ⟨⟨t518, t519⟩, A290, H⟩ := H
      try dsimp only at H
      have A29 := ak A290
      clear A290
      obtain ⟨y520, hy520⟩ : ∃ y_ : List Int, y_ = (([(wrap64 (97 + t518)) % 256] : List Int)) := ⟨_, rfl⟩
      replace H : (if x5_1.size + (strOfNums y520).size ≤ 9223372036854775807 then (spec_l20Key.l0 k1 (x5_1 ++ (strOfNums y520)) (wrap64 (x6_1 - 1)) s0_0 t519) else (none)) = some (r1, r2) := by first | (rw [hy520]; exact H) | exact H
      have Ny520 := ak hy520
      clear hy520
      by_cases c30 : x5_1.size + (strOfNums y520).size ≤ 9223372036854775807
      ·rw [if_pos c30] at H
       have c30b0 := eq_true c30
       have c30b1 : decide (x5_1.size + (strOfNums y520).size ≤ 9223372036854775807) = true := decide_eq_true c30
       try have c30b2 : (9223372036854775807 < x5_1.size + (strOfNums y520).size) = False := eq_false (Nat.not_lt.2 c30)
       have H' := ak H
       clear H
       go_wp2_with (first | ((with_reducible refine gate_callee (f := 102) rfl ?_); refine goesL_ (some 32) rfl rfl Try.func102 (by kernel_rfl) rfl #[.pointer (some ⟨g, 0, none⟩), .int .i64 4] rfl (by (try simp only [List.map_toArray, List.map_cons, List.map_nil]); first | done | rfl | (simp only [List.length_drop, List.length_take]; rfl)) ?_; (with_reducible refine (spec_l20Rd_pick.calls k1 g s0_0 x1001_1 4 t518 t519 w0 _ ?side1 ?side2 A29.out).mono ?_); (case side1 => repeat (first | exact HI0.out | apply IsS116.alloc | apply IsS116.drewN | apply IsS116.drew | apply IsS116.set_1)); (case side2 => repeat (first | exact HB.out | apply bA | apply bN | apply bD | refine bS ?_ (IsS116.ge HI0.out))); rintro e w31 ⟨rfl, hi, hb, hk⟩; refine ⟨_, rfl, ?_⟩; replace HK := ak (KeepBut.trans (by repeat (first | exact HK.out | apply KeepBut.set_ | apply keep_drewN | apply keep_drew | apply keep_alloc)) hk (.inl rfl)); replace HB := ak (hb); replace HI0 := ak (hi); (try clear hb)) | ((with_reducible refine gate_dst (N := 35) rfl ?_); refine Kd.R_lit (Kd.int .u8) _ 5 ?hg (N := 35) ?hd (xs := ([(wrap64 (97 + t518)) % 256] : List Int)) (inner := [.int .u8 ((wrap64 (97 + t518)) % 256)]) (ok := fun _ => True) (okp := fun _ => True) ?hr ?hp (fun _ hk => hk) trivial (Below.refl _ _) (Nat.le_refl _) (by simp) ?_; (case hd => rfl); (case hg => rfl); (case hr => first | (go_simp; done) | (go_simp; rfl)); (case hp => exact (Reps.one (show Kd.M (Kd.int .u8) _ _ _ ((wrap64 (97 + t518)) % 256) [.int .u8 ((wrap64 (97 + t518)) % 256)] from rfl) (Reps.none _ _))); intro v521 w32 ho33 hb hg_ hnew_; clear hg_ hnew_; (first | rw [← Ny520.out] at ho33 | (simp only [Int.reduceToNat] at ho33; rw [← Ny520.out] at ho33)); have HO522 := ak (Kd.R_lower ho33 (keep_size (w := w) (g := g) (row := none) (by repeat (first | exact HK.out | apply KeepBut.set_ | apply keep_drewN | apply keep_drew | apply keep_alloc)))); replace HK := ak (KeepBut.trans (by repeat (first | exact HK.out | apply KeepBut.set_ | apply keep_drewN | apply keep_drew | apply keep_alloc)) (KeepBut.of_below hb g none) (.inl rfl)); replace HB := ak (below_step (by repeat (first | exact HB.out | apply bA | apply bN | apply bD | refine bS ?_ (IsS116.ge HI0.out))) hb); replace HI0 := ak (IsS116.below (by repeat (first | exact HI0.out | apply IsS116.alloc | apply IsS116.drewN | apply IsS116.drew | apply IsS116.set_1)) hb); clear hb ho33; have hcv34 := own_string (P := Try.prog) Try.underlying31 Try.underlying5 Try.underlying9 (Kd.own_of_R HO522.out)))
       go_roundg k1
       case measure => have := HK1.out; omega
       case rel => exact ⟨(x5_1 ++ (strOfNums y520)), (wrap64 (x6_1 - 1)), (t519), (by first | rfl | (simp; done) | (simp [bne]; done) | (simp [*]; done)), (by first | rfl | (simp; done) | (simp [bne]; done) | (simp [*]; done)), H', ⟨by have := HK1.out; omega⟩, ⟨by repeat (first | exact HI0.out | apply IsS116.alloc | apply IsS116.drewN | apply IsS116.drew | apply IsS116.set_1)⟩, ⟨by repeat (first | exact HK.out | apply KeepBut.set_ | apply keep_drewN | apply keep_drew | apply keep_alloc)⟩, ⟨by repeat (first | exact HB.out | apply bA | apply bN | apply bD | refine bS ?_ (IsS116.ge HI0.out))⟩⟩
      ·rw [if_neg c30] at H
       exact absurd H (by simp)
     ·rw [if_neg c28] at H
      have c28b0 : decide (0 < x6_1) = false := decide_eq_false c28
      clear c28
      simp only [Option.some.injEq, Prod.mk.injEq] at H
      obtain ⟨rfl, rfl⟩ := H
      go_wp2
      go_ret
      exact ⟨by first | rfl | (simp only [u8_w_, w64_u8_] <;> rfl) | (simp [errW_none, errW_some] <;> rfl) | (simp [*, errW_none, errW_some] <;> rfl), by repeat (first | exact HI0.out | apply IsS116.alloc | apply IsS116.drewN | apply IsS116.drew | apply IsS116.set_1), by repeat (first | exact HB.out | apply bA | apply bN | apply bD | refine bS ?_ (IsS116.ge HI0.out)), by repeat (first | exact HK.out | apply KeepBut.set_ | apply keep_drewN | apply keep_drew | apply keep_alloc)⟩

/-! ### spec_l1Weight: function 114 -/
def spec_l1Weight.f (a0 : Int) : Option (Int) := if a0 = 0 then (some 18279) else (if a0 = 1 then (some 703) else (if a0 = 2 then (some 27) else (some 1)))
theorem spec_l1Weight.calls (a0 : Int) (r : Int) (w : World) (h : spec_l1Weight.f a0 = some r) :
  Calls Try.prog 114 #[.int .i64 a0] w fun e w' => e = .returned (.int .i64 r) ∧ Drawn0 w w' := by
 have H : (if a0 = 0 then (some 18279) else (if a0 = 1 then (some 703) else (if a0 = 2 then (some 27) else (some 1)))) = some r := h
 clear h
 by_cases c2 : a0 = 0
 ·rw [if_pos c2] at H
  have c2b0 : (a0 == 0) = true := beq_iff_eq.mpr c2
  have c2b1 : (a0 != 0) = false := bne_eq_false_iff_eq.mpr c2
  clear c2
  obtain rfl := Option.some.inj H
  go_enter Try.func114, Try.ntmps114
  go_wp2
  go_ret
  exact ⟨by first | rfl | (simp; done) | (simp [*]; done), by repeat (first | exact Drawn0.refl _ | apply Drawn0.step)⟩
 ·rw [if_neg c2] at H
  have c2b0 : (a0 == 0) = false := beq_eq_false_iff_ne.mpr c2
  have c2b1 : (a0 != 0) = true := bne_iff_ne.mpr c2
  by_cases c3 : a0 = 1
  ·rw [if_pos c3] at H
   have c3b0 : (a0 == 1) = true := beq_iff_eq.mpr c3
   have c3b1 : (a0 != 1) = false := bne_eq_false_iff_eq.mpr c3
   clear c3
   obtain rfl := Option.some.inj H
   go_enter Try.func114, Try.ntmps114
   go_wp2
   go_ret
   exact ⟨by first | rfl | (simp; done) | (simp [*]; done), by repeat (first | exact Drawn0.refl _ | apply Drawn0.step)⟩
  ·rw [if_neg c3] at H
   have c3b0 : (a0 == 1) = false := beq_eq_false_iff_ne.mpr c3
   have c3b1 : (a0 != 1) = true := bne_iff_ne.mpr c3
   by_cases c4 : a0 = 2
   ·rw [if_pos c4] at H
    have c4b0 : (a0 == 2) = true := beq_iff_eq.mpr c4
    have c4b1 : (a0 != 2) = false := bne_eq_false_iff_eq.mpr c4
    clear c4
    obtain rfl := Option.some.inj H
    go_enter Try.func114, Try.ntmps114
    go_wp2
    go_ret
    exact ⟨by first | rfl | (simp; done) | (simp [*]; done), by repeat (first | exact Drawn0.refl _ | apply Drawn0.step)⟩
   ·rw [if_neg c4] at H
    have c4b0 : (a0 == 2) = false := beq_eq_false_iff_ne.mpr c4
    have c4b1 : (a0 != 2) = true := bne_iff_ne.mpr c4
    obtain rfl := Option.some.inj H
    go_enter Try.func114, Try.ntmps114
    go_wp2
    go_ret
    exact ⟨by first | rfl | (simp; done) | (simp [*]; done), by repeat (first | exact Drawn0.refl _ | apply Drawn0.step)⟩

end Go.Proofs.Ytebgpbcbbjpbfaa.PFnPageFind
