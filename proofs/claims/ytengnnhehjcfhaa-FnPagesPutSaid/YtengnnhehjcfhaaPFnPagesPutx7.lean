-- Written for this claim by a program of this session (wip/myprint in the proofs' repo)
import Derived.Test.YtengnnhehjcfhaaPFnPagesPutx0
import Derived.Test.YtengnnhehjcfhaaPFnPagesPutx2
import Derived.Test.YtengnnhehjcfhaaPFnPagesPutx3
import Derived.Test.YtengnnhehjcfhaaPFnPagesPutx4
import Derived.Test.YtengnnhehjcfhaaPFnPagesPutx5
import Derived.Test.YtengnnhehjcfhaaPFnPagesPutx6
import Derived.Test.YtengnnhehjcfhaaWZip
-- slim4
namespace Go.Proofs.Ytengnnhehjcfhaa.PFnPagesPut
open Go.RowKit Go.Proofs.YtengnnhehjcfhaaW.PrintWords Go.Proofs.YtengnnhehjcfhaaW.PrintLast Go.Proofs.YtengnnhehjcfhaaW.PrintMore
attribute [local go_sem] max2_int min2_int max_two min_two max_three min_three max_four min_four max2_strs min2_strs   -- for this text's walks alone
set_option linter.unusedVariables false
set_option linter.unusedSimpArgs false
set_option maxHeartbeats 8000000
set_option maxRecDepth 100000

/-! ### spec_PagesDrop: function 7 -/
def spec_PagesDrop.j0 : Nat → List (S53) → ByteArray → Bool → Option ((List (S53)) × Bool)
 | 0, _, _, _ => none
 | k + 1, x0, x1, x17 => if x17 = true then (some ((([] : List (S53))), false)) else ((spec_l6Copy.f k x0).bind fun t259 => ((spec_PageFind.f k x0 x1).bind fun t262 => (if t262 < 0 then (some (t259, false)) else (if 0 ≤ t262 then (if t262 < (x0.length : Int) then ((spec_PairDrop.f k ((rd_T53 x0 t262).f0) x1).bind fun bt264 => (if bt264.2 = true then (if t262 < (t259.length : Int) then ((spec_l6Mend.f k (t259.set (t262 : Int).toNat (⟨bt264.1⟩ : S53)) t262).bind fun t269 => (some (t269, true))) else (none)) else (some (t259, false)))) else (none)) else (none)))))
def spec_PagesDrop.f (k : Nat) (l0 : List (S53)) (a1 : ByteArray) : Option ((List (S53)) × Bool) := (spec_PagesValid.f k l0).bind fun t254 => (if t254 = true then ((spec_KeyValid.f k a1).bind fun t255 => (spec_PagesDrop.j0 k l0 a1 (!t255))) else (spec_PagesDrop.j0 k l0 a1 true))
theorem spec_PagesDrop.mono_l : ∀ k, (∀ y0 y1 y2, LeO (spec_PagesDrop.j0 k y0 y1 y2) (spec_PagesDrop.j0 (k + 1) y0 y1 y2))
 | 0 => fun _ _ _ r h => by simp [spec_PagesDrop.j0] at h
 | k + 1 => by
  have ih0 := spec_PagesDrop.mono_l k
  ·intro y0 y1 y2
   unfold spec_PagesDrop.j0
   repeat' first
   | (with_reducible exact ih0 _ _ _)
   | (with_reducible exact spec_KeyValid.mono _ _)
   | (with_reducible exact spec_PageFind.mono _ _ _)
   | (with_reducible exact spec_PagesValid.mono _ _)
   | (with_reducible exact spec_PairDrop.mono _ _ _)
   | (with_reducible exact spec_l6Copy.mono _ _)
   | (with_reducible exact spec_l6Mend.mono _ _ _)
   | (with_reducible exact LeO.refl _)
   | (with_reducible exact LeO.none _)
   | (with_reducible refine LeO.ite ?_ ?_)
   | (with_reducible refine LeO.bind ?_ (fun _ => ?_))
   | exact ih0 _ _ _
   | exact LeO.none _
   | refine LeO.ite ?_ ?_
   | refine LeO.bind ?_ (fun _ => ?_)
theorem spec_PagesDrop.mono : ∀ a0 a1 k, LeO (spec_PagesDrop.f k a0 a1) (spec_PagesDrop.f (k + 1) a0 a1) := by
 intro a0 a1 k
 have ih0 := spec_PagesDrop.mono_l k
 unfold spec_PagesDrop.f
 repeat' first
   | (with_reducible exact ih0 _ _ _)
   | (with_reducible exact spec_KeyValid.mono _ _)
   | (with_reducible exact spec_PageFind.mono _ _ _)
   | (with_reducible exact spec_PagesValid.mono _ _)
   | (with_reducible exact spec_PairDrop.mono _ _ _)
   | (with_reducible exact spec_l6Copy.mono _ _)
   | (with_reducible exact spec_l6Mend.mono _ _ _)
   | (with_reducible exact LeO.refl _)
   | (with_reducible exact LeO.none _)
   | (with_reducible refine LeO.ite ?_ ?_)
   | (with_reducible refine LeO.bind ?_ (fun _ => ?_))
   | exact ih0 _ _ _
   | exact LeO.none _
   | refine LeO.ite ?_ ?_
   | refine LeO.bind ?_ (fun _ => ?_)
theorem spec_PagesDrop.calls (k : Nat) (A0 : Option Addr) (c0 : Nat) (l0 : List (S53)) (a1 : ByteArray) (r1 : List (S53)) (r2 : Bool) (w : World) (hr0 : Kd.C k53 w A0 l0.length l0) (hc0 : l0.length ≤ c0) (h : spec_PagesDrop.f k l0 a1 = some (r1, r2)) :
  Calls Try.prog 7 #[.slice A0 l0.length c0, .string a1] w fun e w' => ∃ v0_ : Value, e = .returned (.tuple #[v0_, .bool r2]) ∧ Kd.N k53 53 w' w.heap.size (fun k_ => (w.heap.size ≤ k_)) v0_ r1 ∧ Below w.heap.size w w' := by
 have HR0 := ak hr0
 have HC0 := ak hc0
 clear hr0 hc0
 have HB := ak (Below.refl w.heap.size w)
 have H : ((spec_PagesValid.f k l0).bind fun t254 => (if t254 = true then ((spec_KeyValid.f k a1).bind fun t255 => (spec_PagesDrop.j0 k l0 a1 (!t255))) else (spec_PagesDrop.j0 k l0 a1 true))) = some (r1, r2) := h
 clear h
 have HC3 := ak H
 clear H
 go_enter Try.func7, Try.ntmps7
 go_upto_region 1 with (fail)
 go_cut [17] (fun v17 wc => ∃ (kq : Nat) (x17_2 : Bool), v17 = .bool x17_2 ∧ Aside0 (spec_PagesDrop.j0 kq l0 a1 x17_2 = some (r1, r2)) ∧ Aside0 (kq ≤ k) ∧ Aside0 (Below w.heap.size w wc))
 case first =>
  have H := HC3.out
  clear HC3
  replace H := Option.bind_eq_some_iff.mp H
  obtain ⟨t254, A40, H⟩ := H
  try dsimp only at H
  have A4 := ak A40
  clear A40
  by_cases c5 : t254 = true
  ·subst c5
   rw [if_pos rfl] at H
   replace H := Option.bind_eq_some_iff.mp H
   obtain ⟨t255, A60, H⟩ := H
   try dsimp only at H
   have A6 := ak A60
   clear A60
   have H' := ak H
   clear H
   go_wp2_with (first | ((with_reducible refine gate_callee (f := 23) rfl ?_); refine gL (some 11) Try.func23 #[.slice A0 l0.length c0] ?_; (with_reducible refine (spec_PagesValid.calls k _ _ l0 true _ ?side1 ?side2 A4.out).mono ?_); (case side1 => exact hC (Kd.C_below HR0.out HB.out)); (case side2 => exact HC0.out); rintro e w7 ⟨rfl, hb⟩; refine ⟨_, rfl, ?_⟩; replace HB := ak (below_step (by exact hopb HB.out) hb); (try clear hb)) | (go_at_call 24; (with_reducible refine (spec_KeyValid.calls k a1 t255 _ A6.out).mono ?_); rintro e w' ⟨rfl, ⟨nd, rfl⟩⟩))
   go_meet
   case rel => exact ⟨_, (!t255), (by first | rfl | (simp [*]; done)), H', ⟨by first | omega | exact Nat.le_refl _⟩, ⟨by exact hopb HB.out⟩⟩
  ·replace c5 := Bool.eq_false_iff.mpr c5
   subst c5
   rw [if_neg (show ¬ (false = true) by decide)] at H
   have H' := ak H
   clear H
   go_wp2_with (first | ((with_reducible refine gate_callee (f := 23) rfl ?_); refine gL (some 11) Try.func23 #[.slice A0 l0.length c0] ?_; (with_reducible refine (spec_PagesValid.calls k _ _ l0 false _ ?side1 ?side2 A4.out).mono ?_); (case side1 => exact hC (Kd.C_below HR0.out HB.out)); (case side2 => exact HC0.out); rintro e w8 ⟨rfl, hb⟩; refine ⟨_, rfl, ?_⟩; replace HB := ak (below_step (by exact hopb HB.out) hb); (try clear hb)))
   go_meet
   case rel => exact ⟨_, (true), (by first | rfl | (simp [*]; done)), H', ⟨by first | omega | exact Nat.le_refl _⟩, ⟨by exact hopb HB.out⟩⟩
 case rest =>
  clear HC3
  try clear c2
  try clear p2
  try clear c5
  try clear c7
  obtain ⟨kq, x17_2, rfl, HA, HJ2, HB⟩ := hcut
  cases kq with
  | zero => exact absurd HA.out (by simp [spec_PagesDrop.j0])
  | succ kj2 =>
   have H := HA.out
   clear HA
   simp only [spec_PagesDrop.j0] at H
   by_cases c9 : x17_2 = true
   ·subst c9
    rw [if_pos rfl] at H
    obtain ⟨y256, hy256⟩ : ∃ y_ : List (S53), y_ = (([] : List (S53))) := ⟨_, rfl⟩
    replace H : (some (y256, false)) = some (r1, r2) := by first | (rw [hy256]; exact H) | exact H
    have Ny256 := ak hy256
    clear hy256
    simp only [Option.some.injEq, Prod.mk.injEq] at H
    obtain ⟨rfl, rfl⟩ := H
    go_wp2_with (first | ((with_reducible refine gate_dst (N := 18) rfl ?_); refine Kd.N_lit k53 _ 53 ?hg (N' := 18) ?hd (xs := ([] : List (S53))) (inner := []) (ok := (fun k_ => (w.heap.size ≤ k_))) (okp := (fun k_ => (w.heap.size ≤ k_))) ?hr ?hp (fun _ hk => hk) ((show ∀ k_, wc.heap.size ≤ k_ → (fun k_ => (w.heap.size ≤ k_)) k_ from fun k_ hk => (Nat.le_trans (below_size (by exact hopb HB.out)) hk)) _ (Nat.le_refl _)) (Below.refl _ _) (Nat.le_refl _) (by simp) ?_; (case hd => rfl); (case hg => rfl); (case hr => go_simp <;> rfl); (case hp => exact (Reps.none _ _)); intro v257 w10 ho11 hb hg_ hnew_; clear hg_ hnew_; (first | rw [← Ny256.out] at ho11 | (simp only [Int.reduceToNat] at ho11; rw [← Ny256.out] at ho11)); have HO258 := ak (Kd.N_lower ho11 (below_size (by exact hopb HB.out))); replace HB := ak (below_step (by exact hopb HB.out) hb); clear hb ho11))
    go_ret2
    exact ⟨_, by first | rfl | (simp [*, errW_none, errW_some] <;> rfl), by (with_reducible repeat (first | apply Kd.N_alloc | apply Kd.N_drewN | apply Kd.N_drew)); exact HO258.out, by exact hopb HB.out⟩
   ·replace c9 := Bool.eq_false_iff.mpr c9
    subst c9
    rw [if_neg (show ¬ (false = true) by decide)] at H
    replace H := Option.bind_eq_some_iff.mp H
    obtain ⟨t259, A120, H⟩ := H
    try dsimp only at H
    have A12 := ak A120
    clear A120
    replace H := Option.bind_eq_some_iff.mp H
    obtain ⟨t262, A130, H⟩ := H
    try dsimp only at H
    have A13 := ak A130
    clear A130
    by_cases c14 : t262 < 0
    ·rw [if_pos c14] at H
     have c14b0 : decide (t262 < 0) = true := decide_eq_true c14
     clear c14
     simp only [Option.some.injEq, Prod.mk.injEq] at H
     obtain ⟨rfl, rfl⟩ := H
     go_wp2_with (first | ((with_reducible refine gate_callee (f := 25) rfl ?_); refine gL (some 20) Try.func25 #[.slice A0 l0.length c0] ?_; (with_reducible refine (spec_l6Copy.calls kj2 _ _ l0 t259 _ ?side1 ?side2 A12.out).mono ?_); (case side1 => exact hC (Kd.C_below HR0.out HB.out)); (case side2 => exact HC0.out); rintro e w15 ⟨v260, rfl, ho0, hb⟩; refine ⟨_, rfl, ?_⟩; have HO261 := ak (Kd.N_lower (Kd.N_mono (ok' := fun k_ => (w.heap.size ≤ k_)) (Kd.S_N (Kd.S_bound ho0)) (fun k_ hk_ => (Nat.le_trans (below_size (by exact hopb HB.out)) hk_.2.1))) (below_size (by exact hopb HB.out))); replace HB := ak (below_step (by exact hopb HB.out) hb); (try clear hb); (try clear ho0)) | ((with_reducible refine gate_callee (f := 26) rfl ?_); refine gL (some 23) Try.func26 #[.slice A0 l0.length c0, .string a1] ?_; (with_reducible refine (spec_PageFind.calls kj2 _ _ l0 a1 t262 _ ?side1 ?side2 A13.out).mono ?_); (case side1 => exact hC (Kd.C_below HR0.out HB.out)); (case side2 => exact HC0.out); rintro e w16 ⟨rfl, hb⟩; refine ⟨_, rfl, ?_⟩; replace HO261 := ak (Kd.N_below (hN HO261.out) hb); replace HB := ak (below_step (by exact hopb HB.out) hb); (try clear hb)))
     go_ret2
     exact ⟨_, by first | rfl | (simp [*, errW_none, errW_some] <;> rfl), by (with_reducible repeat (first | apply Kd.N_alloc | apply Kd.N_drewN | apply Kd.N_drew)); exact HO261.out, by exact hopb HB.out⟩
    ·rw [if_neg c14] at H
     have c14b0 : decide (t262 < 0) = false := decide_eq_false c14
     clear c14
     by_cases c17 : 0 ≤ t262
     ·rw [if_pos c17] at H
      have c17b0 : decide (0 ≤ t262) = true := decide_eq_true c17
      clear c17
      by_cases c18 : t262 < (l0.length : Int)
      ·rw [if_pos c18] at H
       have c18b0 : decide (t262 < (l0.length : Int)) = true := decide_eq_true c18
       clear c18
       replace H := Option.bind_eq_some_iff.mp H
       obtain ⟨⟨t264, t265⟩, A190, H⟩ := H
       try dsimp only at H
       have A19 := ak A190
       clear A190
       by_cases c20 : t265 = true
       ·subst c20
        rw [if_pos rfl] at H
        by_cases c21 : t262 < (t259.length : Int)
        ·rw [if_pos c21] at H
         have c21b0 : decide (t262 < (t259.length : Int)) = true := decide_eq_true c21
         clear c21
         obtain ⟨y268, hy268⟩ : ∃ y_ : List (S53), y_ = (t259.set (t262 : Int).toNat (⟨t264⟩ : S53)) := ⟨_, rfl⟩
         replace H : ((spec_l6Mend.f kj2 y268 t262).bind fun t269 => (some (t269, true))) = some (r1, r2) := by first | (rw [hy268]; exact H) | exact H
         have Ny268 := ak hy268
         clear hy268
         replace H := Option.bind_eq_some_iff.mp H
         obtain ⟨t269, A230, H⟩ := H
         try dsimp only at H
         have A23 := ak A230
         clear A230
         simp only [Option.some.injEq, Prod.mk.injEq] at H
         obtain ⟨rfl, rfl⟩ := H
         go_wp2_with (first | ((with_reducible refine gate_callee (f := 25) rfl ?_); refine gL (some 20) Try.func25 #[.slice A0 l0.length c0] ?_; (with_reducible refine (spec_l6Copy.calls kj2 _ _ l0 t259 _ ?side1 ?side2 A12.out).mono ?_); (case side1 => exact hC (Kd.C_below HR0.out HB.out)); (case side2 => exact HC0.out); rintro e w24 ⟨v260, rfl, ho0, hb⟩; refine ⟨_, rfl, ?_⟩; have HO261 := ak (Kd.N_lower (Kd.N_mono (ok' := fun k_ => (w.heap.size ≤ k_)) (Kd.S_N (Kd.S_bound ho0)) (fun k_ hk_ => (Nat.le_trans (below_size (by exact hopb HB.out)) hk_.2.1))) (below_size (by exact hopb HB.out))); replace HB := ak (below_step (by exact hopb HB.out) hb); (try clear hb); (try clear ho0)) | ((with_reducible refine gate_callee (f := 26) rfl ?_); refine gL (some 23) Try.func26 #[.slice A0 l0.length c0, .string a1] ?_; (with_reducible refine (spec_PageFind.calls kj2 _ _ l0 a1 t262 _ ?side1 ?side2 A13.out).mono ?_); (case side1 => exact hC (Kd.C_below HR0.out HB.out)); (case side2 => exact HC0.out); rintro e w25 ⟨rfl, hb⟩; refine ⟨_, rfl, ?_⟩; replace HO261 := ak (Kd.N_below (hN HO261.out) hb); replace HB := ak (below_step (by exact hopb HB.out) hb); (try clear hb); have p263 : 0 ≤ (t262 : Int) := of_decide_eq_true (by assumption); have q263 : t262 < (l0.length : Int) := of_decide_eq_true (by assumption); obtain ⟨ad263, A263_0, c263_0, e263, hx263_0, hl263_0, hi263_0⟩ := at_T53 HR0.out t262 p263 q263; cases e263; replace hx263_0 := (HB.out.cell (World.block_lt_of_cell? w _ hx263_0)).trans hx263_0; have HR263_0 := ak hi263_0; have HC263_0 := ak hl263_0; clear hi263_0 hl263_0; replace p263 := eq_true p263; replace q263 := eq_true q263) | ((with_reducible refine gate_callee (f := 27) rfl ?_); refine gL (some 34) Try.func27 #[.slice A263_0 ((rd_T53 l0 t262).f0).length c263_0, .string a1] ?_; (with_reducible refine (spec_PairDrop.calls kj2 _ _ ((rd_T53 l0 t262).f0) a1 t264 true _ ?side1 ?side2 A19.out).mono ?_); (case side1 => exact hC (Kd.C_below HR263_0.out HB.out)); (case side2 => exact HC263_0.out); rintro e w26 ⟨v266, rfl, ho0, hb⟩; refine ⟨_, rfl, ?_⟩; replace HO261 := ak (Kd.N_elder' (hN HO261.out) (Kd.R_base ho0) hb); have HO267 := ak (Kd.R_lower (Kd.R_newM (M := fun k_ => (w.heap.size ≤ k_)) ho0 (below_size (by exact hopb HB.out)) (fun k_ h_ => h_)) (below_size (by exact hopb HB.out))); replace HB := ak (below_step (by exact hopb HB.out) hb); (try clear hb); (try clear ho0); have p22 : 0 ≤ (t262 : Int) := of_decide_eq_true (by assumption); have q22 : (t262 : Int) < ((t259.length : Int) : Int) := of_decide_eq_true (by assumption); obtain ⟨go22, co22, eo22, gb22, gl22, cl22, HG22⟩ := Kd.N_form HO261.out (by omega); (first | cases eo22 | (injection eo22 with ea_ en_ ec_; (first | subst ea_ | (injection ea_ with ea_; subst ea_)); subst ec_; clear en_)); have GB22 := ak gb22; have GG22 := ak HG22; clear gb22 gl22 HG22; obtain ⟨ce22, hcl22, hM22, hcc22, hfr22⟩ := Kd.N_elem HO261.out z53 (t262 : Int) p22 q22; obtain ⟨ua22_0, uc22_0, rfl, ul22_0, ge22_0⟩ := k53_openF hM22; have hx22_0 := hcc22 0 _ rfl; have hf22_0 := hfr22 0; (try simp only [show (k53).sz = 1 from rfl, Nat.mul_one, Nat.add_zero] at hx22_0); (try simp only [show (k53).sz = 1 from rfl, Nat.mul_one, Nat.add_zero] at hf22_0); clear hcl22 hcc22 hfr22 hM22; replace p22 := eq_true p22; replace q22 := eq_true q22; have HX27 := ak (show Kd.N k53 53 w26 w.heap.size (fun k_ => (w.heap.size ≤ k_)) (.slice (some ⟨go22, 0, none⟩) t259.length co22) t259 from (by (with_reducible repeat (first | apply Kd.N_alloc | apply Kd.N_drewN | apply Kd.N_drew)); exact Kd.N_mono HO261.out (fun _ hk => hk.1))); obtain ⟨ce27, hcl27, hM27, hcc27, hfr27⟩ := Kd.N_elem HX27.out z53 (t262 : Int) (of_decide_eq_true (by assumption)) (by have h_ : (t262 : Int) < ((t259.length : Int) : Int) := of_decide_eq_true (by assumption); first | exact h_ | (have e_ := (Kd.N_reads' HO261.out).1; omega) | simpa using h_); obtain ⟨ua27_0, uc27_0, rfl, ul27_0, ge27_0⟩ := k53_openF hM27; have HP27 := Kd.N_seg HX27.out (t262 : Int) (of_decide_eq_true (by assumption)) (by have h_ : (t262 : Int) < ((t259.length : Int) : Int) := of_decide_eq_true (by assumption); first | exact h_ | (have e_ := (Kd.N_reads' HO261.out).1; omega) | simpa using h_) (seg := [v266]) (j := 0) hcl27 hcc27 (show 1 ≤ 1 from by decide) (x' := (⟨t264⟩ : S53)) (by have hmk_ := Kd.R_mono (ok' := (fun k_ => ((fun k_ => (w.heap.size ≤ k_))) k_ ∧ k_ ≠ go22)) (Kd.R_apart' (HO267.out) (Kd.N_typed HO261.out) (by decide)) (fun k_ hk => ⟨hk.1.1, fun e_ => (hk.2) (by rw [e_]; rfl)⟩); obtain ⟨Am_, cm_, em_⟩ := Kd.R_slice hmk_; rw [em_] at hmk_ ⊢; exact k53_mkF _ _ (⟨t264⟩ : S53) (Kd.R_reads' hmk_).2.1 (Kd.R_F hmk_)) (fun _ hk => hk); have hx27_0 := hcc27 0 _ rfl; (try simp only [show (k53).sz = 1 from rfl, Nat.mul_one, Nat.add_zero] at hx27_0); have hf27_0 := hfr27 0; (try simp only [show (k53).sz = 1 from rfl, Nat.mul_one, Nat.add_zero] at hf27_0); clear hcl27 hcc27 hfr27 hM27; (try simp only [show (k53).sz = 1 from rfl, Nat.mul_one, Nat.add_zero] at HP27); (try simp only [show (k53).sz = 1 from rfl, Nat.mul_one, Nat.add_zero] at HP27)) | ((with_reducible refine gate_store (t := 36) (p := 44) rfl ?_); refine store_event (t := 36) (p := 44) (v := ?vo_w28) (w1 := (w26.setCell ⟨go22, (t262 : Int).toNat, none⟩ (v266))) ?hg ?ho ?hn ?hr ?_; (case ho => rfl); (case hg => rfl); (case hn => rfl); (case hr => first | (go_simp; done) | (go_simp; rfl) | (obtain ⟨A_, c_, e_⟩ := Kd.R_slice (‹Aside0 (Kd.R _ _ _ _ _ v266 _)›).out; rw [e_]; go_simp <;> rfl) | (have one_ : Value.oneCell' v266 = true := (by (first | obtain ⟨A_, c_, e_⟩ := Kd.R_slice (‹Aside0 (Kd.R _ _ _ _ _ v266 _)›).out | obtain ⟨A_, c_, e_⟩ := Kd.N_slice (‹Aside0 (Kd.N _ _ _ _ _ v266 _)›).out | obtain ⟨A_, c_, e_⟩ := Kd.S_slice (‹Aside0 (Kd.S _ _ _ _ _ v266 _)›).out); rw [e_]; rfl); have sto_ := fun (a_ : Addr) m_ (w_ : World) => run_store Try.prog w_ a_ v266 m_ one_; go_simp <;> rfl)); intro w28 hw; have hg : w26.grownBy w28 (some go22) := (by rw [hw]; exact HP27.2); have hp_ : Kd.N k53 53 w28 w.heap.size (fun k_ => (w.heap.size ≤ k_)) (.slice (some ⟨go22, 0, none⟩) t259.length co22) y268 := (by rw [hw, Ny268.out]; exact HP27.1); clear HP27; replace HO261 := ak (hp_); replace HB := ak ((by rw [hw]; exact below_set (HB.out) GB22.out : Below w.heap.size w w28)); clear HO267; clear hg hw hp_) | ((with_reducible refine gate_callee (f := 28) rfl ?_); refine gL (some 47) Try.func28 #[.slice (some ⟨go22, 0, none⟩) t259.length co22, .int .i64 t262] ?_; (with_reducible refine (spec_l6Mend.calls kj2 (fun k_ => (w.heap.size ≤ k_)) (.slice (some ⟨go22, 0, none⟩) t259.length co22) y268 t262 t269 w _ ?side1 ?side2 A23.out).mono ?_); (case side1 => exact hopb HB.out); (case side2 => exact HO261.out); rintro e w29 ⟨v270, rfl, ho0, hb, hkp⟩; refine ⟨_, rfl, ?_⟩; have HO271 := ak (Kd.N_mono (ok' := fun k_ => (w.heap.size ≤ k_)) ho0 (fun k_ hk_ => Or.elim hk_ (fun hs_ => hs_) (fun hn_ => (Nat.le_trans (below_size (by exact hopb HB.out)) hn_)))); replace HB := ak (hb); clear HO261; (try clear hb); (try clear hkp); (try clear ho0)))
         go_ret2
         exact ⟨_, by first | rfl | (simp [*, errW_none, errW_some] <;> rfl), by (with_reducible repeat (first | apply Kd.N_alloc | apply Kd.N_drewN | apply Kd.N_drew)); exact HO271.out, by exact hopb HB.out⟩
        ·rw [if_neg c21] at H
         exact absurd H (by simp)
       ·replace c20 := Bool.eq_false_iff.mpr c20
        subst c20
        rw [if_neg (show ¬ (false = true) by decide)] at H
        simp only [Option.some.injEq, Prod.mk.injEq] at H
        obtain ⟨rfl, rfl⟩ := H
        go_wp2_with (first | ((with_reducible refine gate_callee (f := 25) rfl ?_); refine gL (some 20) Try.func25 #[.slice A0 l0.length c0] ?_; (with_reducible refine (spec_l6Copy.calls kj2 _ _ l0 t259 _ ?side1 ?side2 A12.out).mono ?_); (case side1 => exact hC (Kd.C_below HR0.out HB.out)); (case side2 => exact HC0.out); rintro e w30 ⟨v260, rfl, ho0, hb⟩; refine ⟨_, rfl, ?_⟩; have HO261 := ak (Kd.N_lower (Kd.N_mono (ok' := fun k_ => (w.heap.size ≤ k_)) (Kd.S_N (Kd.S_bound ho0)) (fun k_ hk_ => (Nat.le_trans (below_size (by exact hopb HB.out)) hk_.2.1))) (below_size (by exact hopb HB.out))); replace HB := ak (below_step (by exact hopb HB.out) hb); (try clear hb); (try clear ho0)) | ((with_reducible refine gate_callee (f := 26) rfl ?_); refine gL (some 23) Try.func26 #[.slice A0 l0.length c0, .string a1] ?_; (with_reducible refine (spec_PageFind.calls kj2 _ _ l0 a1 t262 _ ?side1 ?side2 A13.out).mono ?_); (case side1 => exact hC (Kd.C_below HR0.out HB.out)); (case side2 => exact HC0.out); rintro e w31 ⟨rfl, hb⟩; refine ⟨_, rfl, ?_⟩; replace HO261 := ak (Kd.N_below (hN HO261.out) hb); replace HB := ak (below_step (by exact hopb HB.out) hb); (try clear hb); have p263 : 0 ≤ (t262 : Int) := of_decide_eq_true (by assumption); have q263 : t262 < (l0.length : Int) := of_decide_eq_true (by assumption); obtain ⟨ad263, A263_0, c263_0, e263, hx263_0, hl263_0, hi263_0⟩ := at_T53 HR0.out t262 p263 q263; cases e263; replace hx263_0 := (HB.out.cell (World.block_lt_of_cell? w _ hx263_0)).trans hx263_0; have HR263_0 := ak hi263_0; have HC263_0 := ak hl263_0; clear hi263_0 hl263_0; replace p263 := eq_true p263; replace q263 := eq_true q263) | ((with_reducible refine gate_callee (f := 27) rfl ?_); refine gL (some 34) Try.func27 #[.slice A263_0 ((rd_T53 l0 t262).f0).length c263_0, .string a1] ?_; (with_reducible refine (spec_PairDrop.calls kj2 _ _ ((rd_T53 l0 t262).f0) a1 t264 false _ ?side1 ?side2 A19.out).mono ?_); (case side1 => exact hC (Kd.C_below HR263_0.out HB.out)); (case side2 => exact HC263_0.out); rintro e w32 ⟨v266, rfl, ho0, hb⟩; refine ⟨_, rfl, ?_⟩; replace HO261 := ak (Kd.N_elder' (hN HO261.out) (Kd.R_base ho0) hb); have HO267 := ak (Kd.R_lower (Kd.R_newM (M := fun k_ => (w.heap.size ≤ k_)) ho0 (below_size (by exact hopb HB.out)) (fun k_ h_ => h_)) (below_size (by exact hopb HB.out))); replace HB := ak (below_step (by exact hopb HB.out) hb); (try clear hb); (try clear ho0)))
        go_ret2
        exact ⟨_, by first | rfl | (simp [*, errW_none, errW_some] <;> rfl), by (with_reducible repeat (first | apply Kd.N_alloc | apply Kd.N_drewN | apply Kd.N_drew)); exact Kd.N_mono HO261.out (fun _ hk => hk.1), by exact hopb HB.out⟩
      ·rw [if_neg c18] at H
       exact absurd H (by simp)
     ·rw [if_neg c17] at H
      exact absurd H (by simp)

/-! ### spec_PagesList: function 41 -/
def spec_PagesList.l0 : Nat → List (S53) → List (S65) → Int → Option ((List (S65)))
 | 0, _, _, _ => none
 | k + 1, x0, x3, x4 => if x4 < (x0.length : Int) then ((spec_PagesValid.f k x0).bind fun t275 => (if t275 = true then (if 0 ≤ x4 then (if x3.length + ((rd_T53 x0 x4).f0).length < 5864062014805 then (spec_PagesList.l0 k x0 (x3 ++ ((rd_T53 x0 x4).f0)) (wrap64 (x4 + 1))) else (none)) else (none)) else (some x3))) else (some x3)
def spec_PagesList.f (k : Nat) (l0 : List (S53)) : Option ((List (S65))) := spec_PagesList.l0 k l0 (([] : List (S65))) 0
theorem spec_PagesList.mono_l : ∀ k, (∀ y0 y1 y2, LeO (spec_PagesList.l0 k y0 y1 y2) (spec_PagesList.l0 (k + 1) y0 y1 y2))
 | 0 => fun _ _ _ r h => by simp [spec_PagesList.l0] at h
 | k + 1 => by
  have ih0 := spec_PagesList.mono_l k
  ·intro y0 y1 y2
   unfold spec_PagesList.l0
   repeat' first
   | (with_reducible exact ih0 _ _ _)
   | (with_reducible exact spec_PagesValid.mono _ _)
   | (with_reducible exact LeO.refl _)
   | (with_reducible exact LeO.none _)
   | (with_reducible refine LeO.ite ?_ ?_)
   | (with_reducible refine LeO.bind ?_ (fun _ => ?_))
   | exact ih0 _ _ _
   | exact LeO.none _
   | refine LeO.ite ?_ ?_
   | refine LeO.bind ?_ (fun _ => ?_)
theorem spec_PagesList.mono : ∀ a0 k, LeO (spec_PagesList.f k a0) (spec_PagesList.f (k + 1) a0) := by
 intro a0 k
 have ih0 := spec_PagesList.mono_l k
 unfold spec_PagesList.f
 repeat' first
   | (with_reducible exact ih0 _ _ _)
   | (with_reducible exact spec_PagesValid.mono _ _)
   | (with_reducible exact LeO.refl _)
   | (with_reducible exact LeO.none _)
   | (with_reducible refine LeO.ite ?_ ?_)
   | (with_reducible refine LeO.bind ?_ (fun _ => ?_))
   | exact ih0 _ _ _
   | exact LeO.none _
   | refine LeO.ite ?_ ?_
   | refine LeO.bind ?_ (fun _ => ?_)
theorem spec_PagesList.calls (k : Nat) (A0 : Option Addr) (c0 : Nat) (l0 : List (S53)) (r : List (S65)) (w : World) (hr0 : Kd.C k53 w A0 l0.length l0) (hc0 : l0.length ≤ c0) (h : spec_PagesList.f k l0 = some r) :
  Calls Try.prog 41 #[.slice A0 l0.length c0] w fun e w' => ∃ v0_ : Value, e = .returned (v0_) ∧ Kd.R k65 65 w' w.heap.size (fun _ => True) v0_ r ∧ Below w.heap.size w w' := by
 have HR0 := ak hr0
 have HC0 := ak hc0
 clear hr0 hc0
 have HB := ak (Below.refl w.heap.size w)
 have H : (spec_PagesList.l0 k l0 (([] : List (S65))) 0) = some r := h
 clear h
 obtain ⟨y272, hy272⟩ : ∃ y_ : List (S65), y_ = (([] : List (S65))) := ⟨_, rfl⟩
 replace H : (spec_PagesList.l0 k l0 y272 0) = some r := by first | (rw [hy272]; exact H) | exact H
 have Ny272 := ak hy272
 clear hy272
 have H' := ak H
 clear H
 go_enter Try.func41, Try.ntmps41
 go_wp2_with (first | ((with_reducible refine gate_dst (N := 5) rfl ?_); refine Kd.R_lit k65 _ 65 ?hg (N := 5) ?hd (xs := ([] : List (S65))) (inner := []) (ok := fun _ => True) (okp := fun _ => True) ?hr ?hp (fun _ hk => hk) trivial (Below.refl _ _) (Nat.le_refl _) (by simp) ?_; (case hd => rfl); (case hg => rfl); (case hr => go_simp <;> rfl); (case hp => exact (Reps.none _ _)); intro v273 w2 ho3 hb hg_ hnew_; clear hg_ hnew_; (first | rw [← Ny272.out] at ho3 | (simp only [Int.reduceToNat] at ho3; rw [← Ny272.out] at ho3)); have HO274 := ak (Kd.R_lower ho3 (below_size (by exact hopb HB.out))); replace HB := ak (below_step (by exact hopb HB.out) hb); clear hb ho3))
 go_loopg [3, 4] k (fun kq v3 v4 w' => ∃ (x3_1 : List (S65)) (x4_1 : Int), v4 = .int .i64 x4_1 ∧ Aside0 (spec_PagesList.l0 kq l0 x3_1 x4_1 = some r) ∧ Aside0 (kq ≤ k) ∧ Aside0 (Kd.R k65 65 w' w.heap.size (fun _ => True) v3 x3_1) ∧ Aside0 (Below w.heap.size w w'))
 case atStart => exact ⟨(y272), (0), (by first | rfl | (simp [*]; done)), H', ⟨Nat.le_refl _⟩, ⟨by (with_reducible repeat (first | apply Kd.R_alloc | apply Kd.R_drewN | apply Kd.R_drew)); exact HO274.out⟩, ⟨by exact hopb HB.out⟩⟩
 case round =>
  clear H'
  try clear p2
  obtain ⟨x3_1, x4_1, rfl, HA, HK1, HO_3, HB⟩ := hrel
  cases gk with
  | zero => exact absurd HA.out (by simp [spec_PagesList.l0])
  | succ k1 =>
   have H := HA.out
   clear HA
   simp only [spec_PagesList.l0] at H
   by_cases c4 : x4_1 < (l0.length : Int)
   ·rw [if_pos c4] at H
    have c4b0 : decide (x4_1 < (l0.length : Int)) = true := decide_eq_true c4
    clear c4
    replace H := Option.bind_eq_some_iff.mp H
    obtain ⟨t275, A50, H⟩ := H
    try dsimp only at H
    have A5 := ak A50
    clear A50
    by_cases c6 : t275 = true
    ·subst c6
     rw [if_pos rfl] at H
     by_cases c7 : 0 ≤ x4_1
     ·rw [if_pos c7] at H
      have c7b0 : decide (0 ≤ x4_1) = true := decide_eq_true c7
      clear c7
      by_cases c8 : x3_1.length + ((rd_T53 l0 x4_1).f0).length < 5864062014805
      ·rw [if_pos c8] at H
       have LMc8 := ak c8
       clear c8
       obtain ⟨y277, hy277⟩ : ∃ y_ : List (S65), y_ = (x3_1 ++ ((rd_T53 l0 x4_1).f0)) := ⟨_, rfl⟩
       replace H : (spec_PagesList.l0 k1 l0 y277 (wrap64 (x4_1 + 1))) = some r := by first | (rw [hy277]; exact H) | exact H
       have Ny277 := ak hy277
       clear hy277
       have H' := ak H
       clear H
       go_wp2_with (first | (go_at_call 23; (with_reducible refine (spec_PagesValid.calls k1 _ _ l0 true _ ?side1 ?side2 A5.out).mono ?_); (case side1 => exact hC (Kd.C_below HR0.out HB.out)); (case side2 => exact HC0.out); rintro e w9 ⟨rfl, hb⟩; replace HO_3 := ak (Kd.R_below (hR HO_3.out) hb); replace HB := ak (below_step (by exact hopb HB.out) hb); (try clear hb); have p276 : 0 ≤ (x4_1 : Int) := of_decide_eq_true (by assumption); have q276 : x4_1 < (l0.length : Int) := of_decide_eq_true (by assumption); obtain ⟨ad276, A276_0, c276_0, e276, hx276_0, hl276_0, hi276_0⟩ := at_T53 HR0.out x4_1 p276 q276; cases e276; replace hx276_0 := (HB.out.cell (World.block_lt_of_cell? w _ hx276_0)).trans hx276_0; have HR276_0 := ak hi276_0; have HC276_0 := ak hl276_0; clear hi276_0 hl276_0; replace p276 := eq_true p276; replace q276 := eq_true q276) | ((with_reducible refine gate_builtin (b := .append) (xs := #[.tmp 16, .tmp 21]) rfl ?_); at_builtin; refine Kd.R_append_rows k65 (w0 := w) w.heap.size rfl (.tmp 16) (.tmp 21) 36 65 (.agg #[(.string ⟨#[]⟩), (.int .i64 0)]) 24 rfl Try.underlying36 info65 rfl (by decide) (by omega) u3 x3_1 ((rd_T53 l0 x4_1).f0) _ _ _ (fun _ => True) (fun _ => False) rfl rfl ?aO ?aR (fun _ _ h => h) (fun _ h => h.elim) ?aF ?aB ?aS ?aL ?_; (case aR => exact hC (Kd.C_below HR276_0.out HB.out)); (case aB => exact (by exact hopb HB.out)); (case aF => exact (fun _ _ => trivial)); (case aO => exact (hR HO_3.out)); (case aS => exact (below_size (by exact hopb HB.out))); (case aL => have := LMc8.out; omega); intro v278 w10 ho hb hg hat; rw [← Ny277.out] at ho; replace HB := ak (hb); have HO279 := ak (ho); clear HO_3; clear ho hb hg hat))
       go_roundg k1
       case measure => have := HK1.out; omega
       case rel => exact ⟨(y277), (wrap64 (x4_1 + 1)), (by first | rfl | (simp [*]; done)), H', ⟨by have := HK1.out; omega⟩, ⟨by (with_reducible repeat (first | apply Kd.R_alloc | apply Kd.R_drewN | apply Kd.R_drew)); exact HO279.out⟩, ⟨by exact hopb HB.out⟩⟩
      ·rw [if_neg c8] at H
       exact absurd H (by simp)
     ·rw [if_neg c7] at H
      exact absurd H (by simp)
    ·replace c6 := Bool.eq_false_iff.mpr c6
     subst c6
     rw [if_neg (show ¬ (false = true) by decide)] at H
     obtain rfl := Option.some.inj H
     go_wp2_with (first | (go_at_call 23; (with_reducible refine (spec_PagesValid.calls k1 _ _ l0 false _ ?side1 ?side2 A5.out).mono ?_); (case side1 => exact hC (Kd.C_below HR0.out HB.out)); (case side2 => exact HC0.out); rintro e w11 ⟨rfl, hb⟩; replace HO_3 := ak (Kd.R_below (hR HO_3.out) hb); replace HB := ak (below_step (by exact hopb HB.out) hb); (try clear hb)))
     go_ret
     exact ⟨_, by first | rfl | (simp [*, errW_none, errW_some] <;> rfl), by (with_reducible repeat (first | apply Kd.R_alloc | apply Kd.R_drewN | apply Kd.R_drew)); exact HO_3.out, by exact hopb HB.out⟩
   ·rw [if_neg c4] at H
    have c4b0 : decide (x4_1 < (l0.length : Int)) = false := decide_eq_false c4
    clear c4
    obtain rfl := Option.some.inj H
    go_wp2
    go_ret
    exact ⟨_, by first | rfl | (simp [*, errW_none, errW_some] <;> rfl), by (with_reducible repeat (first | apply Kd.R_alloc | apply Kd.R_drewN | apply Kd.R_drew)); exact HO_3.out, by exact hopb HB.out⟩

/-! ### spec_PairPut: function 49 -/
mutual
def spec_PairPut.j0 : Nat → List (S65) → ByteArray → Int → List (S65) → Bool → Option ((List (S65)) × Bool)
 | 0, _, _, _, _, _ => none
 | k + 1, x0, x1, x2, x8, x23 => if x23 = true then (some (x8, false)) else ((spec_l4Place.f k x0 x1).bind fun t286 => (if t286 < (x0.length : Int) then (if 0 ≤ t286 then (spec_PairPut.j1 k x0 x1 x2 x8 t286 (((rd_T65 x0 t286).f0).toList == x1.toList)) else (none)) else (spec_PairPut.j1 k x0 x1 x2 x8 t286 false)))
def spec_PairPut.j1 : Nat → List (S65) → ByteArray → Int → List (S65) → Int → Bool → Option ((List (S65)) × Bool)
 | 0, _, _, _, _, _, _ => none
 | k + 1, x0, x1, x2, x8, x9, x40 => if x40 = true then (if x8.length + x0.length < 5864062014805 then ((some (x8 ++ x0 : List (S65))).bind fun y288 => (if 0 ≤ x9 then (if x9 < (y288.length : Int) then (some ((y288.set (x9 : Int).toNat (⟨(rd_T65 y288 x9).f0, x2⟩ : S65)), true)) else (none)) else (none))) else (none)) else (if (x0.length : Int) ≥ 48 then (if x8.length + x0.length < 5864062014805 then (some ((x8 ++ x0), false)) else (none)) else (if 0 ≤ x9 then (if x9 ≤ (x0.length : Int) then ((some (x0.take (x9 : Int).toNat : List (S65))).bind fun y295 => (if x8.length + y295.length < 5864062014805 then ((some (x8 ++ y295 : List (S65))).bind fun y299 => (if y299.length < 5864062014805 then ((some (y299 ++ [(⟨x1, x2⟩ : S65)] : List (S65))).bind fun y302 => ((some (x0.drop (x9 : Int).toNat : List (S65))).bind fun y305 => (if y302.length + y305.length < 5864062014805 then (some ((y302 ++ y305), true)) else (none)))) else (none))) else (none))) else (none)) else (none)))
end
def spec_PairPut.f (k : Nat) (l0 : List (S65)) (a1 : ByteArray) (a2 : Int) : Option ((List (S65)) × Bool) := (some (([] : List (S65)) : List (S65))).bind fun y280 => ((spec_PairsValid.f k l0).bind fun t283 => (if t283 = true then ((spec_KeyValid.f k a1).bind fun t284 => (if t284 = true then ((spec_l1In.f a2 0 999).bind fun t285 => (spec_PairPut.j0 k l0 a1 a2 y280 (!t285))) else (spec_PairPut.j0 k l0 a1 a2 y280 true))) else (spec_PairPut.j0 k l0 a1 a2 y280 true)))
theorem spec_PairPut.mono_l : ∀ k, (∀ y0 y1 y2 y3 y4, LeO (spec_PairPut.j0 k y0 y1 y2 y3 y4) (spec_PairPut.j0 (k + 1) y0 y1 y2 y3 y4)) ∧ (∀ y0 y1 y2 y3 y4 y5, LeO (spec_PairPut.j1 k y0 y1 y2 y3 y4 y5) (spec_PairPut.j1 (k + 1) y0 y1 y2 y3 y4 y5))
 | 0 => ⟨fun _ _ _ _ _ r h => by simp [spec_PairPut.j0] at h, fun _ _ _ _ _ _ r h => by simp [spec_PairPut.j1] at h⟩
 | k + 1 => by
  obtain ⟨ih0, ih1⟩ := spec_PairPut.mono_l k
  refine ⟨?_, ?_⟩
  ·intro y0 y1 y2 y3 y4
   unfold spec_PairPut.j0
   repeat' first
   | (with_reducible exact ih0 _ _ _ _ _)
   | (with_reducible exact ih1 _ _ _ _ _ _)
   | (with_reducible exact spec_KeyValid.mono _ _)
   | (with_reducible exact spec_PairsValid.mono _ _)
   | (with_reducible exact spec_l4Place.mono _ _ _)
   | (with_reducible exact LeO.refl _)
   | (with_reducible exact LeO.none _)
   | (with_reducible refine LeO.ite ?_ ?_)
   | (with_reducible refine LeO.bind ?_ (fun _ => ?_))
   | exact ih0 _ _ _ _ _
   | exact ih1 _ _ _ _ _ _
   | exact LeO.none _
   | refine LeO.ite ?_ ?_
   | refine LeO.bind ?_ (fun _ => ?_)
  ·intro y0 y1 y2 y3 y4 y5
   unfold spec_PairPut.j1
   repeat' first
   | (with_reducible exact ih0 _ _ _ _ _)
   | (with_reducible exact ih1 _ _ _ _ _ _)
   | (with_reducible exact spec_KeyValid.mono _ _)
   | (with_reducible exact spec_PairsValid.mono _ _)
   | (with_reducible exact spec_l4Place.mono _ _ _)
   | (with_reducible exact LeO.refl _)
   | (with_reducible exact LeO.none _)
   | (with_reducible refine LeO.ite ?_ ?_)
   | (with_reducible refine LeO.bind ?_ (fun _ => ?_))
   | exact ih0 _ _ _ _ _
   | exact ih1 _ _ _ _ _ _
   | exact LeO.none _
   | refine LeO.ite ?_ ?_
   | refine LeO.bind ?_ (fun _ => ?_)
theorem spec_PairPut.mono : ∀ a0 a1 a2 k, LeO (spec_PairPut.f k a0 a1 a2) (spec_PairPut.f (k + 1) a0 a1 a2) := by
 intro a0 a1 a2 k
 obtain ⟨ih0, ih1⟩ := spec_PairPut.mono_l k
 unfold spec_PairPut.f
 repeat' first
   | (with_reducible exact ih0 _ _ _ _ _)
   | (with_reducible exact ih1 _ _ _ _ _ _)
   | (with_reducible exact spec_KeyValid.mono _ _)
   | (with_reducible exact spec_PairsValid.mono _ _)
   | (with_reducible exact spec_l4Place.mono _ _ _)
   | (with_reducible exact LeO.refl _)
   | (with_reducible exact LeO.none _)
   | (with_reducible refine LeO.ite ?_ ?_)
   | (with_reducible refine LeO.bind ?_ (fun _ => ?_))
   | exact ih0 _ _ _ _ _
   | exact ih1 _ _ _ _ _ _
   | exact LeO.none _
   | refine LeO.ite ?_ ?_
   | refine LeO.bind ?_ (fun _ => ?_)
theorem spec_PairPut.calls (k : Nat) (A0 : Option Addr) (c0 : Nat) (l0 : List (S65)) (a1 : ByteArray) (a2 : Int) (r1 : List (S65)) (r2 : Bool) (w : World) (hr0 : Kd.C k65 w A0 l0.length l0) (hc0 : l0.length ≤ c0) (h : spec_PairPut.f k l0 a1 a2 = some (r1, r2)) :
  Calls Try.prog 49 #[.slice A0 l0.length c0, .string a1, .int .i64 a2] w fun e w' => ∃ v0_ : Value, e = .returned (.tuple #[v0_, .bool r2]) ∧ Kd.R k65 65 w' w.heap.size (fun _ => True) v0_ r1 ∧ Below w.heap.size w w' := by
 have hu65 := Try.underlying65
 have HR0 := ak hr0
 have HC0 := ak hc0
 clear hr0 hc0
 have HB := ak (Below.refl w.heap.size w)
 have H : ((some (([] : List (S65)) : List (S65))).bind fun y280 => ((spec_PairsValid.f k l0).bind fun t283 => (if t283 = true then ((spec_KeyValid.f k a1).bind fun t284 => (if t284 = true then ((spec_l1In.f a2 0 999).bind fun t285 => (spec_PairPut.j0 k l0 a1 a2 y280 (!t285))) else (spec_PairPut.j0 k l0 a1 a2 y280 true))) else (spec_PairPut.j0 k l0 a1 a2 y280 true)))) = some (r1, r2) := h
 clear h
 obtain ⟨y280, hy280⟩ : ∃ y_ : List (S65), y_ = (([] : List (S65))) := ⟨_, rfl⟩
 replace H : ((spec_PairsValid.f k l0).bind fun t283 => (if t283 = true then ((spec_KeyValid.f k a1).bind fun t284 => (if t284 = true then ((spec_l1In.f a2 0 999).bind fun t285 => (spec_PairPut.j0 k l0 a1 a2 y280 (!t285))) else (spec_PairPut.j0 k l0 a1 a2 y280 true))) else (spec_PairPut.j0 k l0 a1 a2 y280 true))) = some (r1, r2) := by first | (rw [hy280]; exact H) | exact H
 have Ny280 := ak hy280
 clear hy280
 have HC4 := ak H
 clear H
 go_enter Try.func49, Try.ntmps49
 go_upto_region 2 with (first | ((with_reducible refine gate_dst (N := 10) rfl ?_); refine Kd.R_lit k65 _ 65 ?hg (N := 10) ?hd (xs := ([] : List (S65))) (inner := []) (ok := fun _ => True) (okp := fun _ => True) ?hr ?hp (fun _ hk => hk) trivial (Below.refl _ _) (Nat.le_refl _) (by simp) ?_; (case hd => rfl); (case hg => rfl); (case hr => go_simp <;> rfl); (case hp => exact (Reps.none _ _)); intro v281 w5 ho6 hb hg_ hnew_; clear hg_ hnew_; (first | rw [← Ny280.out] at ho6 | (simp only [Int.reduceToNat] at ho6; rw [← Ny280.out] at ho6)); have HO282 := ak (Kd.R_lower ho6 (below_size (by exact hopb HB.out))); replace HB := ak (below_step (by exact hopb HB.out) hb); clear hb ho6))
 (try simp only [Act.put, lT, lZ, lS])
 go_cut [23] (fun v23 wc => ∃ (kq : Nat) (x23_3 : Bool), v23 = .bool x23_3 ∧ Aside0 (spec_PairPut.j0 kq l0 a1 a2 y280 x23_3 = some (r1, r2)) ∧ Aside0 (kq ≤ k) ∧ Aside0 (Kd.R k65 65 wc w.heap.size (fun _ => True) v281 y280) ∧ Aside0 (Below w.heap.size w wc))
 case first =>
  have H := HC4.out
  clear HC4
  replace H := Option.bind_eq_some_iff.mp H
  obtain ⟨t283, A70, H⟩ := H
  try dsimp only at H
  have A7 := ak A70
  clear A70
  by_cases c8 : t283 = true
  ·subst c8
   rw [if_pos rfl] at H
   replace H := Option.bind_eq_some_iff.mp H
   obtain ⟨t284, A90, H⟩ := H
   try dsimp only at H
   have A9 := ak A90
   clear A90
   by_cases c10 : t284 = true
   ·subst c10
    rw [if_pos rfl] at H
    replace H := Option.bind_eq_some_iff.mp H
    obtain ⟨t285, A110, H⟩ := H
    try dsimp only at H
    have A11 := ak A110
    clear A110
    have H' := ak H
    clear H
    go_wp2_with (first | ((with_reducible refine gate_callee (f := 54) rfl ?_); refine gL (some 12) Try.func54 #[.slice A0 l0.length c0] ?_; (with_reducible refine (spec_PairsValid.calls k _ _ l0 true _ ?side1 ?side2 A7.out).mono ?_); (case side1 => exact hC (Kd.C_below HR0.out HB.out)); (case side2 => exact HC0.out); rintro e w12 ⟨rfl, hb⟩; refine ⟨_, rfl, ?_⟩; replace HO282 := ak (Kd.R_below (hR HO282.out) hb); replace HB := ak (below_step (by exact hopb HB.out) hb); (try clear hb)) | (go_at_call 24; (with_reducible refine (spec_KeyValid.calls k a1 true _ A9.out).mono ?_); rintro e w' ⟨rfl, ⟨nd, rfl⟩⟩) | (go_at_call 48; (with_reducible refine (spec_l1In.calls a2 0 999 t285 _ A11.out).mono ?_); rintro e w' ⟨rfl, ⟨nd, rfl⟩⟩))
    go_meet
    case rel => exact ⟨_, (!t285), (by first | rfl | (simp [*]; done)), H', ⟨by first | omega | exact Nat.le_refl _⟩, ⟨by (with_reducible repeat (first | apply Kd.R_alloc | apply Kd.R_drewN | apply Kd.R_drew)); exact HO282.out⟩, ⟨by exact hopb HB.out⟩⟩
   ·replace c10 := Bool.eq_false_iff.mpr c10
    subst c10
    rw [if_neg (show ¬ (false = true) by decide)] at H
    have H' := ak H
    clear H
    go_wp2_with (first | ((with_reducible refine gate_callee (f := 54) rfl ?_); refine gL (some 12) Try.func54 #[.slice A0 l0.length c0] ?_; (with_reducible refine (spec_PairsValid.calls k _ _ l0 true _ ?side1 ?side2 A7.out).mono ?_); (case side1 => exact hC (Kd.C_below HR0.out HB.out)); (case side2 => exact HC0.out); rintro e w13 ⟨rfl, hb⟩; refine ⟨_, rfl, ?_⟩; replace HO282 := ak (Kd.R_below (hR HO282.out) hb); replace HB := ak (below_step (by exact hopb HB.out) hb); (try clear hb)) | (go_at_call 24; (with_reducible refine (spec_KeyValid.calls k a1 false _ A9.out).mono ?_); rintro e w' ⟨rfl, ⟨nd, rfl⟩⟩))
    go_meet
    case rel => exact ⟨_, (true), (by first | rfl | (simp [*]; done)), H', ⟨by first | omega | exact Nat.le_refl _⟩, ⟨by (with_reducible repeat (first | apply Kd.R_alloc | apply Kd.R_drewN | apply Kd.R_drew)); exact HO282.out⟩, ⟨by exact hopb HB.out⟩⟩
  ·replace c8 := Bool.eq_false_iff.mpr c8
   subst c8
   rw [if_neg (show ¬ (false = true) by decide)] at H
   have H' := ak H
   clear H
   go_wp2_with (first | ((with_reducible refine gate_callee (f := 54) rfl ?_); refine gL (some 12) Try.func54 #[.slice A0 l0.length c0] ?_; (with_reducible refine (spec_PairsValid.calls k _ _ l0 false _ ?side1 ?side2 A7.out).mono ?_); (case side1 => exact hC (Kd.C_below HR0.out HB.out)); (case side2 => exact HC0.out); rintro e w14 ⟨rfl, hb⟩; refine ⟨_, rfl, ?_⟩; replace HO282 := ak (Kd.R_below (hR HO282.out) hb); replace HB := ak (below_step (by exact hopb HB.out) hb); (try clear hb)))
   go_meet
   case rel => exact ⟨_, (true), (by first | rfl | (simp [*]; done)), H', ⟨by first | omega | exact Nat.le_refl _⟩, ⟨by (with_reducible repeat (first | apply Kd.R_alloc | apply Kd.R_drewN | apply Kd.R_drew)); exact HO282.out⟩, ⟨by exact hopb HB.out⟩⟩
 case rest =>
  clear HC4
  try clear c1
  try clear p2
  try clear c4
  try clear c5
  try clear c8
  try clear c10
  obtain ⟨kq, x23_3, rfl, HA, HJ3, HO_8, HB⟩ := hcut
  cases kq with
  | zero => exact absurd HA.out (by simp [spec_PairPut.j0])
  | succ kj3 =>
   have H := HA.out
   clear HA
   simp only [spec_PairPut.j0] at H
   by_cases c15 : x23_3 = true
   ·subst c15
    rw [if_pos rfl] at H
    simp only [Option.some.injEq, Prod.mk.injEq] at H
    obtain ⟨rfl, rfl⟩ := H
    go_wp2
    go_ret2
    exact ⟨_, by first | rfl | (simp [*, errW_none, errW_some] <;> rfl), by (with_reducible repeat (first | apply Kd.R_alloc | apply Kd.R_drewN | apply Kd.R_drew)); exact HO_8.out, by exact hopb HB.out⟩
   ·replace c15 := Bool.eq_false_iff.mpr c15
    subst c15
    rw [if_neg (show ¬ (false = true) by decide)] at H
    replace H := Option.bind_eq_some_iff.mp H
    obtain ⟨t286, A160, H⟩ := H
    try dsimp only at H
    have A16 := ak A160
    clear A160
    have HC17 := ak H
    clear H
    go_upto_region 5 with (first | ((with_reducible refine gate_callee (f := 55) rfl ?_); refine gL (some 27) Try.func55 #[.slice A0 l0.length c0, .string a1] ?_; (with_reducible refine (spec_l4Place.calls kj3 _ _ l0 a1 t286 _ ?side1 ?side2 A16.out).mono ?_); (case side1 => exact hC (Kd.C_below HR0.out HB.out)); (case side2 => exact HC0.out); rintro e w' ⟨rfl, ⟨nd, rfl⟩⟩; refine ⟨_, rfl, ?_⟩))
    (try simp only [Act.put, lT, lZ, lS])
    go_cut [40] (fun v40 wc => ∃ (kq : Nat) (x40_16 : Bool), v40 = .bool x40_16 ∧ Aside0 (spec_PairPut.j1 kq l0 a1 a2 y280 t286 x40_16 = some (r1, r2)) ∧ Aside0 (kq ≤ kj3) ∧ Aside0 (Kd.R k65 65 wc w.heap.size (fun _ => True) v281 y280) ∧ Aside0 (Below w.heap.size w wc))
    case first =>
     have H := HC17.out
     clear HC17
     by_cases c18 : t286 < (l0.length : Int)
     ·rw [if_pos c18] at H
      have c18b0 : decide (t286 < (l0.length : Int)) = true := decide_eq_true c18
      clear c18
      (first | rw [c18b0] | (simp only [i64_w, i32_w]; rw [c18b0]) | skip)
      by_cases c19 : 0 ≤ t286
      ·rw [if_pos c19] at H
       have c19b0 : decide (0 ≤ t286) = true := decide_eq_true c19
       clear c19
       have H' := ak H
       clear H
       have p287 : 0 ≤ (t286 : Int) := of_decide_eq_true (by assumption)
       have q287 : t286 < (l0.length : Int) := of_decide_eq_true (by assumption)
       obtain ⟨ad287, e287, hx287_0, hx287_1⟩ := at_T65 HR0.out t286 p287 q287
       cases e287
       replace hx287_0 := bc HB.out hx287_0
       replace hx287_1 := bc HB.out hx287_1
       replace p287 := eq_true p287
       replace q287 := eq_true q287
       go_wp2
       go_meet
       case rel => exact ⟨_, ((((rd_T65 l0 t286).f0).toList == a1.toList)), (by first | rfl | (simp [*]; done)), H', ⟨by have := HJ3.out; first | omega | exact Nat.le_refl _⟩, ⟨by (with_reducible repeat (first | apply Kd.R_alloc | apply Kd.R_drewN | apply Kd.R_drew)); exact HO_8.out⟩, ⟨by exact hopb HB.out⟩⟩
      ·rw [if_neg c19] at H
       exact absurd H (by simp)
     ·rw [if_neg c18] at H
      have c18b0 : decide (t286 < (l0.length : Int)) = false := decide_eq_false c18
      clear c18
      (first | rw [c18b0] | (simp only [i64_w, i32_w]; rw [c18b0]) | skip)
      have H' := ak H
      clear H
      go_wp2
      go_meet
      case rel => exact ⟨_, (false), (by first | rfl | (simp [*]; done)), H', ⟨by have := HJ3.out; first | omega | exact Nat.le_refl _⟩, ⟨by (with_reducible repeat (first | apply Kd.R_alloc | apply Kd.R_drewN | apply Kd.R_drew)); exact HO_8.out⟩, ⟨by exact hopb HB.out⟩⟩
    case rest =>
     clear HC17
     try clear c1
     try clear p2
     try clear q2
     try clear hx2
     try clear c4
     try clear c5
     try clear c8
     try clear c10
     try clear c15
     try clear c18
     try clear c18b0
     try clear c19
     try clear c19b0
     try clear hx287_0
     try clear hx287_1
     try clear p2
     try clear p287
     try clear q287
     obtain ⟨kq, x40_16, rfl, HA, HJ16, HO_8, HB⟩ := hcut
     cases kq with
     | zero => exact absurd HA.out (by simp [spec_PairPut.j1])
     | succ kj16 =>
      have H := HA.out
      clear HA
      simp only [spec_PairPut.j1] at H
      by_cases c20 : x40_16 = true
      ·subst c20
       rw [if_pos rfl] at H
       by_cases c21 : y280.length + l0.length < 5864062014805
       ·rw [if_pos c21] at H
        have LMc21 := ak c21
        clear c21
        obtain ⟨y288, hy288⟩ : ∃ y_ : List (S65), y_ = (y280 ++ l0) := ⟨_, rfl⟩
        replace H : (if 0 ≤ t286 then (if t286 < (y288.length : Int) then (some ((y288.set (t286 : Int).toNat (⟨(rd_T65 y288 t286).f0, a2⟩ : S65)), true)) else (none)) else (none)) = some (r1, r2) := by first | (rw [hy288]; exact H) | exact H
        have Ny288 := ak hy288
        clear hy288
        by_cases c22 : 0 ≤ t286
        ·rw [if_pos c22] at H
         have c22b0 : decide (0 ≤ t286) = true := decide_eq_true c22
         clear c22
         by_cases c23 : t286 < (y288.length : Int)
         ·rw [if_pos c23] at H
          have c23b0 : decide (t286 < (y288.length : Int)) = true := decide_eq_true c23
          clear c23
          obtain ⟨y291, hy291⟩ : ∃ y_ : List (S65), y_ = (y288.set (t286 : Int).toNat (⟨(rd_T65 y288 t286).f0, a2⟩ : S65)) := ⟨_, rfl⟩
          replace H : (some (y291, true)) = some (r1, r2) := by first | (rw [hy291]; exact H) | exact H
          have Ny291 := ak hy291
          clear hy291
          simp only [Option.some.injEq, Prod.mk.injEq] at H
          obtain ⟨rfl, rfl⟩ := H
          go_wp2_with (first | ((with_reducible refine gate_builtin (b := .append) (xs := #[.tmp 41, .tmp 42]) rfl ?_); at_builtin; refine Kd.R_append_rows k65 (w0 := w) w.heap.size rfl (.tmp 41) (.tmp 42) 36 65 (.agg #[(.string ⟨#[]⟩), (.int .i64 0)]) 24 rfl Try.underlying36 info65 rfl (by decide) (by omega) v281 y280 l0 _ _ _ (fun _ => True) (fun _ => False) rfl rfl ?aO ?aR (fun _ _ h => h) (fun _ h => h.elim) ?aF ?aB ?aS ?aL ?_; (case aR => exact hC (Kd.C_below HR0.out HB.out)); (case aB => exact (by exact hopb HB.out)); (case aF => exact (fun _ _ => trivial)); (case aO => exact (hR HO_8.out)); (case aS => exact (below_size (by exact hopb HB.out))); (case aL => have := LMc21.out; omega); intro v289 w25 ho hb hg hat; rw [← Ny288.out] at ho; replace HB := ak (hb); have HO290 := ak (ho); clear HO_8; clear ho hb hg hat; have p24 : 0 ≤ (t286 : Int) := of_decide_eq_true (by assumption); have q24 : (t286 : Int) < ((y288.length : Int) : Int) := of_decide_eq_true (by assumption); obtain ⟨go24, co24, eo24, gb24, gl24, cl24, HG24⟩ := Kd.R_form HO290.out (by omega); (first | cases eo24 | (injection eo24 with ea_ en_ ec_; (first | subst ea_ | (injection ea_ with ea_; subst ea_)); subst ec_; clear en_)); have GB24 := ak gb24; have GG24 := ak HG24; clear gb24 gl24 HG24; obtain ⟨ce24, hcl24, hM24, hcc24, hfr24⟩ := Kd.R_elem HO290.out z65 (t286 : Int) p24 q24; obtain rfl := k65_openM hM24; have hx24_0 : w25.cell? ⟨go24, (t286 : Int).toNat * 2, none⟩ = some (.string ((rd_T65 y288 t286).f0)) := hcc24 0 _ rfl; have hx24_1 : w25.cell? ⟨go24, (t286 : Int).toNat * 2 + 1, none⟩ = some (.int .i64 ((rd_T65 y288 t286).f1)) := hcc24 1 _ rfl; have hf24_0 : w25.frozen? ⟨go24, (t286 : Int).toNat * 2, none⟩ = false := hfr24 0; have hf24_1 : w25.frozen? ⟨go24, (t286 : Int).toNat * 2 + 1, none⟩ = false := hfr24 1; clear hcl24 hcc24 hfr24 hM24; replace p24 := eq_true p24; replace q24 := eq_true q24; have HX26 := ak (show Kd.R k65 65 w25 w.heap.size (fun _ => True) (.slice (some ⟨go24, 0, none⟩) y288.length co24) y288 from (hR HO290.out)); obtain ⟨ce26, hcl26, hM26, hcc26, hfr26⟩ := Kd.R_elem HX26.out z65 (t286 : Int) (of_decide_eq_true (by assumption)) (by have h_ : (t286 : Int) < ((y288.length : Int) : Int) := of_decide_eq_true (by assumption); first | exact h_ | (have e_ := (Kd.R_reads' HO290.out).1; omega) | simpa using h_); obtain rfl := k65_openM hM26; have HP26 := Kd.R_seg HX26.out (t286 : Int) (of_decide_eq_true (by assumption)) (by have h_ : (t286 : Int) < ((y288.length : Int) : Int) := of_decide_eq_true (by assumption); first | exact h_ | (have e_ := (Kd.R_reads' HO290.out).1; omega) | simpa using h_) (seg := [.int .i64 a2]) (j := 1) hcl26 hcc26 (show 2 ≤ 2 from by decide) (x' := (⟨(rd_T65 y288 t286).f0, a2⟩ : S65)) (k65_mkM _ _ _ (⟨(rd_T65 y288 t286).f0, a2⟩ : S65) ) (fun _ hk => hk); have hx26_1 := hcc26 1 _ rfl; (try simp only [show (k65).sz = 2 from rfl, Nat.mul_one, Nat.add_zero] at hx26_1); have hf26_1 := hfr26 1; (try simp only [show (k65).sz = 2 from rfl, Nat.mul_one, Nat.add_zero] at hf26_1); clear hcl26 hcc26 hfr26 hM26) | ((with_reducible refine gate_store (t := 3) (p := 48) rfl ?_); refine store_event (t := 3) (p := 48) (v := ?vo_w27) (w1 := (w25.setCell ⟨go24, (t286 : Int).toNat * 2 + 1, none⟩ (.int .i64 a2))) ?hg ?ho ?hn ?hr ?_; (case ho => rfl); (case hg => rfl); (case hn => rfl); (case hr => go_simp <;> rfl); intro w27 hw; have hg : w25.grownBy w27 (some go24) := (by rw [hw]; exact HP26.2); have hp_ : Kd.R k65 65 w27 w.heap.size (fun _ => True) (.slice (some ⟨go24, 0, none⟩) y288.length co24) y291 := (by rw [hw, Ny291.out]; exact HP26.1); clear HP26; replace HO290 := ak (hp_); replace HB := ak ((by rw [hw]; exact below_set (HB.out) GB24.out : Below w.heap.size w w27)); clear hg hw hp_))
          go_ret2
          exact ⟨_, by first | rfl | (simp [*, errW_none, errW_some] <;> rfl), by (with_reducible repeat (first | apply Kd.R_alloc | apply Kd.R_drewN | apply Kd.R_drew)); exact HO290.out, by exact hopb HB.out⟩
         ·rw [if_neg c23] at H
          exact absurd H (by simp)
        ·rw [if_neg c22] at H
         exact absurd H (by simp)
       ·rw [if_neg c21] at H
        exact absurd H (by simp)
      ·replace c20 := Bool.eq_false_iff.mpr c20
       subst c20
       rw [if_neg (show ¬ (false = true) by decide)] at H
       by_cases c28 : (l0.length : Int) ≥ 48
       ·rw [if_pos c28] at H
        have c28b0 : decide (48 ≤ (l0.length : Int)) = true := decide_eq_true c28
        have c28b1 : decide (48 ≤ l0.length) = true := decide_eq_true (by omega)
        clear c28
        by_cases c29 : y280.length + l0.length < 5864062014805
        ·rw [if_pos c29] at H
         have LMc29 := ak c29
         clear c29
         obtain ⟨y292, hy292⟩ : ∃ y_ : List (S65), y_ = (y280 ++ l0) := ⟨_, rfl⟩
         replace H : (some (y292, false)) = some (r1, r2) := by first | (rw [hy292]; exact H) | exact H
         have Ny292 := ak hy292
         clear hy292
         simp only [Option.some.injEq, Prod.mk.injEq] at H
         obtain ⟨rfl, rfl⟩ := H
         go_wp2_with (first | ((with_reducible refine gate_builtin (b := .append) (xs := #[.tmp 53, .tmp 54]) rfl ?_); at_builtin; refine Kd.R_append_rows k65 (w0 := w) w.heap.size rfl (.tmp 53) (.tmp 54) 36 65 (.agg #[(.string ⟨#[]⟩), (.int .i64 0)]) 24 rfl Try.underlying36 info65 rfl (by decide) (by omega) v281 y280 l0 _ _ _ (fun _ => True) (fun _ => False) rfl rfl ?aO ?aR (fun _ _ h => h) (fun _ h => h.elim) ?aF ?aB ?aS ?aL ?_; (case aR => exact hC (Kd.C_below HR0.out HB.out)); (case aB => exact (by exact hopb HB.out)); (case aF => exact (fun _ _ => trivial)); (case aO => exact (hR HO_8.out)); (case aS => exact (below_size (by exact hopb HB.out))); (case aL => have := LMc29.out; omega); intro v293 w30 ho hb hg hat; rw [← Ny292.out] at ho; replace HB := ak (hb); have HO294 := ak (ho); clear HO_8; clear ho hb hg hat))
         go_ret2
         exact ⟨_, by first | rfl | (simp [*, errW_none, errW_some] <;> rfl), by (with_reducible repeat (first | apply Kd.R_alloc | apply Kd.R_drewN | apply Kd.R_drew)); exact HO294.out, by exact hopb HB.out⟩
        ·rw [if_neg c29] at H
         exact absurd H (by simp)
       ·rw [if_neg c28] at H
        have c28b0 : decide (48 ≤ (l0.length : Int)) = false := decide_eq_false c28
        have c28b1 : decide (48 ≤ l0.length) = false := decide_eq_false (by omega)
        clear c28
        by_cases c31 : 0 ≤ t286
        ·rw [if_pos c31] at H
         have c31b0 := eq_true c31
         have c31b1 : decide (0 ≤ t286) = true := decide_eq_true c31
         clear c31
         by_cases c32 : t286 ≤ (l0.length : Int)
         ·rw [if_pos c32] at H
          have c32b0 := eq_true c32
          have c32b1 : decide (t286 ≤ (l0.length : Int)) = true := decide_eq_true c32
          clear c32
          obtain ⟨y295, hy295⟩ : ∃ y_ : List (S65), y_ = (l0.take (t286 : Int).toNat) := ⟨_, rfl⟩
          replace H : (if y280.length + y295.length < 5864062014805 then ((some (y280 ++ y295 : List (S65))).bind fun y299 => (if y299.length < 5864062014805 then ((some (y299 ++ [(⟨a1, a2⟩ : S65)] : List (S65))).bind fun y302 => ((some (l0.drop (t286 : Int).toNat : List (S65))).bind fun y305 => (if y302.length + y305.length < 5864062014805 then (some ((y302 ++ y305), true)) else (none)))) else (none))) else (none)) = some (r1, r2) := by first | (rw [hy295]; exact H) | exact H
          have Ny295 := ak hy295
          clear hy295
          by_cases c33 : y280.length + y295.length < 5864062014805
          ·rw [if_pos c33] at H
           have LMc33 := ak c33
           clear c33
           obtain ⟨y299, hy299⟩ : ∃ y_ : List (S65), y_ = (y280 ++ y295) := ⟨_, rfl⟩
           replace H : (if y299.length < 5864062014805 then ((some (y299 ++ [(⟨a1, a2⟩ : S65)] : List (S65))).bind fun y302 => ((some (l0.drop (t286 : Int).toNat : List (S65))).bind fun y305 => (if y302.length + y305.length < 5864062014805 then (some ((y302 ++ y305), true)) else (none)))) else (none)) = some (r1, r2) := by first | (rw [hy299]; exact H) | exact H
           have Ny299 := ak hy299
           clear hy299
           by_cases c34 : y299.length < 5864062014805
           ·rw [if_pos c34] at H
            have LMc34 := ak c34
            clear c34
            obtain ⟨y302, hy302⟩ : ∃ y_ : List (S65), y_ = (y299 ++ [(⟨a1, a2⟩ : S65)]) := ⟨_, rfl⟩
            replace H : ((some (l0.drop (t286 : Int).toNat : List (S65))).bind fun y305 => (if y302.length + y305.length < 5864062014805 then (some ((y302 ++ y305), true)) else (none))) = some (r1, r2) := by first | (rw [hy302]; exact H) | exact H
            have Ny302 := ak hy302
            clear hy302
            have c35b0 := eq_true (of_decide_eq_true (by assumption) : 0 ≤ t286)
            have c36b0 := eq_true (of_decide_eq_true (by assumption) : t286 ≤ (l0.length : Int))
            obtain ⟨y305, hy305⟩ : ∃ y_ : List (S65), y_ = (l0.drop (t286 : Int).toNat) := ⟨_, rfl⟩
            replace H : (if y302.length + y305.length < 5864062014805 then (some ((y302 ++ y305), true)) else (none)) = some (r1, r2) := by first | (rw [hy305]; exact H) | exact H
            have Ny305 := ak hy305
            clear hy305
            by_cases c37 : y302.length + y305.length < 5864062014805
            ·rw [if_pos c37] at H
             have LMc37 := ak c37
             clear c37
             obtain ⟨y309, hy309⟩ : ∃ y_ : List (S65), y_ = (y302 ++ y305) := ⟨_, rfl⟩
             replace H : (some (y309, true)) = some (r1, r2) := by first | (rw [hy309]; exact H) | exact H
             have Ny309 := ak hy309
             clear hy309
             simp only [Option.some.injEq, Prod.mk.injEq] at H
             obtain ⟨rfl, rfl⟩ := H
             have q38 : (t286 : Int) ≤ ((l0.length : Int) : Int) := of_decide_eq_true (by assumption)
             obtain ⟨i038, hi038, _, hsz38, _⟩ := info_parts info65
             have hroom38 : l0.length ≤ c0 := HC0.out
             have hC38 : Kd.C k65 _ A0 l0.length l0 := HR0.out
             have hcut38 := cut_to (P := Try.prog) 36 65 .i64 Try.underlying36 hi038 A0 l0.length c0 t286 (of_decide_eq_true (by assumption)) q38 hroom38
             have hr38 := Kd.C_take (m := (t286 : Int).toNat) hC38 (by omega)
             have hy38 : y295.length = (t286 : Int).toNat := (by rw [Ny295.out, List.length_take]; omega)
             rw [← Ny295.out] at hr38
             rw [← hy38] at hcut38
             have HR298 := ak hr38
             have HC298 := ak (show y295.length ≤ c0 from by omega)
             clear hr38 hC38 hroom38 hi038 hsz38
             have KY38 := ak hy38
             clear hy38
             replace q38 := eq_true q38
             go_wp2_with (first | ((with_reducible refine gate_builtin (b := .append) (xs := #[.tmp 56, .tmp 59]) rfl ?_); at_builtin; refine Kd.R_append_rows k65 (w0 := w) w.heap.size rfl (.tmp 56) (.tmp 59) 36 65 (.agg #[(.string ⟨#[]⟩), (.int .i64 0)]) 24 rfl Try.underlying36 info65 rfl (by decide) (by omega) v281 y280 y295 _ _ _ (fun _ => True) (fun _ => False) rfl rfl ?aO ?aR (fun _ _ h => h) (fun _ h => h.elim) ?aF ?aB ?aS ?aL ?_; (case aR => exact hC (Kd.C_below HR298.out HB.out)); (case aB => exact (by exact hopb HB.out)); (case aF => exact (fun _ _ => trivial)); (case aO => exact (hR HO_8.out)); (case aS => exact (below_size (by exact hopb HB.out))); (case aL => have := LMc33.out; omega); intro v300 w39 ho hb hg hat; rw [← Ny299.out] at ho; replace HB := ak (hb); have HO301 := ak (ho); clear HO_8; clear ho hb hg hat) | ((with_reducible refine gate_builtin (b := .append) (xs := #[.tmp 61, .tmp 65]) rfl ?_); at_builtin; refine Kd.R_append k65 (w0 := w) w.heap.size rfl (.tmp 61) (.tmp 65) 36 65 (.agg #[(.string ⟨#[]⟩), (.int .i64 0)]) 24 rfl Try.underlying36 info65 rfl (by decide) (by omega) v300 y299 (⟨a1, a2⟩ : S65) [.string a1, .int .i64 a2] (fun _ => True) (fun _ => False) rfl rfl ?aP (fun _ hk => hk.elim) ?aF ?aO ?aB ?aS ?aL ?_; (case aP => exact k65_mkM _ _ _ (⟨a1, a2⟩ : S65)); (case aB => exact (by exact hopb HB.out)); (case aF => exact (fun _ _ => trivial)); (case aO => exact (hR HO301.out)); (case aS => exact (below_size (by exact hopb HB.out))); (case aL => have := LMc34.out; omega); intro v303 w40 ho hb hg hat; rw [← Ny302.out] at ho; replace HB := ak (hb); have HO304 := ak (ho); clear HO301; clear ho hb hg hat; have q41 : (t286 : Int) ≤ ((l0.length : Int) : Int) := of_decide_eq_true (by assumption); obtain ⟨i041, hi041, _, hsz41, _⟩ := info_parts info65; have hroom41 : l0.length ≤ c0 := HC0.out; have hC41 : Kd.C k65 _ A0 l0.length l0 := HR0.out; have q041 : (0 : Int) ≤ (t286 : Int) := of_decide_eq_true (by assumption); have hcut41 := cut_from (P := Try.prog) 36 65 .i64 Try.underlying36 hi041 2 hsz41 A0 l0.length c0 t286 q041 q41; have hr41 := Kd.C_drop (m := (t286 : Int).toNat) (c := c0) hC41 (by omega) hroom41; obtain ⟨A41, hA41⟩ : ∃ A1, A1 = (if c0 = (t286 : Int).toNat then A0 else (A0 : Option Addr).map (·.add ((t286 : Int).toNat * 2))) := ⟨_, rfl⟩; obtain ⟨c41, hc41⟩ : ∃ c1, c1 = c0 - (t286 : Int).toNat := ⟨_, rfl⟩; have hy41 : y305.length = l0.length - (t286 : Int).toNat := (by rw [Ny305.out, List.length_drop] <;> omega); rw [show (l0).drop (t286 : Int).toNat = y305 from Ny305.out.symm] at hr41; replace hr41 : Kd.C k65 _ A41 y305.length y305 := (by rw [hA41]; exact hr41); rw [← hy41, ← hA41, ← hc41] at hcut41; have HR308 := ak hr41; have HC308 := ak (show y305.length ≤ c41 from by rw [hy41, hc41]; exact Nat.sub_le_sub_right hroom41 _); clear hr41 hC41 hroom41 hi041 hsz41 hc41; have KY41 := ak hy41; have KA41 := ak hA41; clear hy41 hA41; replace q41 := eq_true q41) | ((with_reducible refine gate_builtin (b := .append) (xs := #[.tmp 67, .tmp 70]) rfl ?_); at_builtin; refine Kd.R_append_rows k65 (w0 := w) w.heap.size rfl (.tmp 67) (.tmp 70) 36 65 (.agg #[(.string ⟨#[]⟩), (.int .i64 0)]) 24 rfl Try.underlying36 info65 rfl (by decide) (by omega) v303 y302 y305 _ _ _ (fun _ => True) (fun _ => False) rfl rfl ?aO ?aR (fun _ _ h => h) (fun _ h => h.elim) ?aF ?aB ?aS ?aL ?_; (case aR => exact hC (Kd.C_below HR308.out HB.out)); (case aB => exact (by exact hopb HB.out)); (case aF => exact (fun _ _ => trivial)); (case aO => exact (hR HO304.out)); (case aS => exact (below_size (by exact hopb HB.out))); (case aL => have := LMc37.out; omega); intro v310 w42 ho hb hg hat; rw [← Ny309.out] at ho; replace HB := ak (hb); have HO311 := ak (ho); clear HO304; clear ho hb hg hat))
             go_ret2
             exact ⟨_, by first | rfl | (simp [*, errW_none, errW_some] <;> rfl), by (with_reducible repeat (first | apply Kd.R_alloc | apply Kd.R_drewN | apply Kd.R_drew)); exact HO311.out, by exact hopb HB.out⟩
            ·rw [if_neg c37] at H
             exact absurd H (by simp)
           ·rw [if_neg c34] at H
            exact absurd H (by simp)
          ·rw [if_neg c33] at H
           exact absurd H (by simp)
         ·rw [if_neg c32] at H
          exact absurd H (by simp)
        ·rw [if_neg c31] at H
         exact absurd H (by simp)

end Go.Proofs.Ytengnnhehjcfhaa.PFnPagesPut
