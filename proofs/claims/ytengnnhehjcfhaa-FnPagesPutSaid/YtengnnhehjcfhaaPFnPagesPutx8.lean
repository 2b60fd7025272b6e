-- Written for this claim by a program of this session (wip/myprint in the proofs' repo)
import Derived.Test.YtengnnhehjcfhaaPFnPagesPutx0
import Derived.Test.YtengnnhehjcfhaaPFnPagesPutx2
import Derived.Test.YtengnnhehjcfhaaPFnPagesPutx4
import Derived.Test.YtengnnhehjcfhaaPFnPagesPutx7
import Derived.Test.YtengnnhehjcfhaaWZip
-- slim4
namespace Go.Proofs.Ytengnnhehjcfhaa.PFnPagesPut
open Go.RowKit Go.Proofs.YtengnnhehjcfhaaW.PrintWords Go.Proofs.YtengnnhehjcfhaaW.PrintLast Go.Proofs.YtengnnhehjcfhaaW.PrintMore
attribute [local go_sem] max2_int min2_int max_two min_two max_three min_three max_four min_four max2_strs min2_strs   -- for this text's walks alone
set_option linter.unusedVariables false
set_option linter.unusedSimpArgs false

/-! ### spec_PagesPut: function 15 -/
def spec_PagesPut.j0 : Nat → List (S53) → ByteArray → Int → Bool → Option ((List (S53)) × Bool)
 | 0, _, _, _, _ => none
 | k + 1, x0, x1, x2, x27 => if x27 = true then (some ((([] : List (S53))), false)) else ((spec_l6Copy.f k x0).bind fun t318 => (if (x0.length : Int) = 0 then (if t318.length < 5864062014805 then (some ((t318 ++ [(⟨(([(⟨x1, x2⟩ : S65)] : List (S65)))⟩ : S53)]), true)) else (none)) else ((spec_PagesList.f k x0).bind fun t327 => ((spec_PairPut.f k t327 x1 x2).bind fun bt330 => (if bt330.2 = true then ((spec_PageFind.f k x0 x1).bind fun t334 => (if 0 ≤ t334 then (if t334 < (x0.length : Int) then ((spec_PairPut.f k ((rd_T53 x0 t334).f0) x1 x2).bind fun bt336 => (if (bt336.1.length : Int) ≤ 4 then (if t334 < (t318.length : Int) then (some ((t318.set (t334 : Int).toNat (⟨bt336.1⟩ : S53)), true)) else (none)) else ((some (([] : List (S53)) : List (S53))).bind fun y341 => (if t334 ≤ (t318.length : Int) then ((some (t318.take (t334 : Int).toNat : List (S53))).bind fun y344 => (if y341.length + y344.length < 5864062014805 then ((some (y341 ++ y344 : List (S53))).bind fun y349 => ((some (([] : List (S65)) : List (S65))).bind fun y352 => (if 2 ≤ (bt336.1.length : Int) then ((some (bt336.1.take 2 : List (S65))).bind fun y355 => (if y352.length + y355.length < 5864062014805 then ((some (([] : List (S65)) : List (S65))).bind fun y363 => ((some (bt336.1.drop 2 : List (S65))).bind fun y366 => (if y363.length + y366.length < 5864062014805 then ((some (([(⟨(y352 ++ y355)⟩ : S53), (⟨(y363 ++ y366)⟩ : S53)] : List (S53)) : List (S53))).bind fun y374 => (if y349.length + y374.length < 5864062014805 then ((some (y349 ++ y374 : List (S53))).bind fun y377 => (if 0 ≤ (wrap64 (t334 + 1)) then (if (wrap64 (t334 + 1)) ≤ (t318.length : Int) then ((some (t318.drop ((wrap64 (t334 + 1)) : Int).toNat : List (S53))).bind fun y380 => (if y377.length + y380.length < 5864062014805 then (some ((y377 ++ y380), true)) else (none))) else (none)) else (none))) else (none))) else (none)))) else (none))) else (none)))) else (none))) else (none))))) else (none)) else (none))) else (some (t318, false)))))))
def spec_PagesPut.f (k : Nat) (l0 : List (S53)) (a1 : ByteArray) (a2 : Int) : Option ((List (S53)) × Bool) := (spec_PagesValid.f k l0).bind fun t312 => (if t312 = true then ((spec_KeyValid.f k a1).bind fun t313 => (if t313 = true then ((spec_l1In.f a2 0 999).bind fun t314 => (spec_PagesPut.j0 k l0 a1 a2 (!t314))) else (spec_PagesPut.j0 k l0 a1 a2 true))) else (spec_PagesPut.j0 k l0 a1 a2 true))
theorem spec_PagesPut.mono_l : ∀ k, (∀ y0 y1 y2 y3, LeO (spec_PagesPut.j0 k y0 y1 y2 y3) (spec_PagesPut.j0 (k + 1) y0 y1 y2 y3))
 | 0 => fun _ _ _ _ r h => by simp [spec_PagesPut.j0] at h
 | k + 1 => by
  have ih0 := spec_PagesPut.mono_l k
  ·intro y0 y1 y2 y3
   unfold spec_PagesPut.j0
   repeat' first
   | (with_reducible exact ih0 _ _ _ _)
   | (with_reducible exact spec_KeyValid.mono _ _)
   | (with_reducible exact spec_PageFind.mono _ _ _)
   | (with_reducible exact spec_PagesList.mono _ _)
   | (with_reducible exact spec_PagesValid.mono _ _)
   | (with_reducible exact spec_PairPut.mono _ _ _ _)
   | (with_reducible exact spec_l6Copy.mono _ _)
   | (with_reducible exact LeO.refl _)
   | (with_reducible exact LeO.none _)
   | (with_reducible refine LeO.ite ?_ ?_)
   | (with_reducible refine LeO.bind ?_ (fun _ => ?_))
   | exact ih0 _ _ _ _
   | exact LeO.none _
   | refine LeO.ite ?_ ?_
   | refine LeO.bind ?_ (fun _ => ?_)
theorem spec_PagesPut.mono : ∀ a0 a1 a2 k, LeO (spec_PagesPut.f k a0 a1 a2) (spec_PagesPut.f (k + 1) a0 a1 a2) := by
 intro a0 a1 a2 k
 have ih0 := spec_PagesPut.mono_l k
 unfold spec_PagesPut.f
 repeat' first
   | (with_reducible exact ih0 _ _ _ _)
   | (with_reducible exact spec_KeyValid.mono _ _)
   | (with_reducible exact spec_PageFind.mono _ _ _)
   | (with_reducible exact spec_PagesList.mono _ _)
   | (with_reducible exact spec_PagesValid.mono _ _)
   | (with_reducible exact spec_PairPut.mono _ _ _ _)
   | (with_reducible exact spec_l6Copy.mono _ _)
   | (with_reducible exact LeO.refl _)
   | (with_reducible exact LeO.none _)
   | (with_reducible refine LeO.ite ?_ ?_)
   | (with_reducible refine LeO.bind ?_ (fun _ => ?_))
   | exact ih0 _ _ _ _
   | exact LeO.none _
   | refine LeO.ite ?_ ?_
   | refine LeO.bind ?_ (fun _ => ?_)
def spec_PagesPut.T15 : Bool × List (List Nat × List Nat) := (true, [([], []), ([], []), ([], []), ([2], [2]), ([1, 3], [1, 3]), ([4], [4]), ([], []), ([], []), ([7], [7]), ([6, 8, 4], [6, 8]), ([9], [9]), ([5, 10], [5, 10]), ([0, 11, 9], [0, 11]), ([12, 12, 0, 1, 2, 3, 4, 5, 6, 7, 8, 9, 10, 11, 12], [0, 12])])
def spec_PagesPut.B15 : List Nat := [0, 0, 0, 4, 14, 30, 0, 0, 128, 478, 990, 2046, 4095, 8191]
theorem spec_PagesPut.tab15 : rtab .any (opsOf Try.f15 15) = spec_PagesPut.T15 := by kernel_rfl
theorem spec_PagesPut.bits15 : waitsOk spec_PagesPut.T15.2 spec_PagesPut.B15 = true := by kernel_rfl
set_option maxHeartbeats 8000000 in
set_option maxRecDepth 100000 in
theorem spec_PagesPut.calls (k : Nat) (A0 : Option Addr) (c0 : Nat) (l0 : List (S53)) (a1 : ByteArray) (a2 : Int) (r1 : List (S53)) (r2 : Bool) (w : World) (hr0 : Kd.C k53 w A0 l0.length l0) (hc0 : l0.length ≤ c0) (h : spec_PagesPut.f k l0 a1 a2 = some (r1, r2)) :
  Calls Try.prog 15 #[.slice A0 l0.length c0, .string a1, .int .i64 a2] w fun e w' => ∃ v0_ : Value, e = .returned (.tuple #[v0_, .bool r2]) ∧ Kd.N k53 53 w' w.heap.size (fun k_ => (w.heap.size ≤ k_)) v0_ r1 ∧ Below w.heap.size w w' := by
 have hu65 := Try.underlying65
 have hu53 := Try.underlying53
 have HR0 := ak hr0
 have HC0 := ak hc0
 clear hr0 hc0
 have HB := ak (Below.refl w.heap.size w)
 have H : ((spec_PagesValid.f k l0).bind fun t312 => (if t312 = true then ((spec_KeyValid.f k a1).bind fun t313 => (if t313 = true then ((spec_l1In.f a2 0 999).bind fun t314 => (spec_PagesPut.j0 k l0 a1 a2 (!t314))) else (spec_PagesPut.j0 k l0 a1 a2 true))) else (spec_PagesPut.j0 k l0 a1 a2 true))) = some (r1, r2) := h
 clear h
 have HC4 := ak H
 clear H
 go_enter Try.func15, Try.ntmps15
 go_upto_region 1 with (fail)
 go_cut [27] (fun v27 wc => ∃ (kq : Nat) (x27_3 : Bool), v27 = .bool x27_3 ∧ Aside0 (spec_PagesPut.j0 kq l0 a1 a2 x27_3 = some (r1, r2)) ∧ Aside0 (kq ≤ k) ∧ Aside0 (Below w.heap.size w wc))
 case first =>
  have H := HC4.out
  clear HC4
  replace H := Option.bind_eq_some_iff.mp H
  obtain ⟨t312, A50, H⟩ := H
  try dsimp only at H
  have A5 := ak A50
  clear A50
  by_cases c6 : t312 = true
  ·subst c6
   rw [if_pos rfl] at H
   replace H := Option.bind_eq_some_iff.mp H
   obtain ⟨t313, A70, H⟩ := H
   try dsimp only at H
   have A7 := ak A70
   clear A70
   by_cases c8 : t313 = true
   ·subst c8
    rw [if_pos rfl] at H
    replace H := Option.bind_eq_some_iff.mp H
    obtain ⟨t314, A90, H⟩ := H
    try dsimp only at H
    have A9 := ak A90
    clear A90
    have H' := ak H
    clear H
    go_wp2_with (first | ((with_reducible refine gate_callee (f := 23) rfl ?_); refine gL (some 16) Try.func23 #[.slice A0 l0.length c0] ?_; (with_reducible refine (spec_PagesValid.calls k _ _ l0 true _ ?side1 ?side2 A5.out).mono ?_); (case side1 => exact hC (Kd.C_below HR0.out HB.out)); (case side2 => exact HC0.out); rintro e w10 ⟨rfl, hb⟩; refine ⟨_, rfl, ?_⟩; replace HB := ak (below_step (by exact hopb HB.out) hb); (try clear hb)) | (go_at_call 24; (with_reducible refine (spec_KeyValid.calls k a1 true _ A7.out).mono ?_); rintro e w' ⟨rfl, ⟨nd, rfl⟩⟩) | (go_at_call 48; (with_reducible refine (spec_l1In.calls a2 0 999 t314 _ A9.out).mono ?_); rintro e w' ⟨rfl, ⟨nd, rfl⟩⟩))
    go_meet
    case rel => exact ⟨_, (!t314), (by first | rfl | (simp [*]; done)), H', ⟨by first | omega | exact Nat.le_refl _⟩, ⟨by exact hopb HB.out⟩⟩
   ·replace c8 := Bool.eq_false_iff.mpr c8
    subst c8
    rw [if_neg (show ¬ (false = true) by decide)] at H
    have H' := ak H
    clear H
    go_wp2_with (first | ((with_reducible refine gate_callee (f := 23) rfl ?_); refine gL (some 16) Try.func23 #[.slice A0 l0.length c0] ?_; (with_reducible refine (spec_PagesValid.calls k _ _ l0 true _ ?side1 ?side2 A5.out).mono ?_); (case side1 => exact hC (Kd.C_below HR0.out HB.out)); (case side2 => exact HC0.out); rintro e w11 ⟨rfl, hb⟩; refine ⟨_, rfl, ?_⟩; replace HB := ak (below_step (by exact hopb HB.out) hb); (try clear hb)) | (go_at_call 24; (with_reducible refine (spec_KeyValid.calls k a1 false _ A7.out).mono ?_); rintro e w' ⟨rfl, ⟨nd, rfl⟩⟩))
    go_meet
    case rel => exact ⟨_, (true), (by first | rfl | (simp [*]; done)), H', ⟨by first | omega | exact Nat.le_refl _⟩, ⟨by exact hopb HB.out⟩⟩
  ·replace c6 := Bool.eq_false_iff.mpr c6
   subst c6
   rw [if_neg (show ¬ (false = true) by decide)] at H
   have H' := ak H
   clear H
   go_wp2_with (first | ((with_reducible refine gate_callee (f := 23) rfl ?_); refine gL (some 16) Try.func23 #[.slice A0 l0.length c0] ?_; (with_reducible refine (spec_PagesValid.calls k _ _ l0 false _ ?side1 ?side2 A5.out).mono ?_); (case side1 => exact hC (Kd.C_below HR0.out HB.out)); (case side2 => exact HC0.out); rintro e w12 ⟨rfl, hb⟩; refine ⟨_, rfl, ?_⟩; replace HB := ak (below_step (by exact hopb HB.out) hb); (try clear hb)))
   go_meet
   case rel => exact ⟨_, (true), (by first | rfl | (simp [*]; done)), H', ⟨by first | omega | exact Nat.le_refl _⟩, ⟨by exact hopb HB.out⟩⟩
 case rest =>
  clear HC4
  try clear c1
  try clear c2
  try clear p2
  try clear c6
  try clear c8
  obtain ⟨kq, x27_3, rfl, HA, HJ3, HB⟩ := hcut
  cases kq with
  | zero => exact absurd HA.out (by simp [spec_PagesPut.j0])
  | succ kj3 =>
   have H := HA.out
   clear HA
   simp only [spec_PagesPut.j0] at H
   by_cases c13 : x27_3 = true
   ·subst c13
    rw [if_pos rfl] at H
    obtain ⟨y315, hy315⟩ : ∃ y_ : List (S53), y_ = (([] : List (S53))) := ⟨_, rfl⟩
    replace H : (some (y315, false)) = some (r1, r2) := by first | (rw [hy315]; exact H) | exact H
    have Ny315 := ak hy315
    clear hy315
    simp only [Option.some.injEq, Prod.mk.injEq] at H
    obtain ⟨rfl, rfl⟩ := H
    go_wp2_with (first | ((with_reducible refine gate_dst (N := 28) rfl ?_); refine Kd.N_lit k53 _ 53 ?hg (N' := 28) ?hd (xs := ([] : List (S53))) (inner := []) (ok := (fun k_ => (w.heap.size ≤ k_))) (okp := (fun k_ => (w.heap.size ≤ k_))) ?hr ?hp (fun _ hk => hk) ((show ∀ k_, wc.heap.size ≤ k_ → (fun k_ => (w.heap.size ≤ k_)) k_ from fun k_ hk => (Nat.le_trans (below_size (by exact hopb HB.out)) hk)) _ (Nat.le_refl _)) (Below.refl _ _) (Nat.le_refl _) (by simp) ?_; (case hd => rfl); (case hg => rfl); (case hr => go_simp <;> rfl); (case hp => exact (Reps.none _ _)); intro v316 w14 ho15 hb hg_ hnew_; clear hg_ hnew_; (first | rw [← Ny315.out] at ho15 | (simp only [Int.reduceToNat] at ho15; rw [← Ny315.out] at ho15)); have HO317 := ak (Kd.N_lower ho15 (below_size (by exact hopb HB.out))); replace HB := ak (below_step (by exact hopb HB.out) hb); clear hb ho15))
    go_ret2
    exact ⟨_, by first | rfl | (simp [*, errW_none, errW_some] <;> rfl), by (with_reducible repeat (first | apply Kd.N_alloc | apply Kd.N_drewN | apply Kd.N_drew)); exact HO317.out, by exact hopb HB.out⟩
   ·replace c13 := Bool.eq_false_iff.mpr c13
    subst c13
    rw [if_neg (show ¬ (false = true) by decide)] at H
    replace H := Option.bind_eq_some_iff.mp H
    obtain ⟨t318, A160, H⟩ := H
    try dsimp only at H
    have A16 := ak A160
    clear A160
    by_cases c17 : (l0.length : Int) = 0
    ·rw [if_pos c17] at H
     have c17b0 : ((l0.length : Int) == 0) = true := beq_iff_eq.mpr c17
     have c17b1 : ((l0.length : Int) != 0) = false := bne_eq_false_iff_eq.mpr c17
     clear c17
     obtain ⟨y321, hy321⟩ : ∃ y_ : List (S65), y_ = (([(⟨a1, a2⟩ : S65)] : List (S65))) := ⟨_, rfl⟩
     replace H : (if t318.length < 5864062014805 then (some ((t318 ++ [(⟨y321⟩ : S53)]), true)) else (none)) = some (r1, r2) := by first | (rw [hy321]; exact H) | exact H
     have Ny321 := ak hy321
     clear hy321
     by_cases c18 : t318.length < 5864062014805
     ·rw [if_pos c18] at H
      have LMc18 := ak c18
      clear c18
      obtain ⟨y324, hy324⟩ : ∃ y_ : List (S53), y_ = (t318 ++ [(⟨y321⟩ : S53)]) := ⟨_, rfl⟩
      replace H : (some (y324, true)) = some (r1, r2) := by first | (rw [hy324]; exact H) | exact H
      have Ny324 := ak hy324
      clear hy324
      simp only [Option.some.injEq, Prod.mk.injEq] at H
      obtain ⟨rfl, rfl⟩ := H
      go_wp2_with (first | ((with_reducible refine gate_callee (f := 25) rfl ?_); refine gL (some 30) Try.func25 #[.slice A0 l0.length c0] ?_; (with_reducible refine (spec_l6Copy.calls kj3 _ _ l0 t318 _ ?side1 ?side2 A16.out).mono ?_); (case side1 => exact hC (Kd.C_below HR0.out HB.out)); (case side2 => exact HC0.out); rintro e w19 ⟨v319, rfl, ho0, hb⟩; refine ⟨_, rfl, ?_⟩; have HO320 := ak (Kd.N_lower (Kd.N_mono (ok' := fun k_ => (w.heap.size ≤ k_)) (Kd.S_N (Kd.S_bound ho0)) (fun k_ hk_ => (Nat.le_trans (below_size (by exact hopb HB.out)) hk_.2.1))) (below_size (by exact hopb HB.out))); replace HB := ak (below_step (by exact hopb HB.out) hb); (try clear hb); (try clear ho0)) | ((with_reducible refine gate_dst (N := 38) rfl ?_); refine Kd.R_lit k65 _ 65 ?hg (N := 38) ?hd (xs := ([(⟨a1, a2⟩ : S65)] : List (S65))) (inner := [.string a1, .int .i64 a2]) (ok := fun _ => True) (okp := fun _ => True) ?hr ?hp (fun _ hk => hk) trivial (Below.refl _ _) (Nat.le_refl _) (by simp) ?_; (case hd => rfl); (case hg => rfl); (case hr => go_simp <;> rfl); (case hp => exact (Reps.c2 (show Kd.M k65 _ _ _ (⟨a1, a2⟩ : S65) [.string a1, .int .i64 a2] from (k65_mkM _ _ _ (⟨a1, a2⟩ : S65) )) (Reps.none _ _))); intro v322 w20 ho21 hb hg_ hnew_; clear hg_ hnew_; (first | rw [← Ny321.out] at ho21 | (simp only [Int.reduceToNat] at ho21; rw [← Ny321.out] at ho21)); replace HO320 := ak (Kd.N_elder' (hN HO320.out) (Kd.R_base ho21) hb); have HO323 := ak (Kd.R_lower (Kd.R_newM (M := fun k_ => (w.heap.size ≤ k_)) ho21 (below_size (by exact hopb HB.out)) (fun k_ h_ => h_)) (below_size (by exact hopb HB.out))); replace HB := ak (below_step (by exact hopb HB.out) hb); clear hb ho21; obtain ⟨Ao22, co22, eo22⟩ := Kd.R_slice HO323.out; subst eo22) | ((with_reducible refine gate_builtin (b := .append) (xs := #[.tmp 34, .tmp 40]) rfl ?_); at_builtin; refine Kd.N_append k53 (w0 := w) w.heap.size rfl (.tmp 34) (.tmp 40) 24 53 (.agg #[(.slice none 0 0)]) 24 rfl Try.underlying24 info53 rfl (by decide) (by omega) v319 t318 (⟨y321⟩ : S53) [.slice Ao22 y321.length co22] (fun k_ => (w.heap.size ≤ k_)) (fun k_ => ((fun k_ => (w.heap.size ≤ k_))) k_ ∧ some k_ ≠ (v319 : Value).ownBlock) rfl rfl ?aP (fun _ hk => hk) ?aF ?aO ?aB ?aS ?aL ?_; (case aP => exact (k53_mkF _ _ (⟨y321⟩ : S53) (Kd.R_reads' (Kd.R_mono (ok' := (fun k_ => ((fun k_ => (w.heap.size ≤ k_))) k_ ∧ some k_ ≠ (v319 : Value).ownBlock)) (Kd.R_apart' (HO323.out) (Kd.N_typed HO320.out) (by decide)) (fun k_ hk => ⟨hk.1.1, hk.2⟩))).2.1 (Kd.R_F (Kd.R_mono (ok' := (fun k_ => ((fun k_ => (w.heap.size ≤ k_))) k_ ∧ some k_ ≠ (v319 : Value).ownBlock)) (Kd.R_apart' (HO323.out) (Kd.N_typed HO320.out) (by decide)) (fun k_ hk => ⟨hk.1.1, hk.2⟩))))); (case aB => exact (by exact hopb HB.out)); (case aF => exact (fun k_ hk => (Nat.le_trans (below_size (by exact hopb HB.out)) hk))); (case aO => exact (by (with_reducible repeat (first | apply Kd.N_alloc | apply Kd.N_drewN | apply Kd.N_drew)); exact Kd.N_mono HO320.out (fun _ hk => hk.1))); (case aS => exact (below_size (by exact hopb HB.out))); (case aL => have := LMc18.out; omega); intro v325 w23 ho hb hg hat; rw [← Ny324.out] at ho; replace HB := ak (hb); have HO326 := ak (ho); clear HO320 HO323; clear ho hb hg hat))
      go_ret2
      exact ⟨_, by first | rfl | (simp [*, errW_none, errW_some] <;> rfl), by (with_reducible repeat (first | apply Kd.N_alloc | apply Kd.N_drewN | apply Kd.N_drew)); exact HO326.out, by exact hopb HB.out⟩
     ·rw [if_neg c18] at H
      exact absurd H (by simp)
    ·rw [if_neg c17] at H
     have c17b0 : ((l0.length : Int) == 0) = false := beq_eq_false_iff_ne.mpr c17
     have c17b1 : ((l0.length : Int) != 0) = true := bne_iff_ne.mpr c17
     have c17b2 : ¬ (l0 = []) := fun h_ => c17 (by rw [h_]; rfl)
     replace H := Option.bind_eq_some_iff.mp H
     obtain ⟨t327, A240, H⟩ := H
     try dsimp only at H
     have A24 := ak A240
     clear A240
     replace H := Option.bind_eq_some_iff.mp H
     obtain ⟨⟨t330, t331⟩, A250, H⟩ := H
     try dsimp only at H
     have A25 := ak A250
     clear A250
     by_cases c26 : t331 = true
     ·subst c26
      rw [if_pos rfl] at H
      replace H := Option.bind_eq_some_iff.mp H
      obtain ⟨t334, A270, H⟩ := H
      try dsimp only at H
      have A27 := ak A270
      clear A270
      by_cases c28 : 0 ≤ t334
      ·rw [if_pos c28] at H
       have c28b0 : decide (0 ≤ t334) = true := decide_eq_true c28
       clear c28
       by_cases c29 : t334 < (l0.length : Int)
       ·rw [if_pos c29] at H
        have c29b0 : decide (t334 < (l0.length : Int)) = true := decide_eq_true c29
        clear c29
        replace H := Option.bind_eq_some_iff.mp H
        obtain ⟨⟨t336, t337⟩, A300, H⟩ := H
        try dsimp only at H
        have A30 := ak A300
        clear A300
        by_cases c31 : (t336.length : Int) ≤ 4
        ·rw [if_pos c31] at H
         have c31b0 : decide ((t336.length : Int) ≤ 4) = true := decide_eq_true c31
         have c31b1 : decide (t336.length ≤ 4) = true := decide_eq_true (by omega)
         clear c31
         by_cases c32 : t334 < (t318.length : Int)
         ·rw [if_pos c32] at H
          have c32b0 : decide (t334 < (t318.length : Int)) = true := decide_eq_true c32
          clear c32
          obtain ⟨y340, hy340⟩ : ∃ y_ : List (S53), y_ = (t318.set (t334 : Int).toNat (⟨t336⟩ : S53)) := ⟨_, rfl⟩
          replace H : (some (y340, true)) = some (r1, r2) := by first | (rw [hy340]; exact H) | exact H
          have Ny340 := ak hy340
          clear hy340
          simp only [Option.some.injEq, Prod.mk.injEq] at H
          obtain ⟨rfl, rfl⟩ := H
          go_wp2_with (first | ((with_reducible refine gate_callee (f := 25) rfl ?_); refine gL (some 30) Try.func25 #[.slice A0 l0.length c0] ?_; (with_reducible refine (spec_l6Copy.calls kj3 _ _ l0 t318 _ ?side1 ?side2 A16.out).mono ?_); (case side1 => exact hC (Kd.C_below HR0.out HB.out)); (case side2 => exact HC0.out); rintro e w34 ⟨v319, rfl, ho0, hb⟩; refine ⟨_, rfl, ?_⟩; have HO320 := ak (Kd.N_lower (Kd.N_mono (ok' := fun k_ => (w.heap.size ≤ k_)) (Kd.S_N (Kd.S_bound ho0)) (fun k_ hk_ => (Nat.le_trans (below_size (by exact hopb HB.out)) hk_.2.1))) (below_size (by exact hopb HB.out))); replace HB := ak (below_step (by exact hopb HB.out) hb); (try clear hb); (try clear ho0)) | ((with_reducible refine gate_callee (f := 41) rfl ?_); refine gL (some 44) Try.func41 #[.slice A0 l0.length c0] ?_; (with_reducible refine (spec_PagesList.calls kj3 _ _ l0 t327 _ ?side1 ?side2 A24.out).mono ?_); (case side1 => exact hC (Kd.C_below HR0.out HB.out)); (case side2 => exact HC0.out); rintro e w35 ⟨v328, rfl, ho0, hb⟩; refine ⟨_, rfl, ?_⟩; replace HO320 := ak (Kd.N_elder' (hN HO320.out) (Kd.R_base ho0) hb); have HO329 := ak (Kd.R_lower (Kd.R_newM (M := fun k_ => (w.heap.size ≤ k_)) ho0 (below_size (by exact hopb HB.out)) (fun k_ h_ => h_)) (below_size (by exact hopb HB.out))); replace HB := ak (below_step (by exact hopb HB.out) hb); (try clear hb); (try clear ho0); obtain ⟨Ao36, co36, eo36⟩ := Kd.R_slice HO329.out; subst eo36) | ((with_reducible refine gate_callee (f := 49) rfl ?_); refine gL (some 47) Try.func49 #[.slice Ao36 t327.length co36, .string a1, .int .i64 a2] ?_; (with_reducible refine (spec_PairPut.calls kj3 _ _ t327 a1 a2 t330 true _ ?side1 ?side2 A25.out).mono ?_); (case side1 => exact hC (Kd.R_reads' HO329.out).2.2); (case side2 => exact (Kd.R_reads' HO329.out).2.1); rintro e w37 ⟨v332, rfl, ho0, hb⟩; refine ⟨_, rfl, ?_⟩; replace HO320 := ak (Kd.N_elder' (hN HO320.out) (Kd.R_base ho0) hb); have HO333 := ak (Kd.R_lower (Kd.R_new' (Kd.R_newM (M := fun k_ => (w.heap.size ≤ k_)) ho0 (below_size (by exact hopb HB.out)) (fun k_ h_ => h_)) (Kd.R_lt (hR HO329.out))) (below_size (by exact hopb HB.out))); replace HO329 := ak (Kd.R_elder' (hR HO329.out) (Kd.R_base ho0) hb); replace HB := ak (below_step (by exact hopb HB.out) hb); (try clear hb); (try clear ho0)) | ((with_reducible refine gate_callee (f := 26) rfl ?_); refine gL (some 55) Try.func26 #[.slice A0 l0.length c0, .string a1] ?_; (with_reducible refine (spec_PageFind.calls kj3 _ _ l0 a1 t334 _ ?side1 ?side2 A27.out).mono ?_); (case side1 => exact hC (Kd.C_below HR0.out HB.out)); (case side2 => exact HC0.out); rintro e w38 ⟨rfl, hb⟩; refine ⟨_, rfl, ?_⟩; replace HO320 := ak (Kd.N_below (hN HO320.out) hb); replace HO329 := ak (Kd.R_below (hR HO329.out) hb); replace HO333 := ak (Kd.R_below (hR HO333.out) hb); replace HB := ak (below_step (by exact hopb HB.out) hb); (try clear hb); have p335 : 0 ≤ (t334 : Int) := of_decide_eq_true (by assumption); have q335 : t334 < (l0.length : Int) := of_decide_eq_true (by assumption); obtain ⟨ad335, A335_0, c335_0, e335, hx335_0, hl335_0, hi335_0⟩ := at_T53 HR0.out t334 p335 q335; cases e335; replace hx335_0 := (HB.out.cell (World.block_lt_of_cell? w _ hx335_0)).trans hx335_0; have HR335_0 := ak hi335_0; have HC335_0 := ak hl335_0; clear hi335_0 hl335_0; replace p335 := eq_true p335; replace q335 := eq_true q335) | ((with_reducible refine gate_callee (f := 49) rfl ?_); refine gL (some 64) Try.func49 #[.slice A335_0 ((rd_T53 l0 t334).f0).length c335_0, .string a1, .int .i64 a2] ?_; (with_reducible refine (spec_PairPut.calls kj3 _ _ ((rd_T53 l0 t334).f0) a1 a2 t336 t337 _ ?side1 ?side2 A30.out).mono ?_); (case side1 => exact hC (Kd.C_below HR335_0.out HB.out)); (case side2 => exact HC335_0.out); rintro e w39 ⟨v338, rfl, ho0, hb⟩; refine ⟨_, rfl, ?_⟩; replace HO320 := ak (Kd.N_elder' (hN HO320.out) (Kd.R_base ho0) hb); have HO339 := ak (Kd.R_lower (Kd.R_new' (Kd.R_new' (Kd.R_newM (M := fun k_ => (w.heap.size ≤ k_)) ho0 (below_size (by exact hopb HB.out)) (fun k_ h_ => h_)) (Kd.R_lt (hR HO329.out))) (Kd.R_lt (hR HO333.out))) (below_size (by exact hopb HB.out))); replace HO329 := ak (Kd.R_elder' (hR HO329.out) (Kd.R_base ho0) hb); replace HO333 := ak (Kd.R_elder' (hR HO333.out) (Kd.R_base ho0) hb); replace HB := ak (below_step (by exact hopb HB.out) hb); (try clear hb); (try clear ho0); obtain ⟨Ao40, co40, eo40⟩ := Kd.R_slice HO339.out; subst eo40; have p33 : 0 ≤ (t334 : Int) := of_decide_eq_true (by assumption); have q33 : (t334 : Int) < ((t318.length : Int) : Int) := of_decide_eq_true (by assumption); obtain ⟨go33, co33, eo33, gb33, gl33, cl33, HG33⟩ := Kd.N_form HO320.out (by omega); (first | cases eo33 | (injection eo33 with ea_ en_ ec_; (first | subst ea_ | (injection ea_ with ea_; subst ea_)); subst ec_; clear en_)); have GB33 := ak gb33; have GG33 := ak HG33; clear gb33 gl33 HG33; obtain ⟨ce33, hcl33, hM33, hcc33, hfr33⟩ := Kd.N_elem HO320.out z53 (t334 : Int) p33 q33; obtain ⟨ua33_0, uc33_0, rfl, ul33_0, ge33_0⟩ := k53_openF hM33; have hx33_0 := hcc33 0 _ rfl; have hf33_0 := hfr33 0; (try simp only [show (k53).sz = 1 from rfl, Nat.mul_one, Nat.add_zero] at hx33_0); (try simp only [show (k53).sz = 1 from rfl, Nat.mul_one, Nat.add_zero] at hf33_0); clear hcl33 hcc33 hfr33 hM33; replace p33 := eq_true p33; replace q33 := eq_true q33; have n_ := ak (Kd.N_mono (ok' := (fun k_ => (w.heap.size ≤ k_) ∧ some k_ ≠ (.slice Ao36 t327.length co36 : Value).ownBlock ∧ some k_ ≠ (v332 : Value).ownBlock ∧ some k_ ≠ (.slice Ao40 t336.length co40 : Value).ownBlock)) HO320.out (fun k_ hk => ⟨hk.1.1.1, ⟨hk.1.1.2, ⟨hk.1.2, hk.2⟩⟩⟩)); clear HO320; have HO320 := n_; clear n_; have HX41 := ak (show Kd.N k53 53 w39 w.heap.size (fun k_ => (w.heap.size ≤ k_) ∧ some k_ ≠ (.slice Ao36 t327.length co36 : Value).ownBlock ∧ some k_ ≠ (v332 : Value).ownBlock) (.slice (some ⟨go33, 0, none⟩) t318.length co33) t318 from (by (with_reducible repeat (first | apply Kd.N_alloc | apply Kd.N_drewN | apply Kd.N_drew)); exact Kd.N_mono HO320.out (fun _ hk => ⟨hk.1, ⟨hk.2.1, hk.2.2.1⟩⟩))); obtain ⟨ce41, hcl41, hM41, hcc41, hfr41⟩ := Kd.N_elem HX41.out z53 (t334 : Int) (of_decide_eq_true (by assumption)) (by have h_ : (t334 : Int) < ((t318.length : Int) : Int) := of_decide_eq_true (by assumption); first | exact h_ | (have e_ := (Kd.N_reads' HO320.out).1; omega) | simpa using h_); obtain ⟨ua41_0, uc41_0, rfl, ul41_0, ge41_0⟩ := k53_openF hM41; have HP41 := Kd.N_seg HX41.out (t334 : Int) (of_decide_eq_true (by assumption)) (by have h_ : (t334 : Int) < ((t318.length : Int) : Int) := of_decide_eq_true (by assumption); first | exact h_ | (have e_ := (Kd.N_reads' HO320.out).1; omega) | simpa using h_) (seg := [.slice Ao40 t336.length co40]) (j := 0) hcl41 hcc41 (show 1 ≤ 1 from by decide) (x' := (⟨t336⟩ : S53)) (k53_mkF _ _ (⟨t336⟩ : S53) (Kd.R_reads' (Kd.R_mono (ok' := (fun k_ => ((fun k_ => (w.heap.size ≤ k_) ∧ some k_ ≠ (.slice Ao36 t327.length co36 : Value).ownBlock ∧ some k_ ≠ (v332 : Value).ownBlock)) k_ ∧ k_ ≠ go33)) (Kd.R_apart' (HO339.out) (Kd.N_typed HO320.out) (by decide)) (fun k_ hk => ⟨⟨hk.1.1.1.1, ⟨hk.1.1.2, hk.1.2⟩⟩, fun e_ => (hk.2) (by rw [e_]; rfl)⟩))).2.1 (Kd.R_F (Kd.R_mono (ok' := (fun k_ => ((fun k_ => (w.heap.size ≤ k_) ∧ some k_ ≠ (.slice Ao36 t327.length co36 : Value).ownBlock ∧ some k_ ≠ (v332 : Value).ownBlock)) k_ ∧ k_ ≠ go33)) (Kd.R_apart' (HO339.out) (Kd.N_typed HO320.out) (by decide)) (fun k_ hk => ⟨⟨hk.1.1.1.1, ⟨hk.1.1.2, hk.1.2⟩⟩, fun e_ => (hk.2) (by rw [e_]; rfl)⟩)))) (fun _ hk => hk); have hx41_0 := hcc41 0 _ rfl; (try simp only [show (k53).sz = 1 from rfl, Nat.mul_one, Nat.add_zero] at hx41_0); have hf41_0 := hfr41 0; (try simp only [show (k53).sz = 1 from rfl, Nat.mul_one, Nat.add_zero] at hf41_0); clear hcl41 hcc41 hfr41 hM41; (try simp only [show (k53).sz = 1 from rfl, Nat.mul_one, Nat.add_zero] at HP41); (try simp only [show (k53).sz = 1 from rfl, Nat.mul_one, Nat.add_zero] at HP41)) | ((with_reducible refine gate_store (t := 36) (p := 74) rfl ?_); refine store_event (t := 36) (p := 74) (v := ?vo_w42) (w1 := (w39.setCell ⟨go33, (t334 : Int).toNat, none⟩ (.slice Ao40 t336.length co40))) ?hg ?ho ?hn ?hr ?_; (case ho => rfl); (case hg => rfl); (case hn => rfl); (case hr => go_simp <;> rfl); intro w42 hw; have hg : w39.grownBy w42 (some go33) := (by rw [hw]; exact HP41.2); have hp_ : Kd.N k53 53 w42 w.heap.size (fun k_ => (w.heap.size ≤ k_) ∧ some k_ ≠ (.slice Ao36 t327.length co36 : Value).ownBlock ∧ some k_ ≠ (v332 : Value).ownBlock) (.slice (some ⟨go33, 0, none⟩) t318.length co33) y340 := (by rw [hw, Ny340.out]; exact HP41.1); clear HP41; replace HO329 := ak (Kd.R_over' (v := (.slice (some ⟨go33, 0, none⟩) t318.length co33)) (hR HO329.out) (Kd.N_typed HO320.out) (by decide) hg); replace HO333 := ak (Kd.R_over' (v := (.slice (some ⟨go33, 0, none⟩) t318.length co33)) (hR HO333.out) (Kd.N_typed HO320.out) (by decide) hg); replace HO320 := ak (hp_); replace HB := ak ((by rw [hw]; exact below_set (HB.out) GB33.out : Below w.heap.size w w42)); clear HO339; clear hg hw hp_))
          go_ret2
          exact ⟨_, by first | rfl | (simp [*, errW_none, errW_some] <;> rfl), by (with_reducible repeat (first | apply Kd.N_alloc | apply Kd.N_drewN | apply Kd.N_drew)); exact Kd.N_mono HO320.out (fun _ hk => hk.1), by exact hopb HB.out⟩
         ·rw [if_neg c32] at H
          exact absurd H (by simp)
        ·rw [if_neg c31] at H
         have c31b0 : decide ((t336.length : Int) ≤ 4) = false := decide_eq_false c31
         have c31b1 : decide (t336.length ≤ 4) = false := decide_eq_false (by omega)
         clear c31
         obtain ⟨y341, hy341⟩ : ∃ y_ : List (S53), y_ = (([] : List (S53))) := ⟨_, rfl⟩
         replace H : (if t334 ≤ (t318.length : Int) then ((some (t318.take (t334 : Int).toNat : List (S53))).bind fun y344 => (if y341.length + y344.length < 5864062014805 then ((some (y341 ++ y344 : List (S53))).bind fun y349 => ((some (([] : List (S65)) : List (S65))).bind fun y352 => (if 2 ≤ (t336.length : Int) then ((some (t336.take 2 : List (S65))).bind fun y355 => (if y352.length + y355.length < 5864062014805 then ((some (([] : List (S65)) : List (S65))).bind fun y363 => ((some (t336.drop 2 : List (S65))).bind fun y366 => (if y363.length + y366.length < 5864062014805 then ((some (([(⟨(y352 ++ y355)⟩ : S53), (⟨(y363 ++ y366)⟩ : S53)] : List (S53)) : List (S53))).bind fun y374 => (if y349.length + y374.length < 5864062014805 then ((some (y349 ++ y374 : List (S53))).bind fun y377 => (if 0 ≤ (wrap64 (t334 + 1)) then (if (wrap64 (t334 + 1)) ≤ (t318.length : Int) then ((some (t318.drop ((wrap64 (t334 + 1)) : Int).toNat : List (S53))).bind fun y380 => (if y377.length + y380.length < 5864062014805 then (some ((y377 ++ y380), true)) else (none))) else (none)) else (none))) else (none))) else (none)))) else (none))) else (none)))) else (none))) else (none)) = some (r1, r2) := by first | (rw [hy341]; exact H) | exact H
         have Ny341 := ak hy341
         clear hy341
         have c43b0 := eq_true (of_decide_eq_true (by assumption) : 0 ≤ t334)
         by_cases c44 : t334 ≤ (t318.length : Int)
         ·rw [if_pos c44] at H
          have c44b0 := eq_true c44
          have c44b1 : decide (t334 ≤ (t318.length : Int)) = true := decide_eq_true c44
          clear c44
          obtain ⟨y344, hy344⟩ : ∃ y_ : List (S53), y_ = (t318.take (t334 : Int).toNat) := ⟨_, rfl⟩
          replace H : (if y341.length + y344.length < 5864062014805 then ((some (y341 ++ y344 : List (S53))).bind fun y349 => ((some (([] : List (S65)) : List (S65))).bind fun y352 => (if 2 ≤ (t336.length : Int) then ((some (t336.take 2 : List (S65))).bind fun y355 => (if y352.length + y355.length < 5864062014805 then ((some (([] : List (S65)) : List (S65))).bind fun y363 => ((some (t336.drop 2 : List (S65))).bind fun y366 => (if y363.length + y366.length < 5864062014805 then ((some (([(⟨(y352 ++ y355)⟩ : S53), (⟨(y363 ++ y366)⟩ : S53)] : List (S53)) : List (S53))).bind fun y374 => (if y349.length + y374.length < 5864062014805 then ((some (y349 ++ y374 : List (S53))).bind fun y377 => (if 0 ≤ (wrap64 (t334 + 1)) then (if (wrap64 (t334 + 1)) ≤ (t318.length : Int) then ((some (t318.drop ((wrap64 (t334 + 1)) : Int).toNat : List (S53))).bind fun y380 => (if y377.length + y380.length < 5864062014805 then (some ((y377 ++ y380), true)) else (none))) else (none)) else (none))) else (none))) else (none)))) else (none))) else (none)))) else (none)) = some (r1, r2) := by first | (rw [hy344]; exact H) | exact H
          have Ny344 := ak hy344
          clear hy344
          by_cases c45 : y341.length + y344.length < 5864062014805
          ·rw [if_pos c45] at H
           have LMc45 := ak c45
           clear c45
           obtain ⟨y349, hy349⟩ : ∃ y_ : List (S53), y_ = (y341 ++ y344) := ⟨_, rfl⟩
           replace H : ((some (([] : List (S65)) : List (S65))).bind fun y352 => (if 2 ≤ (t336.length : Int) then ((some (t336.take 2 : List (S65))).bind fun y355 => (if y352.length + y355.length < 5864062014805 then ((some (([] : List (S65)) : List (S65))).bind fun y363 => ((some (t336.drop 2 : List (S65))).bind fun y366 => (if y363.length + y366.length < 5864062014805 then ((some (([(⟨(y352 ++ y355)⟩ : S53), (⟨(y363 ++ y366)⟩ : S53)] : List (S53)) : List (S53))).bind fun y374 => (if y349.length + y374.length < 5864062014805 then ((some (y349 ++ y374 : List (S53))).bind fun y377 => (if 0 ≤ (wrap64 (t334 + 1)) then (if (wrap64 (t334 + 1)) ≤ (t318.length : Int) then ((some (t318.drop ((wrap64 (t334 + 1)) : Int).toNat : List (S53))).bind fun y380 => (if y377.length + y380.length < 5864062014805 then (some ((y377 ++ y380), true)) else (none))) else (none)) else (none))) else (none))) else (none)))) else (none))) else (none))) = some (r1, r2) := by first | (rw [hy349]; exact H) | exact H
           have Ny349 := ak hy349
           clear hy349
           obtain ⟨y352, hy352⟩ : ∃ y_ : List (S65), y_ = (([] : List (S65))) := ⟨_, rfl⟩
           replace H : (if 2 ≤ (t336.length : Int) then ((some (t336.take 2 : List (S65))).bind fun y355 => (if y352.length + y355.length < 5864062014805 then ((some (([] : List (S65)) : List (S65))).bind fun y363 => ((some (t336.drop 2 : List (S65))).bind fun y366 => (if y363.length + y366.length < 5864062014805 then ((some (([(⟨(y352 ++ y355)⟩ : S53), (⟨(y363 ++ y366)⟩ : S53)] : List (S53)) : List (S53))).bind fun y374 => (if y349.length + y374.length < 5864062014805 then ((some (y349 ++ y374 : List (S53))).bind fun y377 => (if 0 ≤ (wrap64 (t334 + 1)) then (if (wrap64 (t334 + 1)) ≤ (t318.length : Int) then ((some (t318.drop ((wrap64 (t334 + 1)) : Int).toNat : List (S53))).bind fun y380 => (if y377.length + y380.length < 5864062014805 then (some ((y377 ++ y380), true)) else (none))) else (none)) else (none))) else (none))) else (none)))) else (none))) else (none)) = some (r1, r2) := by first | (rw [hy352]; exact H) | exact H
           have Ny352 := ak hy352
           clear hy352
           by_cases c46 : 2 ≤ (t336.length : Int)
           ·rw [if_pos c46] at H
            have c46b0 := eq_true c46
            have c46b1 : decide (2 ≤ (t336.length : Int)) = true := decide_eq_true c46
            clear c46
            obtain ⟨y355, hy355⟩ : ∃ y_ : List (S65), y_ = (t336.take 2) := ⟨_, rfl⟩
            replace H : (if y352.length + y355.length < 5864062014805 then ((some (([] : List (S65)) : List (S65))).bind fun y363 => ((some (t336.drop 2 : List (S65))).bind fun y366 => (if y363.length + y366.length < 5864062014805 then ((some (([(⟨(y352 ++ y355)⟩ : S53), (⟨(y363 ++ y366)⟩ : S53)] : List (S53)) : List (S53))).bind fun y374 => (if y349.length + y374.length < 5864062014805 then ((some (y349 ++ y374 : List (S53))).bind fun y377 => (if 0 ≤ (wrap64 (t334 + 1)) then (if (wrap64 (t334 + 1)) ≤ (t318.length : Int) then ((some (t318.drop ((wrap64 (t334 + 1)) : Int).toNat : List (S53))).bind fun y380 => (if y377.length + y380.length < 5864062014805 then (some ((y377 ++ y380), true)) else (none))) else (none)) else (none))) else (none))) else (none)))) else (none)) = some (r1, r2) := by first | (rw [hy355]; exact H) | exact H
            have Ny355 := ak hy355
            clear hy355
            by_cases c47 : y352.length + y355.length < 5864062014805
            ·rw [if_pos c47] at H
             have LMc47 := ak c47
             clear c47
             obtain ⟨y360, hy360⟩ : ∃ y_ : List (S65), y_ = (y352 ++ y355) := ⟨_, rfl⟩
             replace H : ((some (([] : List (S65)) : List (S65))).bind fun y363 => ((some (t336.drop 2 : List (S65))).bind fun y366 => (if y363.length + y366.length < 5864062014805 then ((some (([(⟨y360⟩ : S53), (⟨(y363 ++ y366)⟩ : S53)] : List (S53)) : List (S53))).bind fun y374 => (if y349.length + y374.length < 5864062014805 then ((some (y349 ++ y374 : List (S53))).bind fun y377 => (if 0 ≤ (wrap64 (t334 + 1)) then (if (wrap64 (t334 + 1)) ≤ (t318.length : Int) then ((some (t318.drop ((wrap64 (t334 + 1)) : Int).toNat : List (S53))).bind fun y380 => (if y377.length + y380.length < 5864062014805 then (some ((y377 ++ y380), true)) else (none))) else (none)) else (none))) else (none))) else (none)))) = some (r1, r2) := by first | (rw [hy360]; exact H) | exact H
             have Ny360 := ak hy360
             clear hy360
             obtain ⟨y363, hy363⟩ : ∃ y_ : List (S65), y_ = (([] : List (S65))) := ⟨_, rfl⟩
             replace H : ((some (t336.drop 2 : List (S65))).bind fun y366 => (if y363.length + y366.length < 5864062014805 then ((some (([(⟨y360⟩ : S53), (⟨(y363 ++ y366)⟩ : S53)] : List (S53)) : List (S53))).bind fun y374 => (if y349.length + y374.length < 5864062014805 then ((some (y349 ++ y374 : List (S53))).bind fun y377 => (if 0 ≤ (wrap64 (t334 + 1)) then (if (wrap64 (t334 + 1)) ≤ (t318.length : Int) then ((some (t318.drop ((wrap64 (t334 + 1)) : Int).toNat : List (S53))).bind fun y380 => (if y377.length + y380.length < 5864062014805 then (some ((y377 ++ y380), true)) else (none))) else (none)) else (none))) else (none))) else (none))) = some (r1, r2) := by first | (rw [hy363]; exact H) | exact H
             have Ny363 := ak hy363
             clear hy363
             have c48b0 := eq_true (of_decide_eq_true (by assumption) : 2 ≤ (t336.length : Int))
             obtain ⟨y366, hy366⟩ : ∃ y_ : List (S65), y_ = (t336.drop 2) := ⟨_, rfl⟩
             replace H : (if y363.length + y366.length < 5864062014805 then ((some (([(⟨y360⟩ : S53), (⟨(y363 ++ y366)⟩ : S53)] : List (S53)) : List (S53))).bind fun y374 => (if y349.length + y374.length < 5864062014805 then ((some (y349 ++ y374 : List (S53))).bind fun y377 => (if 0 ≤ (wrap64 (t334 + 1)) then (if (wrap64 (t334 + 1)) ≤ (t318.length : Int) then ((some (t318.drop ((wrap64 (t334 + 1)) : Int).toNat : List (S53))).bind fun y380 => (if y377.length + y380.length < 5864062014805 then (some ((y377 ++ y380), true)) else (none))) else (none)) else (none))) else (none))) else (none)) = some (r1, r2) := by first | (rw [hy366]; exact H) | exact H
             have Ny366 := ak hy366
             clear hy366
             by_cases c49 : y363.length + y366.length < 5864062014805
             ·rw [if_pos c49] at H
              have LMc49 := ak c49
              clear c49
              obtain ⟨y371, hy371⟩ : ∃ y_ : List (S65), y_ = (y363 ++ y366) := ⟨_, rfl⟩
              replace H : ((some (([(⟨y360⟩ : S53), (⟨y371⟩ : S53)] : List (S53)) : List (S53))).bind fun y374 => (if y349.length + y374.length < 5864062014805 then ((some (y349 ++ y374 : List (S53))).bind fun y377 => (if 0 ≤ (wrap64 (t334 + 1)) then (if (wrap64 (t334 + 1)) ≤ (t318.length : Int) then ((some (t318.drop ((wrap64 (t334 + 1)) : Int).toNat : List (S53))).bind fun y380 => (if y377.length + y380.length < 5864062014805 then (some ((y377 ++ y380), true)) else (none))) else (none)) else (none))) else (none))) = some (r1, r2) := by first | (rw [hy371]; exact H) | exact H
              have Ny371 := ak hy371
              clear hy371
              obtain ⟨y374, hy374⟩ : ∃ y_ : List (S53), y_ = (([(⟨y360⟩ : S53), (⟨y371⟩ : S53)] : List (S53))) := ⟨_, rfl⟩
              replace H : (if y349.length + y374.length < 5864062014805 then ((some (y349 ++ y374 : List (S53))).bind fun y377 => (if 0 ≤ (wrap64 (t334 + 1)) then (if (wrap64 (t334 + 1)) ≤ (t318.length : Int) then ((some (t318.drop ((wrap64 (t334 + 1)) : Int).toNat : List (S53))).bind fun y380 => (if y377.length + y380.length < 5864062014805 then (some ((y377 ++ y380), true)) else (none))) else (none)) else (none))) else (none)) = some (r1, r2) := by first | (rw [hy374]; exact H) | exact H
              have Ny374 := ak hy374
              clear hy374
              by_cases c50 : y349.length + y374.length < 5864062014805
              ·rw [if_pos c50] at H
               have LMc50 := ak c50
               clear c50
               obtain ⟨y377, hy377⟩ : ∃ y_ : List (S53), y_ = (y349 ++ y374) := ⟨_, rfl⟩
               replace H : (if 0 ≤ (wrap64 (t334 + 1)) then (if (wrap64 (t334 + 1)) ≤ (t318.length : Int) then ((some (t318.drop ((wrap64 (t334 + 1)) : Int).toNat : List (S53))).bind fun y380 => (if y377.length + y380.length < 5864062014805 then (some ((y377 ++ y380), true)) else (none))) else (none)) else (none)) = some (r1, r2) := by first | (rw [hy377]; exact H) | exact H
               have Ny377 := ak hy377
               clear hy377
               obtain ⟨ji51, hji51⟩ : ∃ j_ : Int, (wrap64 (t334 + 1)) = j_ := ⟨_, rfl⟩
               replace H : (if 0 ≤ (ji51) then (if (ji51) ≤ (t318.length : Int) then ((some (t318.drop ((ji51) : Int).toNat : List (S53))).bind fun y380 => (if y377.length + y380.length < 5864062014805 then (some ((y377 ++ y380), true)) else (none))) else (none)) else (none)) = some (r1, r2) := by first | (rw [hji51] at H; exact H) | (simp only [hji51] at H ⊢; exact H)
               (try rw [hji51] at A16)
               (try rw [hji51] at A24)
               (try rw [hji51] at A25)
               (try rw [hji51] at A27)
               (try rw [hji51] at A30)
               have hji51w : (IntKind.i64.wrap (t334 + 1)) = ji51 := (i64_w _).trans hji51
               by_cases c52 : 0 ≤ (ji51)
               ·rw [if_pos c52] at H
                have c52b0 := eq_true c52
                have c52b1 : decide (0 ≤ (ji51)) = true := decide_eq_true c52
                clear c52
                by_cases c53 : (ji51) ≤ (t318.length : Int)
                ·rw [if_pos c53] at H
                 have c53b0 := eq_true c53
                 have c53b1 : decide ((ji51) ≤ (t318.length : Int)) = true := decide_eq_true c53
                 clear c53
                 obtain ⟨y380, hy380⟩ : ∃ y_ : List (S53), y_ = (t318.drop ((ji51) : Int).toNat) := ⟨_, rfl⟩
                 replace H : (if y377.length + y380.length < 5864062014805 then (some ((y377 ++ y380), true)) else (none)) = some (r1, r2) := by first | (rw [hy380]; exact H) | exact H
                 have Ny380 := ak hy380
                 clear hy380
                 by_cases c54 : y377.length + y380.length < 5864062014805
                 ·rw [if_pos c54] at H
                  have LMc54 := ak c54
                  clear c54
                  obtain ⟨y385, hy385⟩ : ∃ y_ : List (S53), y_ = (y377 ++ y380) := ⟨_, rfl⟩
                  replace H : (some (y385, true)) = some (r1, r2) := by first | (rw [hy385]; exact H) | exact H
                  have Ny385 := ak hy385
                  clear hy385
                  simp only [Option.some.injEq, Prod.mk.injEq] at H
                  obtain ⟨rfl, rfl⟩ := H
                  try go_wp2_with (first | ((with_reducible refine gate_callee (f := 25) rfl ?_); refine gL (some 30) Try.func25 #[.slice A0 l0.length c0] ?_; (with_reducible refine (spec_l6Copy.calls kj3 _ _ l0 t318 _ ?side1 ?side2 A16.out).mono ?_); (case side1 => exact hC (Kd.C_below HR0.out HB.out)); (case side2 => exact HC0.out); rintro e w55 ⟨v319, rfl, ho0, hb⟩; refine ⟨_, rfl, ?_⟩; have HO320 := ak (Kd.N_lower (Kd.N_mono (ok' := fun k_ => (w.heap.size ≤ k_)) (Kd.S_N (Kd.S_bound ho0)) (fun k_ hk_ => (Nat.le_trans (below_size (by exact hopb HB.out)) hk_.2.1))) (below_size (by exact hopb HB.out))); replace HB := ak (below_step (by exact hopb HB.out) hb); (try clear hb); (try clear ho0)) | ((with_reducible refine gate_callee (f := 41) rfl ?_); refine gL (some 44) Try.func41 #[.slice A0 l0.length c0] ?_; (with_reducible refine (spec_PagesList.calls kj3 _ _ l0 t327 _ ?side1 ?side2 A24.out).mono ?_); (case side1 => exact hC (Kd.C_below HR0.out HB.out)); (case side2 => exact HC0.out); rintro e w56 ⟨v328, rfl, ho0, hb⟩; refine ⟨_, rfl, ?_⟩; replace HO320 := ak (Kd.N_elder' (hN HO320.out) (Kd.R_base ho0) hb); have HO329 := ak (Kd.R_lower (Kd.R_newM (M := fun k_ => (w.heap.size ≤ k_)) ho0 (below_size (by exact hopb HB.out)) (fun k_ h_ => h_)) (below_size (by exact hopb HB.out))); replace HB := ak (below_step (by exact hopb HB.out) hb); (try clear hb); (try clear ho0); obtain ⟨Ao57, co57, eo57⟩ := Kd.R_slice HO329.out; subst eo57) | ((with_reducible refine gate_callee (f := 49) rfl ?_); refine gL (some 47) Try.func49 #[.slice Ao57 t327.length co57, .string a1, .int .i64 a2] ?_; (with_reducible refine (spec_PairPut.calls kj3 _ _ t327 a1 a2 t330 true _ ?side1 ?side2 A25.out).mono ?_); (case side1 => exact hC (Kd.R_reads' HO329.out).2.2); (case side2 => exact (Kd.R_reads' HO329.out).2.1); rintro e w58 ⟨v332, rfl, ho0, hb⟩; refine ⟨_, rfl, ?_⟩; replace HO320 := ak (Kd.N_elder' (hN HO320.out) (Kd.R_base ho0) hb); have HO333 := ak (Kd.R_lower (Kd.R_new' (Kd.R_newM (M := fun k_ => (w.heap.size ≤ k_)) ho0 (below_size (by exact hopb HB.out)) (fun k_ h_ => h_)) (Kd.R_lt (hR HO329.out))) (below_size (by exact hopb HB.out))); replace HO329 := ak (Kd.R_elder' (hR HO329.out) (Kd.R_base ho0) hb); replace HB := ak (below_step (by exact hopb HB.out) hb); (try clear hb); (try clear ho0)) | ((with_reducible refine gate_callee (f := 26) rfl ?_); refine gL (some 55) Try.func26 #[.slice A0 l0.length c0, .string a1] ?_; (with_reducible refine (spec_PageFind.calls kj3 _ _ l0 a1 t334 _ ?side1 ?side2 A27.out).mono ?_); (case side1 => exact hC (Kd.C_below HR0.out HB.out)); (case side2 => exact HC0.out); rintro e w59 ⟨rfl, hb⟩; refine ⟨_, rfl, ?_⟩; replace HO320 := ak (Kd.N_below (hN HO320.out) hb); replace HO329 := ak (Kd.R_below (hR HO329.out) hb); replace HO333 := ak (Kd.R_below (hR HO333.out) hb); replace HB := ak (below_step (by exact hopb HB.out) hb); (try clear hb); have p335 : 0 ≤ (t334 : Int) := of_decide_eq_true (by assumption); have q335 : t334 < (l0.length : Int) := of_decide_eq_true (by assumption); obtain ⟨ad335, A335_0, c335_0, e335, hx335_0, hl335_0, hi335_0⟩ := at_T53 HR0.out t334 p335 q335; cases e335; replace hx335_0 := (HB.out.cell (World.block_lt_of_cell? w _ hx335_0)).trans hx335_0; have HR335_0 := ak hi335_0; have HC335_0 := ak hl335_0; clear hi335_0 hl335_0; replace p335 := eq_true p335; replace q335 := eq_true q335) | ((with_reducible refine gate_callee (f := 49) rfl ?_); refine gL (some 64) Try.func49 #[.slice A335_0 ((rd_T53 l0 t334).f0).length c335_0, .string a1, .int .i64 a2] ?_; (with_reducible refine (spec_PairPut.calls kj3 _ _ ((rd_T53 l0 t334).f0) a1 a2 t336 t337 _ ?side1 ?side2 A30.out).mono ?_); (case side1 => exact hC (Kd.C_below HR335_0.out HB.out)); (case side2 => exact HC335_0.out); rintro e w60 ⟨v338, rfl, ho0, hb⟩; refine ⟨_, rfl, ?_⟩; replace HO320 := ak (Kd.N_elder' (hN HO320.out) (Kd.R_base ho0) hb); have HO339 := ak (Kd.R_lower (Kd.R_new' (Kd.R_new' (Kd.R_newM (M := fun k_ => (w.heap.size ≤ k_)) ho0 (below_size (by exact hopb HB.out)) (fun k_ h_ => h_)) (Kd.R_lt (hR HO329.out))) (Kd.R_lt (hR HO333.out))) (below_size (by exact hopb HB.out))); replace HO329 := ak (Kd.R_elder' (hR HO329.out) (Kd.R_base ho0) hb); replace HO333 := ak (Kd.R_elder' (hR HO333.out) (Kd.R_base ho0) hb); replace HB := ak (below_step (by exact hopb HB.out) hb); (try clear hb); (try clear ho0); obtain ⟨Ao61, co61, eo61⟩ := Kd.R_slice HO339.out; subst eo61) | ((with_reducible refine gate_dst (N := 76) rfl ?_); refine Kd.N_lit k53 _ 53 ?hg (N' := 76) ?hd (xs := ([] : List (S53))) (inner := []) (ok := (fun k_ => (w.heap.size ≤ k_) ∧ some k_ ≠ (v319 : Value).ownBlock ∧ some k_ ≠ (.slice Ao57 t327.length co57 : Value).ownBlock ∧ some k_ ≠ (v332 : Value).ownBlock ∧ some k_ ≠ (.slice Ao61 t336.length co61 : Value).ownBlock)) (okp := (fun k_ => (w.heap.size ≤ k_) ∧ some k_ ≠ (v319 : Value).ownBlock ∧ some k_ ≠ (.slice Ao57 t327.length co57 : Value).ownBlock ∧ some k_ ≠ (v332 : Value).ownBlock ∧ some k_ ≠ (.slice Ao61 t336.length co61 : Value).ownBlock)) ?hr ?hp (fun _ hk => hk) ((show ∀ k_, w60.heap.size ≤ k_ → (fun k_ => (w.heap.size ≤ k_) ∧ some k_ ≠ (v319 : Value).ownBlock ∧ some k_ ≠ (.slice Ao57 t327.length co57 : Value).ownBlock ∧ some k_ ≠ (v332 : Value).ownBlock ∧ some k_ ≠ (.slice Ao61 t336.length co61 : Value).ownBlock) k_ from fun k_ hk => ⟨(Nat.le_trans (below_size (by exact hopb HB.out)) hk), Kd.fresh' (Kd.N_lt (hN HO320.out)) k_ hk, Kd.fresh' (Kd.R_lt (hR HO329.out)) k_ hk, Kd.fresh' (Kd.R_lt (hR HO333.out)) k_ hk, Kd.fresh' (Kd.R_lt (hR HO339.out)) k_ hk⟩) _ (Nat.le_refl _)) (Below.refl _ _) (Nat.le_refl _) (by simp) ?_; (case hd => rfl); (case hg => rfl); (case hr => go_simp <;> rfl); (case hp => exact (Reps.none _ _)); intro v342 w62 ho63 hb hg_ hnew_; clear hg_ hnew_; (first | rw [← Ny341.out] at ho63 | (simp only [Int.reduceToNat] at ho63; rw [← Ny341.out] at ho63)); replace HO320 := ak (Kd.N_elder' (hN HO320.out) (Kd.N_base ho63) hb); replace HO329 := ak (Kd.R_below (hR HO329.out) hb); replace HO333 := ak (Kd.R_below (hR HO333.out) hb); replace HO339 := ak (Kd.R_below (hR HO339.out) hb); have HO343 := ak (Kd.N_lower ho63 (below_size (by exact hopb HB.out))); replace HB := ak (below_step (by exact hopb HB.out) hb); clear hb ho63; obtain ⟨Ao65, co65, eo65⟩ := Kd.N_slice HO320.out; subst eo65; have q64 : (t334 : Int) ≤ ((t318.length : Int) : Int) := of_decide_eq_true (by assumption); obtain ⟨i064, hi064, _, hsz64, _⟩ := info_parts info53; have hroom64 : t318.length ≤ co65 := (Kd.N_reads' HO320.out).2.1; have hC64 : Kd.F k53 _ _ Ao65 t318.length t318 := (Kd.V_at (base := w.heap.size) (Kd.N_V HO320.out)).2.2; have hcut64 := cut_to (P := Try.prog) 24 53 .i64 Try.underlying24 hi064 Ao65 t318.length co65 t334 (of_decide_eq_true (by assumption)) q64 hroom64; have hr64 := Kd.F_take (m := (t334 : Int).toNat) hC64 (by omega); have hy64 : y344.length = (t334 : Int).toNat := (by rw [Ny344.out, List.length_take]; omega); rw [← Ny344.out] at hr64; rw [← hy64] at hcut64; have HO348 := ak (show Kd.V k53 53 _ w.heap.size _ (.slice Ao65 y344.length co65) y344 from Kd.V_mk (by omega) hr64); have HC348 := ak (show y344.length ≤ co65 from by omega); clear hr64 hC64 hroom64 hi064 hsz64; have KY64 := ak hy64; clear hy64; replace q64 := eq_true q64) | ((with_reducible refine gate_builtin (b := .append) (xs := #[.tmp 76, .tmp 79]) rfl ?_); at_builtin; refine Kd.N_append_rows k53 (w0 := w) w.heap.size rfl (.tmp 76) (.tmp 79) 24 53 (.agg #[(.slice none 0 0)]) 24 rfl Try.underlying24 info53 rfl (by decide) (by omega) v342 y341 y344 _ _ _ (fun k_ => (w.heap.size ≤ k_) ∧ some k_ ≠ (.slice Ao57 t327.length co57 : Value).ownBlock ∧ some k_ ≠ (v332 : Value).ownBlock ∧ some k_ ≠ (.slice Ao61 t336.length co61 : Value).ownBlock) (fun k_ => ((fun k_ => (w.heap.size ≤ k_) ∧ some k_ ≠ (.slice Ao57 t327.length co57 : Value).ownBlock ∧ some k_ ≠ (v332 : Value).ownBlock ∧ some k_ ≠ (.slice Ao61 t336.length co61 : Value).ownBlock)) k_ ∧ some k_ ≠ (v342 : Value).ownBlock) rfl rfl ?aO ?aR (fun _ hk => hk) ?aF ?aB ?aS ?aL ?_; (case aR => exact (by skip; exact Kd.V_F (Kd.V_mono (ok' := (fun k_ => ((fun k_ => (w.heap.size ≤ k_) ∧ some k_ ≠ (.slice Ao57 t327.length co57 : Value).ownBlock ∧ some k_ ≠ (v332 : Value).ownBlock ∧ some k_ ≠ (.slice Ao61 t336.length co61 : Value).ownBlock)) k_ ∧ some k_ ≠ (v342 : Value).ownBlock)) (HO348.out) (fun k_ hk => ⟨⟨hk.1.1.1.1, ⟨hk.1.1.1.2, ⟨hk.1.1.2, hk.1.2⟩⟩⟩, hk.2⟩)))); (case aB => exact (by exact hopb HB.out)); (case aF => exact (fun k_ hk => ⟨(Nat.le_trans (below_size (by exact hopb HB.out)) hk), Kd.fresh' (Kd.R_lt (hR HO329.out)) k_ hk, Kd.fresh' (Kd.R_lt (hR HO333.out)) k_ hk, Kd.fresh' (Kd.R_lt (hR HO339.out)) k_ hk⟩)); (case aO => exact (by (with_reducible repeat (first | apply Kd.N_alloc | apply Kd.N_drewN | apply Kd.N_drew)); exact Kd.N_mono HO343.out (fun _ hk => ⟨hk.1, ⟨hk.2.2.1, ⟨hk.2.2.2.1, hk.2.2.2.2⟩⟩⟩))); (case aS => exact (below_size (by exact hopb HB.out))); (case aL => have := LMc45.out; omega); intro v350 w66 ho hb hg hat; rw [← Ny349.out] at ho; replace HO320 := ak (Kd.N_afterv (ok := (fun k_ => (w.heap.size ≤ k_) ∧ some k_ ≠ (.slice Ao57 t327.length co57 : Value).ownBlock ∧ some k_ ≠ (v332 : Value).ownBlock ∧ some k_ ≠ (.slice Ao61 t336.length co61 : Value).ownBlock)) (by (with_reducible repeat (first | apply Kd.N_alloc | apply Kd.N_drewN | apply Kd.N_drew)); exact Kd.N_mono HO320.out (fun _ hk => ⟨⟨hk.1.1.1.1, ⟨hk.1.1.1.2, ⟨hk.1.1.2, hk.1.2⟩⟩⟩, hk.2⟩)) hg hat); replace HO329 := ak (Kd.R_over' (hR HO329.out) (Kd.N_typed (hN HO343.out)) (by decide) hg); replace HO333 := ak (Kd.R_over' (hR HO333.out) (Kd.N_typed (hN HO343.out)) (by decide) hg); replace HO339 := ak (Kd.R_over' (hR HO339.out) (Kd.N_typed (hN HO343.out)) (by decide) hg); replace HO348 := ak (Kd.V_afterv (ok := (fun k_ => (w.heap.size ≤ k_) ∧ some k_ ≠ (.slice Ao57 t327.length co57 : Value).ownBlock ∧ some k_ ≠ (v332 : Value).ownBlock ∧ some k_ ≠ (.slice Ao61 t336.length co61 : Value).ownBlock)) (by (with_reducible repeat (first | apply Kd.V_alloc | apply Kd.V_drewN | apply Kd.V_drew)); exact Kd.V_mono HO348.out (fun _ hk => ⟨⟨hk.1.1.1.1, ⟨hk.1.1.1.2, ⟨hk.1.1.2, hk.1.2⟩⟩⟩, hk.2⟩)) hg hat); replace HB := ak (hb); have HO351 := ak (ho); clear HO343; clear ho hb hg hat; obtain ⟨Ao67, co67, eo67⟩ := Kd.N_slice HO351.out; subst eo67))
                  replace HO320 := ak (Kd.N_drew HO320.out)
                  replace HO329 := ak (Kd.R_drew HO329.out)
                  replace HO333 := ak (Kd.R_drew HO333.out)
                  replace HO339 := ak (Kd.R_drew HO339.out)
                  replace HO348 := ak (Kd.V_drew HO348.out)
                  replace HO351 := ak (Kd.N_drew HO351.out)
                  replace HB := ak (below_drew1 HB.out)
                  have q69 : (2 : Int) ≤ ((t336.length : Int) : Int) := of_decide_eq_true (by assumption)
                  obtain ⟨i069, hi069, _, hsz69, _⟩ := info_parts info65
                  have hroom69 : t336.length ≤ co61 := (Kd.R_reads' HO339.out).2.1
                  have hC69 : Kd.F k65 _ _ Ao61 t336.length t336 := (Kd.V_at (base := w.heap.size) (Kd.R_V (Kd.R_apart' (Kd.R_apart' (HO339.out) (Kd.N_typed HO320.out) (by decide)) (Kd.N_typed HO351.out) (by decide)))).2.2
                  have hcut69 := cut_to (P := Try.prog) 36 65 .i64 Try.underlying36 hi069 Ao61 t336.length co61 2 (by omega) q69 hroom69
                  have hr69 := Kd.F_take (m := 2) hC69 (by omega)
                  have hy69 : y355.length = (2 : Int).toNat := (by rw [Ny355.out, List.length_take]; omega)
                  rw [← Ny355.out] at hr69
                  rw [← hy69] at hcut69
                  have HO359 := ak (show Kd.V k65 65 _ w.heap.size _ (.slice Ao61 y355.length co61) y355 from Kd.V_mk (by omega) hr69)
                  have HC359 := ak (show y355.length ≤ co61 from by omega)
                  clear hr69 hC69 hroom69 hi069 hsz69
                  have KY69 := ak hy69
                  clear hy69
                  replace q69 := eq_true q69
                  have q70 : (2 : Int) ≤ ((t336.length : Int) : Int) := of_decide_eq_true (by assumption)
                  obtain ⟨i070, hi070, _, hsz70, _⟩ := info_parts info65
                  have hroom70 : t336.length ≤ co61 := (Kd.R_reads' HO339.out).2.1
                  have hC70 : Kd.F k65 _ _ Ao61 t336.length t336 := (Kd.V_at (base := w.heap.size) (Kd.R_V (Kd.R_apart' (Kd.R_apart' (HO339.out) (Kd.N_typed HO320.out) (by decide)) (Kd.N_typed HO351.out) (by decide)))).2.2
                  have hcut70 := cut_from (P := Try.prog) 36 65 .i64 Try.underlying36 hi070 2 hsz70 Ao61 t336.length co61 2 (by omega) q70
                  have hr70 := Kd.F_cut (m := (2 : Int).toNat) (c := co61) hC70 (by omega) hroom70
                  obtain ⟨A70, hA70⟩ : ∃ A1, A1 = (if co61 = (2 : Int).toNat then Ao61 else (Ao61 : Option Addr).map (·.add ((2 : Int).toNat * 2))) := ⟨_, rfl⟩
                  obtain ⟨c70, hc70⟩ : ∃ c1, c1 = co61 - (2 : Int).toNat := ⟨_, rfl⟩
                  have hy70 : y366.length = t336.length - (2 : Int).toNat := (by rw [Ny366.out, List.length_drop] <;> omega)
                  rw [show (t336).drop (2 : Int).toNat = y366 from Ny366.out.symm] at hr70
                  replace hr70 : Kd.F k65 _ _ A70 y366.length y366 := (by rw [hA70]; exact hr70)
                  rw [← hy70, ← hA70, ← hc70] at hcut70
                  have HO370 := ak (show Kd.V k65 65 _ w.heap.size _ (.slice A70 y366.length c70) y366 from Kd.V_mk (by rw [hy70, hc70]; exact Nat.sub_le_sub_right hroom70 _) hr70)
                  have HC370 := ak (show y366.length ≤ c70 from by rw [hy70, hc70]; exact Nat.sub_le_sub_right hroom70 _)
                  clear hr70 hC70 hroom70 hi070 hsz70 hc70
                  have KY70 := ak hy70
                  have KA70 := ak hA70
                  clear hy70 hA70
                  replace q70 := eq_true q70
                  refine start_ (n := 14) (S := fun w' => True) (ds := []) #[U,U,U,U,U,U,U,U,U,U,U,U,U,U] (by kernel_rfl) rfl rfl trivial (fun hHeld => ?_); refine with_tabW spec_PagesPut.tab15 spec_PagesPut.bits15 (fun HT_ HW_ => ?_)
                  generalize w66.drew = w68 at HO320 HO329 HO333 HO339 HO348 HO351 HB HO359 HO370 hHeld ⊢
                  refine pu 0 (some 81) #[T,U,U,U,U,U,U,U,U,U,U,U,U,U] (any_of HT_.out (by kernel_rfl)) ?_
                  refine pu 2 (some 83) #[T,U,T,U,U,U,U,U,U,U,U,U,U,U] (any_of HT_.out (by kernel_rfl)) ?_
                  refine pu 3 (some 84) #[T,U,T,T,U,U,U,U,U,U,U,U,U,U] (any_of HT_.out (by kernel_rfl)) ?_
                  refine pu 7 (some 88) #[T,U,T,T,U,U,U,T,U,U,U,U,U,U] (any_of HT_.out (by kernel_rfl)) ?_
                  refine pu 8 (some 89) #[T,U,T,T,U,U,U,T,T,U,U,U,U,U] (any_of HT_.out (by kernel_rfl)) ?_
                  refine join_ (σ := Value × Value × Value) 5 #[T,T,T,T,T,T,T,T,T,U,U,U,U,U] (fun s_ => [(82, s_.1), (85, s_.2.1), (87, s_.2.2), (86, .agg #[s_.2.1])]) (fun s_ w' => (Kd.N k53 53 w' w.heap.size (fun k_ => (w.heap.size ≤ k_) ∧ some k_ ≠ (.slice Ao57 t327.length co57 : Value).ownBlock ∧ some k_ ≠ (v332 : Value).ownBlock ∧ some k_ ≠ (.slice Ao61 t336.length co61 : Value).ownBlock ∧ some k_ ≠ (.slice Ao67 y349.length co67 : Value).ownBlock ∧ some k_ ≠ (s_.2.1 : Value).ownBlock ∧ some k_ ≠ (s_.2.2 : Value).ownBlock) (.slice Ao65 t318.length co65) t318) ∧ (Kd.R k65 65 w' w.heap.size (fun k_ => (w.heap.size ≤ k_) ∧ some k_ ≠ (v332 : Value).ownBlock ∧ some k_ ≠ (.slice Ao61 t336.length co61 : Value).ownBlock ∧ some k_ ≠ (s_.2.1 : Value).ownBlock ∧ some k_ ≠ (s_.2.2 : Value).ownBlock) (.slice Ao57 t327.length co57) t327) ∧ (Kd.R k65 65 w' w.heap.size (fun k_ => (w.heap.size ≤ k_) ∧ some k_ ≠ (.slice Ao57 t327.length co57 : Value).ownBlock ∧ some k_ ≠ (.slice Ao61 t336.length co61 : Value).ownBlock ∧ some k_ ≠ (s_.2.1 : Value).ownBlock ∧ some k_ ≠ (s_.2.2 : Value).ownBlock) v332 t330) ∧ (Kd.R k65 65 w' w.heap.size (fun k_ => (w.heap.size ≤ k_) ∧ some k_ ≠ (.slice Ao57 t327.length co57 : Value).ownBlock ∧ some k_ ≠ (v332 : Value).ownBlock ∧ some k_ ≠ (s_.2.1 : Value).ownBlock ∧ some k_ ≠ (s_.2.2 : Value).ownBlock) (.slice Ao61 t336.length co61) t336) ∧ (Kd.V k53 53 w' w.heap.size (fun k_ => (w.heap.size ≤ k_) ∧ some k_ ≠ (.slice Ao57 t327.length co57 : Value).ownBlock ∧ some k_ ≠ (v332 : Value).ownBlock ∧ some k_ ≠ (.slice Ao61 t336.length co61 : Value).ownBlock ∧ some k_ ≠ (.slice Ao67 y349.length co67 : Value).ownBlock ∧ some k_ ≠ (s_.2.1 : Value).ownBlock ∧ some k_ ≠ (s_.2.2 : Value).ownBlock) (.slice Ao65 y344.length co65) y344) ∧ (Kd.N k53 53 w' w.heap.size (fun k_ => (w.heap.size ≤ k_) ∧ some k_ ≠ (.slice Ao57 t327.length co57 : Value).ownBlock ∧ some k_ ≠ (v332 : Value).ownBlock ∧ some k_ ≠ (.slice Ao61 t336.length co61 : Value).ownBlock ∧ some k_ ≠ (s_.2.1 : Value).ownBlock ∧ some k_ ≠ (s_.2.2 : Value).ownBlock) (.slice Ao67 y349.length co67) y349) ∧ (Kd.V k65 65 w' w.heap.size (fun k_ => (w.heap.size ≤ k_) ∧ some k_ ≠ (.slice Ao65 t318.length co65 : Value).ownBlock ∧ some k_ ≠ (.slice Ao57 t327.length co57 : Value).ownBlock ∧ some k_ ≠ (v332 : Value).ownBlock ∧ some k_ ≠ (.slice Ao67 y349.length co67 : Value).ownBlock ∧ some k_ ≠ (s_.2.1 : Value).ownBlock ∧ some k_ ≠ (s_.2.2 : Value).ownBlock) (.slice Ao61 y355.length co61) y355) ∧ (Kd.R k65 65 w' w.heap.size (fun k_ => (w.heap.size ≤ k_) ∧ some k_ ≠ (.slice Ao57 t327.length co57 : Value).ownBlock ∧ some k_ ≠ (v332 : Value).ownBlock ∧ some k_ ≠ (.slice Ao61 t336.length co61 : Value).ownBlock ∧ some k_ ≠ (s_.2.2 : Value).ownBlock) s_.2.1 y360) ∧ (Kd.R k65 65 w' w.heap.size (fun k_ => (w.heap.size ≤ k_) ∧ some k_ ≠ (.slice Ao57 t327.length co57 : Value).ownBlock ∧ some k_ ≠ (v332 : Value).ownBlock ∧ some k_ ≠ (.slice Ao61 t336.length co61 : Value).ownBlock ∧ some k_ ≠ (s_.2.1 : Value).ownBlock) s_.2.2 y363) ∧ (Kd.V k65 65 w' w.heap.size (fun k_ => (w.heap.size ≤ k_) ∧ some k_ ≠ (.slice Ao65 t318.length co65 : Value).ownBlock ∧ some k_ ≠ (.slice Ao57 t327.length co57 : Value).ownBlock ∧ some k_ ≠ (v332 : Value).ownBlock ∧ some k_ ≠ (.slice Ao67 y349.length co67 : Value).ownBlock ∧ some k_ ≠ (s_.2.1 : Value).ownBlock ∧ some k_ ≠ (s_.2.2 : Value).ownBlock) (.slice A70 y366.length c70) y366) ∧ (Below w.heap.size w w')) ?_ ?_
                  rotate_left
                  ·intro hCont
                   refine two_ (i := 1) (j := 6) (Ni := some 82) (Nj := some 87) #[T,T,T,T,U,U,U,T,T,U,U,U,U,U] #[T,U,T,T,U,U,T,T,T,U,U,U,U,U] rfl rfl rfl rfl (two_of HT_.out (by kernel_rfl)) (by decide) (by decide) (fun K hK => ?_) (fun K hK => ?_)
                   ·skip
                    refine Kd.R_lit_step k65 _ 65 ?hg (N := 82) ?hd (xs := ([] : List (S65))) (inner := []) (ok := fun _ => True) (okp := fun _ => True) ?hr ?hp (fun _ hk => hk) trivial (Below.refl _ _) (Nat.le_refl _) (by simp) ?_; (case hd => rfl); (case hg => rfl); (case hr => go_simp <;> rfl); (case hp => exact (Reps.none _ _))
                    intro v353 w71 ho72 hb hg_ hnew_
                    clear hg_ hnew_
                    (first | rw [← Ny352.out] at ho72 | (simp only [Int.reduceToNat] at ho72; rw [← Ny352.out] at ho72))
                    replace HO320 := ak (Kd.N_elder' (hN HO320.out) (Kd.R_base ho72) hb)
                    replace HO348 := ak (Kd.V_elder' (by (with_reducible repeat (first | apply Kd.V_alloc | apply Kd.V_drewN | apply Kd.V_drew)); exact HO348.out) (Kd.R_base ho72) hb)
                    replace HO351 := ak (Kd.N_elder' (hN HO351.out) (Kd.R_base ho72) hb)
                    replace HO359 := ak (Kd.V_elder' (by (with_reducible repeat (first | apply Kd.V_alloc | apply Kd.V_drewN | apply Kd.V_drew)); exact HO359.out) (Kd.R_base ho72) hb)
                    replace HO370 := ak (Kd.V_elder' (by (with_reducible repeat (first | apply Kd.V_alloc | apply Kd.V_drewN | apply Kd.V_drew)); exact HO370.out) (Kd.R_base ho72) hb)
                    have HO354 := ak (Kd.R_lower (Kd.R_new' (Kd.R_new' (Kd.R_new' (Kd.R_newM (M := fun k_ => (w.heap.size ≤ k_)) ho72 (below_size (by exact hopb HB.out)) (fun k_ h_ => h_)) (Kd.R_lt (hR HO329.out))) (Kd.R_lt (hR HO333.out))) (Kd.R_lt (hR HO339.out))) (below_size (by exact hopb HB.out)))
                    replace HO329 := ak (Kd.R_elder' (hR HO329.out) (Kd.R_base ho72) hb)
                    replace HO333 := ak (Kd.R_elder' (hR HO333.out) (Kd.R_base ho72) hb)
                    replace HO339 := ak (Kd.R_elder' (hR HO339.out) (Kd.R_base ho72) hb)
                    replace HB := ak (below_step (by exact hopb HB.out) hb)
                    clear hb ho72
                    refine hK.out _ _ trivial (fun hHeld => ?_)
                    clear hK K
                    refine norm_ (a' := ?_) ?_ ?_
                    rotate_left
                    ·show Act.put _ (some 82) _ = _
                     simp only [Act.put, lT, lZ, lS, i64_w, i32_w]
                     rfl
                    refine two_ (i := 4) (j := 6) (Ni := some 85) (Nj := some 87) #[T,T,T,T,T,U,U,T,T,U,U,U,U,U] #[T,T,T,T,U,U,T,T,T,U,U,U,U,U] rfl rfl rfl rfl (two_of HT_.out (by kernel_rfl)) (by decide) (by decide) (fun K hK => ?_) (fun K hK => ?_)
                    ·skip
                     refine Kd.R_append_rows_step k65 (w0 := w) w.heap.size (by rfl) (.tmp 82) (.tmp 84) 36 65 (.agg #[(.string ⟨#[]⟩), (.int .i64 0)]) 24 rfl Try.underlying36 info65 rfl (by decide) (by omega) v353 y352 y355 _ _ _ (fun k_ => (w.heap.size ≤ k_) ∧ some k_ ≠ (.slice Ao57 t327.length co57 : Value).ownBlock ∧ some k_ ≠ (v332 : Value).ownBlock ∧ some k_ ≠ (.slice Ao61 t336.length co61 : Value).ownBlock) (fun _ => False) rfl rfl ?aO ?aR (fun _ _ h => h) (fun _ h => h.elim) ?aF ?aB ?aS ?aL ?_
                     (case aR => exact hC (Kd.V_reads' HO359.out).2.2)
                     (case aB => exact (by exact hopb HB.out))
                     (case aF => exact (fun k_ hk => ⟨(Nat.le_trans (below_size (by exact hopb HB.out)) hk), Kd.fresh' (Kd.R_lt (hR HO329.out)) k_ hk, Kd.fresh' (Kd.R_lt (hR HO333.out)) k_ hk, Kd.fresh' (Kd.R_lt (hR HO339.out)) k_ hk⟩))
                     (case aO => exact (by (with_reducible repeat (first | apply Kd.R_alloc | apply Kd.R_drewN | apply Kd.R_drew)); exact Kd.R_mono HO354.out (fun _ hk => ⟨hk.1.1.1.1, ⟨hk.1.1.2, ⟨hk.1.2, hk.2⟩⟩⟩)))
                     (case aS => exact (below_size (by exact hopb HB.out)))
                     (case aL => have := LMc47.out; omega)
                     intro v361 w73 ho hb hg hat
                     rw [← Ny360.out] at ho
                     replace HO320 := ak (Kd.N_afterv (ok := (fun k_ => (w.heap.size ≤ k_) ∧ some k_ ≠ (.slice Ao57 t327.length co57 : Value).ownBlock ∧ some k_ ≠ (v332 : Value).ownBlock ∧ some k_ ≠ (.slice Ao61 t336.length co61 : Value).ownBlock ∧ some k_ ≠ (.slice Ao67 y349.length co67 : Value).ownBlock)) (by (with_reducible repeat (first | apply Kd.N_alloc | apply Kd.N_drewN | apply Kd.N_drew)); exact Kd.N_mono HO320.out (fun _ hk => ⟨⟨hk.1.1.1, ⟨hk.1.1.2.1, ⟨hk.1.1.2.2.1, ⟨hk.1.1.2.2.2, hk.1.2⟩⟩⟩⟩, hk.2⟩)) hg hat)
                     replace HO329 := ak (Kd.R_after (ok := (fun k_ => (w.heap.size ≤ k_) ∧ some k_ ≠ (v332 : Value).ownBlock ∧ some k_ ≠ (.slice Ao61 t336.length co61 : Value).ownBlock)) (by (with_reducible repeat (first | apply Kd.R_alloc | apply Kd.R_drewN | apply Kd.R_drew)); exact Kd.R_mono HO329.out (fun _ hk => ⟨⟨hk.1.1.1.1, ⟨hk.1.1.2, hk.1.2⟩⟩, hk.2⟩)) hg hat)
                     replace HO333 := ak (Kd.R_after (ok := (fun k_ => (w.heap.size ≤ k_) ∧ some k_ ≠ (.slice Ao57 t327.length co57 : Value).ownBlock ∧ some k_ ≠ (.slice Ao61 t336.length co61 : Value).ownBlock)) (by (with_reducible repeat (first | apply Kd.R_alloc | apply Kd.R_drewN | apply Kd.R_drew)); exact Kd.R_mono HO333.out (fun _ hk => ⟨⟨hk.1.1.1.1, ⟨hk.1.1.2, hk.1.2⟩⟩, hk.2⟩)) hg hat)
                     replace HO339 := ak (Kd.R_after (ok := (fun k_ => (w.heap.size ≤ k_) ∧ some k_ ≠ (.slice Ao57 t327.length co57 : Value).ownBlock ∧ some k_ ≠ (v332 : Value).ownBlock)) (by (with_reducible repeat (first | apply Kd.R_alloc | apply Kd.R_drewN | apply Kd.R_drew)); exact Kd.R_mono HO339.out (fun _ hk => ⟨⟨hk.1.1.1.1, ⟨hk.1.1.2, hk.1.2⟩⟩, hk.2⟩)) hg hat)
                     replace HO348 := ak (Kd.V_afterv (ok := (fun k_ => (w.heap.size ≤ k_) ∧ some k_ ≠ (.slice Ao57 t327.length co57 : Value).ownBlock ∧ some k_ ≠ (v332 : Value).ownBlock ∧ some k_ ≠ (.slice Ao61 t336.length co61 : Value).ownBlock ∧ some k_ ≠ (.slice Ao67 y349.length co67 : Value).ownBlock)) (by (with_reducible repeat (first | apply Kd.V_alloc | apply Kd.V_drewN | apply Kd.V_drew)); exact Kd.V_mono HO348.out (fun _ hk => ⟨⟨hk.1.1.1, ⟨hk.1.1.2.1, ⟨hk.1.1.2.2.1, ⟨hk.1.1.2.2.2, hk.1.2⟩⟩⟩⟩, hk.2⟩)) hg hat)
                     replace HO351 := ak (Kd.N_afterv (ok := (fun k_ => (w.heap.size ≤ k_) ∧ some k_ ≠ (.slice Ao57 t327.length co57 : Value).ownBlock ∧ some k_ ≠ (v332 : Value).ownBlock ∧ some k_ ≠ (.slice Ao61 t336.length co61 : Value).ownBlock)) (hN HO351.out) hg hat)
                     replace HO359 := ak (Kd.V_afterv (ok := (fun k_ => (w.heap.size ≤ k_) ∧ some k_ ≠ (.slice Ao65 t318.length co65 : Value).ownBlock ∧ some k_ ≠ (.slice Ao57 t327.length co57 : Value).ownBlock ∧ some k_ ≠ (v332 : Value).ownBlock ∧ some k_ ≠ (.slice Ao67 y349.length co67 : Value).ownBlock)) (by (with_reducible repeat (first | apply Kd.V_alloc | apply Kd.V_drewN | apply Kd.V_drew)); exact Kd.V_mono HO359.out (fun _ hk => ⟨⟨hk.1.1.1.1.1.1, ⟨hk.1.1.2, ⟨hk.1.1.1.1.2, ⟨hk.1.1.1.2, hk.1.2⟩⟩⟩⟩, hk.2⟩)) hg hat)
                     replace HO370 := ak (Kd.V_afterv (ok := (fun k_ => (w.heap.size ≤ k_) ∧ some k_ ≠ (.slice Ao65 t318.length co65 : Value).ownBlock ∧ some k_ ≠ (.slice Ao57 t327.length co57 : Value).ownBlock ∧ some k_ ≠ (v332 : Value).ownBlock ∧ some k_ ≠ (.slice Ao67 y349.length co67 : Value).ownBlock)) (by (with_reducible repeat (first | apply Kd.V_alloc | apply Kd.V_drewN | apply Kd.V_drew)); exact Kd.V_mono HO370.out (fun _ hk => ⟨⟨hk.1.1.1.1.1.1, ⟨hk.1.1.2, ⟨hk.1.1.1.1.2, ⟨hk.1.1.1.2, hk.1.2⟩⟩⟩⟩, hk.2⟩)) hg hat)
                     replace HB := ak (hb)
                     have HO362 := ak (ho)
                     clear HO354
                     clear ho hb hg hat
                     obtain ⟨Ao74, co74, eo74⟩ := Kd.R_slice HO362.out
                     (first | subst eo74 | (injection eo74 with f1_ f2_ f3_; have f4_ := f1_.symm; have f5_ := f3_.symm; clear f1_ f2_ f3_; subst f4_; subst f5_))
                     refine hK.out _ _ trivial (fun hHeld => ?_)
                     clear hK K
                     refine norm_ (a' := ?_) ?_ ?_
                     rotate_left
                     ·show Act.put _ (some 85) _ = _
                      simp only [Act.put, lT, lZ, lS, i64_w, i32_w]
                      rfl
                     refine pu 5 (some 86) #[T,T,T,T,T,T,U,T,T,U,U,U,U,U] (any_of HT_.out (by kernel_rfl)) ?_
                     refine one_ (i := 6) (N := some 87) #[T,T,T,T,T,T,T,T,T,U,U,U,U,U] rfl rfl (one_of HT_.out (by kernel_rfl)) (by decide) (fun K hK => ?_)
                     refine Kd.R_lit_step k65 _ 65 ?hg (N := 87) ?hd (xs := ([] : List (S65))) (inner := []) (ok := fun _ => True) (okp := fun _ => True) ?hr ?hp (fun _ hk => hk) trivial (Below.refl _ _) (Nat.le_refl _) (by simp) ?_; (case hd => rfl); (case hg => rfl); (case hr => go_simp <;> rfl); (case hp => exact (Reps.none _ _))
                     intro v364 w75 ho76 hb hg_ hnew_
                     clear hg_ hnew_
                     (first | rw [← Ny363.out] at ho76 | (simp only [Int.reduceToNat] at ho76; rw [← Ny363.out] at ho76))
                     replace HO320 := ak (Kd.N_elder' (hN HO320.out) (Kd.R_base ho76) hb)
                     replace HO348 := ak (Kd.V_elder' (by (with_reducible repeat (first | apply Kd.V_alloc | apply Kd.V_drewN | apply Kd.V_drew)); exact HO348.out) (Kd.R_base ho76) hb)
                     replace HO351 := ak (Kd.N_elder' (hN HO351.out) (Kd.R_base ho76) hb)
                     replace HO359 := ak (Kd.V_elder' (by (with_reducible repeat (first | apply Kd.V_alloc | apply Kd.V_drewN | apply Kd.V_drew)); exact HO359.out) (Kd.R_base ho76) hb)
                     replace HO370 := ak (Kd.V_elder' (by (with_reducible repeat (first | apply Kd.V_alloc | apply Kd.V_drewN | apply Kd.V_drew)); exact HO370.out) (Kd.R_base ho76) hb)
                     have HO365 := ak (Kd.R_lower (Kd.R_new' (Kd.R_new' (Kd.R_new' (Kd.R_new' (Kd.R_newM (M := fun k_ => (w.heap.size ≤ k_)) ho76 (below_size (by exact hopb HB.out)) (fun k_ h_ => h_)) (Kd.R_lt (hR HO329.out))) (Kd.R_lt (hR HO333.out))) (Kd.R_lt (hR HO339.out))) (Kd.R_lt (hR HO362.out))) (below_size (by exact hopb HB.out)))
                     replace HO329 := ak (Kd.R_elder' (hR HO329.out) (Kd.R_base ho76) hb)
                     replace HO333 := ak (Kd.R_elder' (hR HO333.out) (Kd.R_base ho76) hb)
                     replace HO339 := ak (Kd.R_elder' (hR HO339.out) (Kd.R_base ho76) hb)
                     replace HO362 := ak (Kd.R_elder' (hR HO362.out) (Kd.R_base ho76) hb)
                     replace HB := ak (below_step (by exact hopb HB.out) hb)
                     clear hb ho76
                     refine hK.out _ _ trivial (fun hHeld => ?_)
                     clear hK K
                     refine norm_ (a' := ?_) ?_ ?_
                     rotate_left
                     ·show Act.put _ (some 87) _ = _
                      simp only [Act.put, lT, lZ, lS, i64_w, i32_w]
                      rfl
                     exact norm_ (by simp only [putAll, Act.put, lT, lZ, lS]) (hCont (v353, .slice Ao74 y360.length co74, v364) _ ⟨(by (with_reducible repeat (first | apply Kd.N_alloc | apply Kd.N_drewN | apply Kd.N_drew)); exact Kd.N_mono HO320.out (fun _ hk => ⟨hk.1.1.1, ⟨hk.1.1.2.1, ⟨hk.1.1.2.2.1, ⟨hk.1.1.2.2.2.1, ⟨hk.1.1.2.2.2.2, ⟨hk.1.2, hk.2⟩⟩⟩⟩⟩⟩)), (by (with_reducible repeat (first | apply Kd.R_alloc | apply Kd.R_drewN | apply Kd.R_drew)); exact Kd.R_mono HO329.out (fun _ hk => ⟨hk.1.1.1, ⟨hk.1.1.2.1, ⟨hk.1.1.2.2, ⟨hk.1.2, hk.2⟩⟩⟩⟩)), (by (with_reducible repeat (first | apply Kd.R_alloc | apply Kd.R_drewN | apply Kd.R_drew)); exact Kd.R_mono HO333.out (fun _ hk => ⟨hk.1.1.1, ⟨hk.1.1.2.1, ⟨hk.1.1.2.2, ⟨hk.1.2, hk.2⟩⟩⟩⟩)), (by (with_reducible repeat (first | apply Kd.R_alloc | apply Kd.R_drewN | apply Kd.R_drew)); exact Kd.R_mono HO339.out (fun _ hk => ⟨hk.1.1.1, ⟨hk.1.1.2.1, ⟨hk.1.1.2.2, ⟨hk.1.2, hk.2⟩⟩⟩⟩)), (by (with_reducible repeat (first | apply Kd.V_alloc | apply Kd.V_drewN | apply Kd.V_drew)); exact Kd.V_mono HO348.out (fun _ hk => ⟨hk.1.1.1, ⟨hk.1.1.2.1, ⟨hk.1.1.2.2.1, ⟨hk.1.1.2.2.2.1, ⟨hk.1.1.2.2.2.2, ⟨hk.1.2, hk.2⟩⟩⟩⟩⟩⟩)), (by (with_reducible repeat (first | apply Kd.N_alloc | apply Kd.N_drewN | apply Kd.N_drew)); exact Kd.N_mono HO351.out (fun _ hk => ⟨hk.1.1.1, ⟨hk.1.1.2.1, ⟨hk.1.1.2.2.1, ⟨hk.1.1.2.2.2, ⟨hk.1.2, hk.2⟩⟩⟩⟩⟩)), (by (with_reducible repeat (first | apply Kd.V_alloc | apply Kd.V_drewN | apply Kd.V_drew)); exact Kd.V_mono HO359.out (fun _ hk => ⟨hk.1.1.1, ⟨hk.1.1.2.1, ⟨hk.1.1.2.2.1, ⟨hk.1.1.2.2.2.1, ⟨hk.1.1.2.2.2.2, ⟨hk.1.2, hk.2⟩⟩⟩⟩⟩⟩)), (by (with_reducible repeat (first | apply Kd.R_alloc | apply Kd.R_drewN | apply Kd.R_drew)); exact Kd.R_mono HO362.out (fun _ hk => ⟨hk.1.1, ⟨hk.1.2.1, ⟨hk.1.2.2.1, ⟨hk.1.2.2.2, hk.2⟩⟩⟩⟩)), (by (with_reducible repeat (first | apply Kd.R_alloc | apply Kd.R_drewN | apply Kd.R_drew)); exact Kd.R_mono HO365.out (fun _ hk => ⟨hk.1.1.1.1.1, ⟨hk.1.1.1.2, ⟨hk.1.1.2, ⟨hk.1.2, hk.2⟩⟩⟩⟩)), (by (with_reducible repeat (first | apply Kd.V_alloc | apply Kd.V_drewN | apply Kd.V_drew)); exact Kd.V_mono HO370.out (fun _ hk => ⟨hk.1.1.1, ⟨hk.1.1.2.1, ⟨hk.1.1.2.2.1, ⟨hk.1.1.2.2.2.1, ⟨hk.1.1.2.2.2.2, ⟨hk.1.2, hk.2⟩⟩⟩⟩⟩⟩)), (by exact hopb HB.out)⟩)
                    ·skip
                     refine Kd.R_lit_step k65 _ 65 ?hg (N := 87) ?hd (xs := ([] : List (S65))) (inner := []) (ok := fun _ => True) (okp := fun _ => True) ?hr ?hp (fun _ hk => hk) trivial (Below.refl _ _) (Nat.le_refl _) (by simp) ?_; (case hd => rfl); (case hg => rfl); (case hr => go_simp <;> rfl); (case hp => exact (Reps.none _ _))
                     intro v364 w73 ho74 hb hg_ hnew_
                     clear hg_ hnew_
                     (first | rw [← Ny363.out] at ho74 | (simp only [Int.reduceToNat] at ho74; rw [← Ny363.out] at ho74))
                     replace HO320 := ak (Kd.N_elder' (hN HO320.out) (Kd.R_base ho74) hb)
                     replace HO348 := ak (Kd.V_elder' (by (with_reducible repeat (first | apply Kd.V_alloc | apply Kd.V_drewN | apply Kd.V_drew)); exact HO348.out) (Kd.R_base ho74) hb)
                     replace HO351 := ak (Kd.N_elder' (hN HO351.out) (Kd.R_base ho74) hb)
                     replace HO359 := ak (Kd.V_elder' (by (with_reducible repeat (first | apply Kd.V_alloc | apply Kd.V_drewN | apply Kd.V_drew)); exact HO359.out) (Kd.R_base ho74) hb)
                     replace HO370 := ak (Kd.V_elder' (by (with_reducible repeat (first | apply Kd.V_alloc | apply Kd.V_drewN | apply Kd.V_drew)); exact HO370.out) (Kd.R_base ho74) hb)
                     have HO365 := ak (Kd.R_lower (Kd.R_new' (Kd.R_new' (Kd.R_new' (Kd.R_new' (Kd.R_newM (M := fun k_ => (w.heap.size ≤ k_)) ho74 (below_size (by exact hopb HB.out)) (fun k_ h_ => h_)) (Kd.R_lt (hR HO329.out))) (Kd.R_lt (hR HO333.out))) (Kd.R_lt (hR HO339.out))) (Kd.R_lt (hR HO354.out))) (below_size (by exact hopb HB.out)))
                     replace HO329 := ak (Kd.R_elder' (hR HO329.out) (Kd.R_base ho74) hb)
                     replace HO333 := ak (Kd.R_elder' (hR HO333.out) (Kd.R_base ho74) hb)
                     replace HO339 := ak (Kd.R_elder' (hR HO339.out) (Kd.R_base ho74) hb)
                     replace HO354 := ak (Kd.R_elder' (hR HO354.out) (Kd.R_base ho74) hb)
                     replace HB := ak (below_step (by exact hopb HB.out) hb)
                     clear hb ho74
                     refine hK.out _ _ trivial (fun hHeld => ?_)
                     clear hK K
                     refine norm_ (a' := ?_) ?_ ?_
                     rotate_left
                     ·show Act.put _ (some 87) _ = _
                      simp only [Act.put, lT, lZ, lS, i64_w, i32_w]
                      rfl
                     refine one_ (i := 4) (N := some 85) #[T,T,T,T,T,U,T,T,T,U,U,U,U,U] rfl rfl (one_of HT_.out (by kernel_rfl)) (by decide) (fun K hK => ?_)
                     refine Kd.R_append_rows_step k65 (w0 := w) w.heap.size (by rfl) (.tmp 82) (.tmp 84) 36 65 (.agg #[(.string ⟨#[]⟩), (.int .i64 0)]) 24 rfl Try.underlying36 info65 rfl (by decide) (by omega) v353 y352 y355 _ _ _ (fun k_ => (w.heap.size ≤ k_) ∧ some k_ ≠ (.slice Ao57 t327.length co57 : Value).ownBlock ∧ some k_ ≠ (v332 : Value).ownBlock ∧ some k_ ≠ (.slice Ao61 t336.length co61 : Value).ownBlock ∧ some k_ ≠ (v364 : Value).ownBlock) (fun _ => False) rfl rfl ?aO ?aR (fun _ _ h => h) (fun _ h => h.elim) ?aF ?aB ?aS ?aL ?_
                     (case aR => exact hC (Kd.V_reads' HO359.out).2.2)
                     (case aB => exact (by exact hopb HB.out))
                     (case aF => exact (fun k_ hk => ⟨(Nat.le_trans (below_size (by exact hopb HB.out)) hk), Kd.fresh' (Kd.R_lt (hR HO329.out)) k_ hk, Kd.fresh' (Kd.R_lt (hR HO333.out)) k_ hk, Kd.fresh' (Kd.R_lt (hR HO339.out)) k_ hk, Kd.fresh' (Kd.R_lt (hR HO365.out)) k_ hk⟩))
                     (case aO => exact (by (with_reducible repeat (first | apply Kd.R_alloc | apply Kd.R_drewN | apply Kd.R_drew)); exact Kd.R_mono HO354.out (fun _ hk => ⟨hk.1.1.1.1.1, ⟨hk.1.1.1.2, ⟨hk.1.1.2, ⟨hk.1.2, hk.2⟩⟩⟩⟩)))
                     (case aS => exact (below_size (by exact hopb HB.out)))
                     (case aL => have := LMc47.out; omega)
                     intro v361 w75 ho hb hg hat
                     rw [← Ny360.out] at ho
                     replace HO320 := ak (Kd.N_afterv (ok := (fun k_ => (w.heap.size ≤ k_) ∧ some k_ ≠ (.slice Ao57 t327.length co57 : Value).ownBlock ∧ some k_ ≠ (v332 : Value).ownBlock ∧ some k_ ≠ (.slice Ao61 t336.length co61 : Value).ownBlock ∧ some k_ ≠ (.slice Ao67 y349.length co67 : Value).ownBlock ∧ some k_ ≠ (v364 : Value).ownBlock)) (by (with_reducible repeat (first | apply Kd.N_alloc | apply Kd.N_drewN | apply Kd.N_drew)); exact Kd.N_mono HO320.out (fun _ hk => ⟨⟨hk.1.1.1.1, ⟨hk.1.1.1.2.1, ⟨hk.1.1.1.2.2.1, ⟨hk.1.1.1.2.2.2, ⟨hk.1.1.2, hk.2⟩⟩⟩⟩⟩, hk.1.2⟩)) hg hat)
                     replace HO329 := ak (Kd.R_after (ok := (fun k_ => (w.heap.size ≤ k_) ∧ some k_ ≠ (v332 : Value).ownBlock ∧ some k_ ≠ (.slice Ao61 t336.length co61 : Value).ownBlock ∧ some k_ ≠ (v364 : Value).ownBlock)) (by (with_reducible repeat (first | apply Kd.R_alloc | apply Kd.R_drewN | apply Kd.R_drew)); exact Kd.R_mono HO329.out (fun _ hk => ⟨⟨hk.1.1.1.1.1, ⟨hk.1.1.1.2, ⟨hk.1.1.2, hk.2⟩⟩⟩, hk.1.2⟩)) hg hat)
                     replace HO333 := ak (Kd.R_after (ok := (fun k_ => (w.heap.size ≤ k_) ∧ some k_ ≠ (.slice Ao57 t327.length co57 : Value).ownBlock ∧ some k_ ≠ (.slice Ao61 t336.length co61 : Value).ownBlock ∧ some k_ ≠ (v364 : Value).ownBlock)) (by (with_reducible repeat (first | apply Kd.R_alloc | apply Kd.R_drewN | apply Kd.R_drew)); exact Kd.R_mono HO333.out (fun _ hk => ⟨⟨hk.1.1.1.1.1, ⟨hk.1.1.1.2, ⟨hk.1.1.2, hk.2⟩⟩⟩, hk.1.2⟩)) hg hat)
                     replace HO339 := ak (Kd.R_after (ok := (fun k_ => (w.heap.size ≤ k_) ∧ some k_ ≠ (.slice Ao57 t327.length co57 : Value).ownBlock ∧ some k_ ≠ (v332 : Value).ownBlock ∧ some k_ ≠ (v364 : Value).ownBlock)) (by (with_reducible repeat (first | apply Kd.R_alloc | apply Kd.R_drewN | apply Kd.R_drew)); exact Kd.R_mono HO339.out (fun _ hk => ⟨⟨hk.1.1.1.1.1, ⟨hk.1.1.1.2, ⟨hk.1.1.2, hk.2⟩⟩⟩, hk.1.2⟩)) hg hat)
                     replace HO348 := ak (Kd.V_afterv (ok := (fun k_ => (w.heap.size ≤ k_) ∧ some k_ ≠ (.slice Ao57 t327.length co57 : Value).ownBlock ∧ some k_ ≠ (v332 : Value).ownBlock ∧ some k_ ≠ (.slice Ao61 t336.length co61 : Value).ownBlock ∧ some k_ ≠ (.slice Ao67 y349.length co67 : Value).ownBlock ∧ some k_ ≠ (v364 : Value).ownBlock)) (by (with_reducible repeat (first | apply Kd.V_alloc | apply Kd.V_drewN | apply Kd.V_drew)); exact Kd.V_mono HO348.out (fun _ hk => ⟨⟨hk.1.1.1.1, ⟨hk.1.1.1.2.1, ⟨hk.1.1.1.2.2.1, ⟨hk.1.1.1.2.2.2, ⟨hk.1.1.2, hk.2⟩⟩⟩⟩⟩, hk.1.2⟩)) hg hat)
                     replace HO351 := ak (Kd.N_afterv (ok := (fun k_ => (w.heap.size ≤ k_) ∧ some k_ ≠ (.slice Ao57 t327.length co57 : Value).ownBlock ∧ some k_ ≠ (v332 : Value).ownBlock ∧ some k_ ≠ (.slice Ao61 t336.length co61 : Value).ownBlock ∧ some k_ ≠ (v364 : Value).ownBlock)) (by (with_reducible repeat (first | apply Kd.N_alloc | apply Kd.N_drewN | apply Kd.N_drew)); exact Kd.N_mono HO351.out (fun _ hk => ⟨⟨hk.1.1.1, ⟨hk.1.1.2.1, ⟨hk.1.1.2.2.1, ⟨hk.1.1.2.2.2, hk.2⟩⟩⟩⟩, hk.1.2⟩)) hg hat)
                     replace HO359 := ak (Kd.V_afterv (ok := (fun k_ => (w.heap.size ≤ k_) ∧ some k_ ≠ (.slice Ao65 t318.length co65 : Value).ownBlock ∧ some k_ ≠ (.slice Ao57 t327.length co57 : Value).ownBlock ∧ some k_ ≠ (v332 : Value).ownBlock ∧ some k_ ≠ (.slice Ao67 y349.length co67 : Value).ownBlock ∧ some k_ ≠ (v364 : Value).ownBlock)) (by (with_reducible repeat (first | apply Kd.V_alloc | apply Kd.V_drewN | apply Kd.V_drew)); exact Kd.V_mono HO359.out (fun _ hk => ⟨⟨hk.1.1.1.1.1.1.1, ⟨hk.1.1.1.2, ⟨hk.1.1.1.1.1.2, ⟨hk.1.1.1.1.2, ⟨hk.1.1.2, hk.2⟩⟩⟩⟩⟩, hk.1.2⟩)) hg hat)
                     replace HO370 := ak (Kd.V_afterv (ok := (fun k_ => (w.heap.size ≤ k_) ∧ some k_ ≠ (.slice Ao65 t318.length co65 : Value).ownBlock ∧ some k_ ≠ (.slice Ao57 t327.length co57 : Value).ownBlock ∧ some k_ ≠ (v332 : Value).ownBlock ∧ some k_ ≠ (.slice Ao67 y349.length co67 : Value).ownBlock ∧ some k_ ≠ (v364 : Value).ownBlock)) (by (with_reducible repeat (first | apply Kd.V_alloc | apply Kd.V_drewN | apply Kd.V_drew)); exact Kd.V_mono HO370.out (fun _ hk => ⟨⟨hk.1.1.1.1.1.1.1, ⟨hk.1.1.1.2, ⟨hk.1.1.1.1.1.2, ⟨hk.1.1.1.1.2, ⟨hk.1.1.2, hk.2⟩⟩⟩⟩⟩, hk.1.2⟩)) hg hat)
                     replace HO365 := ak (Kd.R_after (ok := (fun k_ => (w.heap.size ≤ k_) ∧ some k_ ≠ (.slice Ao57 t327.length co57 : Value).ownBlock ∧ some k_ ≠ (v332 : Value).ownBlock ∧ some k_ ≠ (.slice Ao61 t336.length co61 : Value).ownBlock)) (by (with_reducible repeat (first | apply Kd.R_alloc | apply Kd.R_drewN | apply Kd.R_drew)); exact Kd.R_mono HO365.out (fun _ hk => ⟨⟨hk.1.1.1.1.1, ⟨hk.1.1.1.2, ⟨hk.1.1.2, hk.1.2⟩⟩⟩, hk.2⟩)) hg hat)
                     replace HB := ak (hb)
                     have HO362 := ak (ho)
                     clear HO354
                     clear ho hb hg hat
                     obtain ⟨Ao76, co76, eo76⟩ := Kd.R_slice HO362.out
                     (first | subst eo76 | (injection eo76 with f1_ f2_ f3_; have f4_ := f1_.symm; have f5_ := f3_.symm; clear f1_ f2_ f3_; subst f4_; subst f5_))
                     refine hK.out _ _ trivial (fun hHeld => ?_)
                     clear hK K
                     refine norm_ (a' := ?_) ?_ ?_
                     rotate_left
                     ·show Act.put _ (some 85) _ = _
                      simp only [Act.put, lT, lZ, lS, i64_w, i32_w]
                      rfl
                     refine pu 5 (some 86) #[T,T,T,T,T,T,T,T,T,U,U,U,U,U] (any_of HT_.out (by kernel_rfl)) ?_
                     exact norm_ (by simp only [putAll, Act.put, lT, lZ, lS]) (hCont (v353, .slice Ao76 y360.length co76, v364) _ ⟨(by (with_reducible repeat (first | apply Kd.N_alloc | apply Kd.N_drewN | apply Kd.N_drew)); exact Kd.N_mono HO320.out (fun _ hk => ⟨hk.1.1, ⟨hk.1.2.1, ⟨hk.1.2.2.1, ⟨hk.1.2.2.2.1, ⟨hk.1.2.2.2.2.1, ⟨hk.2, hk.1.2.2.2.2.2⟩⟩⟩⟩⟩⟩)), (by (with_reducible repeat (first | apply Kd.R_alloc | apply Kd.R_drewN | apply Kd.R_drew)); exact Kd.R_mono HO329.out (fun _ hk => ⟨hk.1.1, ⟨hk.1.2.1, ⟨hk.1.2.2.1, ⟨hk.2, hk.1.2.2.2⟩⟩⟩⟩)), (by (with_reducible repeat (first | apply Kd.R_alloc | apply Kd.R_drewN | apply Kd.R_drew)); exact Kd.R_mono HO333.out (fun _ hk => ⟨hk.1.1, ⟨hk.1.2.1, ⟨hk.1.2.2.1, ⟨hk.2, hk.1.2.2.2⟩⟩⟩⟩)), (by (with_reducible repeat (first | apply Kd.R_alloc | apply Kd.R_drewN | apply Kd.R_drew)); exact Kd.R_mono HO339.out (fun _ hk => ⟨hk.1.1, ⟨hk.1.2.1, ⟨hk.1.2.2.1, ⟨hk.2, hk.1.2.2.2⟩⟩⟩⟩)), (by (with_reducible repeat (first | apply Kd.V_alloc | apply Kd.V_drewN | apply Kd.V_drew)); exact Kd.V_mono HO348.out (fun _ hk => ⟨hk.1.1, ⟨hk.1.2.1, ⟨hk.1.2.2.1, ⟨hk.1.2.2.2.1, ⟨hk.1.2.2.2.2.1, ⟨hk.2, hk.1.2.2.2.2.2⟩⟩⟩⟩⟩⟩)), (by (with_reducible repeat (first | apply Kd.N_alloc | apply Kd.N_drewN | apply Kd.N_drew)); exact Kd.N_mono HO351.out (fun _ hk => ⟨hk.1.1, ⟨hk.1.2.1, ⟨hk.1.2.2.1, ⟨hk.1.2.2.2.1, ⟨hk.2, hk.1.2.2.2.2⟩⟩⟩⟩⟩)), (by (with_reducible repeat (first | apply Kd.V_alloc | apply Kd.V_drewN | apply Kd.V_drew)); exact Kd.V_mono HO359.out (fun _ hk => ⟨hk.1.1, ⟨hk.1.2.1, ⟨hk.1.2.2.1, ⟨hk.1.2.2.2.1, ⟨hk.1.2.2.2.2.1, ⟨hk.2, hk.1.2.2.2.2.2⟩⟩⟩⟩⟩⟩)), (hR HO362.out), (by (with_reducible repeat (first | apply Kd.R_alloc | apply Kd.R_drewN | apply Kd.R_drew)); exact Kd.R_mono HO365.out (fun _ hk => ⟨hk.1.1, ⟨hk.1.2.1, ⟨hk.1.2.2.1, ⟨hk.1.2.2.2, hk.2⟩⟩⟩⟩)), (by (with_reducible repeat (first | apply Kd.V_alloc | apply Kd.V_drewN | apply Kd.V_drew)); exact Kd.V_mono HO370.out (fun _ hk => ⟨hk.1.1, ⟨hk.1.2.1, ⟨hk.1.2.2.1, ⟨hk.1.2.2.2.1, ⟨hk.1.2.2.2.2.1, ⟨hk.2, hk.1.2.2.2.2.2⟩⟩⟩⟩⟩⟩)), (by exact hopb HB.out)⟩)
                   ·skip
                    refine Kd.R_lit_step k65 _ 65 ?hg (N := 87) ?hd (xs := ([] : List (S65))) (inner := []) (ok := fun _ => True) (okp := fun _ => True) ?hr ?hp (fun _ hk => hk) trivial (Below.refl _ _) (Nat.le_refl _) (by simp) ?_; (case hd => rfl); (case hg => rfl); (case hr => go_simp <;> rfl); (case hp => exact (Reps.none _ _))
                    intro v364 w71 ho72 hb hg_ hnew_
                    clear hg_ hnew_
                    (first | rw [← Ny363.out] at ho72 | (simp only [Int.reduceToNat] at ho72; rw [← Ny363.out] at ho72))
                    replace HO320 := ak (Kd.N_elder' (hN HO320.out) (Kd.R_base ho72) hb)
                    replace HO348 := ak (Kd.V_elder' (by (with_reducible repeat (first | apply Kd.V_alloc | apply Kd.V_drewN | apply Kd.V_drew)); exact HO348.out) (Kd.R_base ho72) hb)
                    replace HO351 := ak (Kd.N_elder' (hN HO351.out) (Kd.R_base ho72) hb)
                    replace HO359 := ak (Kd.V_elder' (by (with_reducible repeat (first | apply Kd.V_alloc | apply Kd.V_drewN | apply Kd.V_drew)); exact HO359.out) (Kd.R_base ho72) hb)
                    replace HO370 := ak (Kd.V_elder' (by (with_reducible repeat (first | apply Kd.V_alloc | apply Kd.V_drewN | apply Kd.V_drew)); exact HO370.out) (Kd.R_base ho72) hb)
                    have HO365 := ak (Kd.R_lower (Kd.R_new' (Kd.R_new' (Kd.R_new' (Kd.R_newM (M := fun k_ => (w.heap.size ≤ k_)) ho72 (below_size (by exact hopb HB.out)) (fun k_ h_ => h_)) (Kd.R_lt (hR HO329.out))) (Kd.R_lt (hR HO333.out))) (Kd.R_lt (hR HO339.out))) (below_size (by exact hopb HB.out)))
                    replace HO329 := ak (Kd.R_elder' (hR HO329.out) (Kd.R_base ho72) hb)
                    replace HO333 := ak (Kd.R_elder' (hR HO333.out) (Kd.R_base ho72) hb)
                    replace HO339 := ak (Kd.R_elder' (hR HO339.out) (Kd.R_base ho72) hb)
                    replace HB := ak (below_step (by exact hopb HB.out) hb)
                    clear hb ho72
                    refine hK.out _ _ trivial (fun hHeld => ?_)
                    clear hK K
                    refine norm_ (a' := ?_) ?_ ?_
                    rotate_left
                    ·show Act.put _ (some 87) _ = _
                     simp only [Act.put, lT, lZ, lS, i64_w, i32_w]
                     rfl
                    refine one_ (i := 1) (N := some 82) #[T,T,T,T,U,U,T,T,T,U,U,U,U,U] rfl rfl (one_of HT_.out (by kernel_rfl)) (by decide) (fun K hK => ?_)
                    refine Kd.R_lit_step k65 _ 65 ?hg (N := 82) ?hd (xs := ([] : List (S65))) (inner := []) (ok := fun _ => True) (okp := fun _ => True) ?hr ?hp (fun _ hk => hk) trivial (Below.refl _ _) (Nat.le_refl _) (by simp) ?_; (case hd => rfl); (case hg => rfl); (case hr => go_simp <;> rfl); (case hp => exact (Reps.none _ _))
                    intro v353 w73 ho74 hb hg_ hnew_
                    clear hg_ hnew_
                    (first | rw [← Ny352.out] at ho74 | (simp only [Int.reduceToNat] at ho74; rw [← Ny352.out] at ho74))
                    replace HO320 := ak (Kd.N_elder' (hN HO320.out) (Kd.R_base ho74) hb)
                    replace HO348 := ak (Kd.V_elder' (by (with_reducible repeat (first | apply Kd.V_alloc | apply Kd.V_drewN | apply Kd.V_drew)); exact HO348.out) (Kd.R_base ho74) hb)
                    replace HO351 := ak (Kd.N_elder' (hN HO351.out) (Kd.R_base ho74) hb)
                    replace HO359 := ak (Kd.V_elder' (by (with_reducible repeat (first | apply Kd.V_alloc | apply Kd.V_drewN | apply Kd.V_drew)); exact HO359.out) (Kd.R_base ho74) hb)
                    replace HO370 := ak (Kd.V_elder' (by (with_reducible repeat (first | apply Kd.V_alloc | apply Kd.V_drewN | apply Kd.V_drew)); exact HO370.out) (Kd.R_base ho74) hb)
                    have HO354 := ak (Kd.R_lower (Kd.R_new' (Kd.R_new' (Kd.R_new' (Kd.R_new' (Kd.R_newM (M := fun k_ => (w.heap.size ≤ k_)) ho74 (below_size (by exact hopb HB.out)) (fun k_ h_ => h_)) (Kd.R_lt (hR HO329.out))) (Kd.R_lt (hR HO333.out))) (Kd.R_lt (hR HO339.out))) (Kd.R_lt (hR HO365.out))) (below_size (by exact hopb HB.out)))
                    replace HO329 := ak (Kd.R_elder' (hR HO329.out) (Kd.R_base ho74) hb)
                    replace HO333 := ak (Kd.R_elder' (hR HO333.out) (Kd.R_base ho74) hb)
                    replace HO339 := ak (Kd.R_elder' (hR HO339.out) (Kd.R_base ho74) hb)
                    replace HO365 := ak (Kd.R_elder' (hR HO365.out) (Kd.R_base ho74) hb)
                    replace HB := ak (below_step (by exact hopb HB.out) hb)
                    clear hb ho74
                    refine hK.out _ _ trivial (fun hHeld => ?_)
                    clear hK K
                    refine norm_ (a' := ?_) ?_ ?_
                    rotate_left
                    ·show Act.put _ (some 82) _ = _
                     simp only [Act.put, lT, lZ, lS, i64_w, i32_w]
                     rfl
                    refine one_ (i := 4) (N := some 85) #[T,T,T,T,T,U,T,T,T,U,U,U,U,U] rfl rfl (one_of HT_.out (by kernel_rfl)) (by decide) (fun K hK => ?_)
                    refine Kd.R_append_rows_step k65 (w0 := w) w.heap.size (by rfl) (.tmp 82) (.tmp 84) 36 65 (.agg #[(.string ⟨#[]⟩), (.int .i64 0)]) 24 rfl Try.underlying36 info65 rfl (by decide) (by omega) v353 y352 y355 _ _ _ (fun k_ => (w.heap.size ≤ k_) ∧ some k_ ≠ (.slice Ao57 t327.length co57 : Value).ownBlock ∧ some k_ ≠ (v332 : Value).ownBlock ∧ some k_ ≠ (.slice Ao61 t336.length co61 : Value).ownBlock ∧ some k_ ≠ (v364 : Value).ownBlock) (fun _ => False) rfl rfl ?aO ?aR (fun _ _ h => h) (fun _ h => h.elim) ?aF ?aB ?aS ?aL ?_
                    (case aR => exact hC (Kd.V_reads' HO359.out).2.2)
                    (case aB => exact (by exact hopb HB.out))
                    (case aF => exact (fun k_ hk => ⟨(Nat.le_trans (below_size (by exact hopb HB.out)) hk), Kd.fresh' (Kd.R_lt (hR HO329.out)) k_ hk, Kd.fresh' (Kd.R_lt (hR HO333.out)) k_ hk, Kd.fresh' (Kd.R_lt (hR HO339.out)) k_ hk, Kd.fresh' (Kd.R_lt (hR HO365.out)) k_ hk⟩))
                    (case aO => exact (by (with_reducible repeat (first | apply Kd.R_alloc | apply Kd.R_drewN | apply Kd.R_drew)); exact Kd.R_mono HO354.out (fun _ hk => ⟨hk.1.1.1.1.1, ⟨hk.1.1.1.2, ⟨hk.1.1.2, ⟨hk.1.2, hk.2⟩⟩⟩⟩)))
                    (case aS => exact (below_size (by exact hopb HB.out)))
                    (case aL => have := LMc47.out; omega)
                    intro v361 w75 ho hb hg hat
                    rw [← Ny360.out] at ho
                    replace HO320 := ak (Kd.N_afterv (ok := (fun k_ => (w.heap.size ≤ k_) ∧ some k_ ≠ (.slice Ao57 t327.length co57 : Value).ownBlock ∧ some k_ ≠ (v332 : Value).ownBlock ∧ some k_ ≠ (.slice Ao61 t336.length co61 : Value).ownBlock ∧ some k_ ≠ (.slice Ao67 y349.length co67 : Value).ownBlock ∧ some k_ ≠ (v364 : Value).ownBlock)) (by (with_reducible repeat (first | apply Kd.N_alloc | apply Kd.N_drewN | apply Kd.N_drew)); exact Kd.N_mono HO320.out (fun _ hk => ⟨⟨hk.1.1.1.1, ⟨hk.1.1.1.2.1, ⟨hk.1.1.1.2.2.1, ⟨hk.1.1.1.2.2.2, ⟨hk.1.1.2, hk.1.2⟩⟩⟩⟩⟩, hk.2⟩)) hg hat)
                    replace HO329 := ak (Kd.R_after (ok := (fun k_ => (w.heap.size ≤ k_) ∧ some k_ ≠ (v332 : Value).ownBlock ∧ some k_ ≠ (.slice Ao61 t336.length co61 : Value).ownBlock ∧ some k_ ≠ (v364 : Value).ownBlock)) (by (with_reducible repeat (first | apply Kd.R_alloc | apply Kd.R_drewN | apply Kd.R_drew)); exact Kd.R_mono HO329.out (fun _ hk => ⟨⟨hk.1.1.1.1.1, ⟨hk.1.1.1.2, ⟨hk.1.1.2, hk.1.2⟩⟩⟩, hk.2⟩)) hg hat)
                    replace HO333 := ak (Kd.R_after (ok := (fun k_ => (w.heap.size ≤ k_) ∧ some k_ ≠ (.slice Ao57 t327.length co57 : Value).ownBlock ∧ some k_ ≠ (.slice Ao61 t336.length co61 : Value).ownBlock ∧ some k_ ≠ (v364 : Value).ownBlock)) (by (with_reducible repeat (first | apply Kd.R_alloc | apply Kd.R_drewN | apply Kd.R_drew)); exact Kd.R_mono HO333.out (fun _ hk => ⟨⟨hk.1.1.1.1.1, ⟨hk.1.1.1.2, ⟨hk.1.1.2, hk.1.2⟩⟩⟩, hk.2⟩)) hg hat)
                    replace HO339 := ak (Kd.R_after (ok := (fun k_ => (w.heap.size ≤ k_) ∧ some k_ ≠ (.slice Ao57 t327.length co57 : Value).ownBlock ∧ some k_ ≠ (v332 : Value).ownBlock ∧ some k_ ≠ (v364 : Value).ownBlock)) (by (with_reducible repeat (first | apply Kd.R_alloc | apply Kd.R_drewN | apply Kd.R_drew)); exact Kd.R_mono HO339.out (fun _ hk => ⟨⟨hk.1.1.1.1.1, ⟨hk.1.1.1.2, ⟨hk.1.1.2, hk.1.2⟩⟩⟩, hk.2⟩)) hg hat)
                    replace HO348 := ak (Kd.V_afterv (ok := (fun k_ => (w.heap.size ≤ k_) ∧ some k_ ≠ (.slice Ao57 t327.length co57 : Value).ownBlock ∧ some k_ ≠ (v332 : Value).ownBlock ∧ some k_ ≠ (.slice Ao61 t336.length co61 : Value).ownBlock ∧ some k_ ≠ (.slice Ao67 y349.length co67 : Value).ownBlock ∧ some k_ ≠ (v364 : Value).ownBlock)) (by (with_reducible repeat (first | apply Kd.V_alloc | apply Kd.V_drewN | apply Kd.V_drew)); exact Kd.V_mono HO348.out (fun _ hk => ⟨⟨hk.1.1.1.1, ⟨hk.1.1.1.2.1, ⟨hk.1.1.1.2.2.1, ⟨hk.1.1.1.2.2.2, ⟨hk.1.1.2, hk.1.2⟩⟩⟩⟩⟩, hk.2⟩)) hg hat)
                    replace HO351 := ak (Kd.N_afterv (ok := (fun k_ => (w.heap.size ≤ k_) ∧ some k_ ≠ (.slice Ao57 t327.length co57 : Value).ownBlock ∧ some k_ ≠ (v332 : Value).ownBlock ∧ some k_ ≠ (.slice Ao61 t336.length co61 : Value).ownBlock ∧ some k_ ≠ (v364 : Value).ownBlock)) (by (with_reducible repeat (first | apply Kd.N_alloc | apply Kd.N_drewN | apply Kd.N_drew)); exact Kd.N_mono HO351.out (fun _ hk => ⟨⟨hk.1.1.1, ⟨hk.1.1.2.1, ⟨hk.1.1.2.2.1, ⟨hk.1.1.2.2.2, hk.1.2⟩⟩⟩⟩, hk.2⟩)) hg hat)
                    replace HO359 := ak (Kd.V_afterv (ok := (fun k_ => (w.heap.size ≤ k_) ∧ some k_ ≠ (.slice Ao65 t318.length co65 : Value).ownBlock ∧ some k_ ≠ (.slice Ao57 t327.length co57 : Value).ownBlock ∧ some k_ ≠ (v332 : Value).ownBlock ∧ some k_ ≠ (.slice Ao67 y349.length co67 : Value).ownBlock ∧ some k_ ≠ (v364 : Value).ownBlock)) (by (with_reducible repeat (first | apply Kd.V_alloc | apply Kd.V_drewN | apply Kd.V_drew)); exact Kd.V_mono HO359.out (fun _ hk => ⟨⟨hk.1.1.1.1.1.1.1, ⟨hk.1.1.1.2, ⟨hk.1.1.1.1.1.2, ⟨hk.1.1.1.1.2, ⟨hk.1.1.2, hk.1.2⟩⟩⟩⟩⟩, hk.2⟩)) hg hat)
                    replace HO370 := ak (Kd.V_afterv (ok := (fun k_ => (w.heap.size ≤ k_) ∧ some k_ ≠ (.slice Ao65 t318.length co65 : Value).ownBlock ∧ some k_ ≠ (.slice Ao57 t327.length co57 : Value).ownBlock ∧ some k_ ≠ (v332 : Value).ownBlock ∧ some k_ ≠ (.slice Ao67 y349.length co67 : Value).ownBlock ∧ some k_ ≠ (v364 : Value).ownBlock)) (by (with_reducible repeat (first | apply Kd.V_alloc | apply Kd.V_drewN | apply Kd.V_drew)); exact Kd.V_mono HO370.out (fun _ hk => ⟨⟨hk.1.1.1.1.1.1.1, ⟨hk.1.1.1.2, ⟨hk.1.1.1.1.1.2, ⟨hk.1.1.1.1.2, ⟨hk.1.1.2, hk.1.2⟩⟩⟩⟩⟩, hk.2⟩)) hg hat)
                    replace HO365 := ak (Kd.R_after (ok := (fun k_ => (w.heap.size ≤ k_) ∧ some k_ ≠ (.slice Ao57 t327.length co57 : Value).ownBlock ∧ some k_ ≠ (v332 : Value).ownBlock ∧ some k_ ≠ (.slice Ao61 t336.length co61 : Value).ownBlock)) (by (with_reducible repeat (first | apply Kd.R_alloc | apply Kd.R_drewN | apply Kd.R_drew)); exact Kd.R_mono HO365.out (fun _ hk => ⟨⟨hk.1.1.1.1.1, ⟨hk.1.1.1.2, ⟨hk.1.1.2, hk.1.2⟩⟩⟩, hk.2⟩)) hg hat)
                    replace HB := ak (hb)
                    have HO362 := ak (ho)
                    clear HO354
                    clear ho hb hg hat
                    obtain ⟨Ao76, co76, eo76⟩ := Kd.R_slice HO362.out
                    (first | subst eo76 | (injection eo76 with f1_ f2_ f3_; have f4_ := f1_.symm; have f5_ := f3_.symm; clear f1_ f2_ f3_; subst f4_; subst f5_))
                    refine hK.out _ _ trivial (fun hHeld => ?_)
                    clear hK K
                    refine norm_ (a' := ?_) ?_ ?_
                    rotate_left
                    ·show Act.put _ (some 85) _ = _
                     simp only [Act.put, lT, lZ, lS, i64_w, i32_w]
                     rfl
                    refine pu 5 (some 86) #[T,T,T,T,T,T,T,T,T,U,U,U,U,U] (any_of HT_.out (by kernel_rfl)) ?_
                    exact norm_ (by simp only [putAll, Act.put, lT, lZ, lS]) (hCont (v353, .slice Ao76 y360.length co76, v364) _ ⟨(by (with_reducible repeat (first | apply Kd.N_alloc | apply Kd.N_drewN | apply Kd.N_drew)); exact Kd.N_mono HO320.out (fun _ hk => ⟨hk.1.1, ⟨hk.1.2.1, ⟨hk.1.2.2.1, ⟨hk.1.2.2.2.1, ⟨hk.1.2.2.2.2.1, ⟨hk.2, hk.1.2.2.2.2.2⟩⟩⟩⟩⟩⟩)), (by (with_reducible repeat (first | apply Kd.R_alloc | apply Kd.R_drewN | apply Kd.R_drew)); exact Kd.R_mono HO329.out (fun _ hk => ⟨hk.1.1, ⟨hk.1.2.1, ⟨hk.1.2.2.1, ⟨hk.2, hk.1.2.2.2⟩⟩⟩⟩)), (by (with_reducible repeat (first | apply Kd.R_alloc | apply Kd.R_drewN | apply Kd.R_drew)); exact Kd.R_mono HO333.out (fun _ hk => ⟨hk.1.1, ⟨hk.1.2.1, ⟨hk.1.2.2.1, ⟨hk.2, hk.1.2.2.2⟩⟩⟩⟩)), (by (with_reducible repeat (first | apply Kd.R_alloc | apply Kd.R_drewN | apply Kd.R_drew)); exact Kd.R_mono HO339.out (fun _ hk => ⟨hk.1.1, ⟨hk.1.2.1, ⟨hk.1.2.2.1, ⟨hk.2, hk.1.2.2.2⟩⟩⟩⟩)), (by (with_reducible repeat (first | apply Kd.V_alloc | apply Kd.V_drewN | apply Kd.V_drew)); exact Kd.V_mono HO348.out (fun _ hk => ⟨hk.1.1, ⟨hk.1.2.1, ⟨hk.1.2.2.1, ⟨hk.1.2.2.2.1, ⟨hk.1.2.2.2.2.1, ⟨hk.2, hk.1.2.2.2.2.2⟩⟩⟩⟩⟩⟩)), (by (with_reducible repeat (first | apply Kd.N_alloc | apply Kd.N_drewN | apply Kd.N_drew)); exact Kd.N_mono HO351.out (fun _ hk => ⟨hk.1.1, ⟨hk.1.2.1, ⟨hk.1.2.2.1, ⟨hk.1.2.2.2.1, ⟨hk.2, hk.1.2.2.2.2⟩⟩⟩⟩⟩)), (by (with_reducible repeat (first | apply Kd.V_alloc | apply Kd.V_drewN | apply Kd.V_drew)); exact Kd.V_mono HO359.out (fun _ hk => ⟨hk.1.1, ⟨hk.1.2.1, ⟨hk.1.2.2.1, ⟨hk.1.2.2.2.1, ⟨hk.1.2.2.2.2.1, ⟨hk.2, hk.1.2.2.2.2.2⟩⟩⟩⟩⟩⟩)), (hR HO362.out), (by (with_reducible repeat (first | apply Kd.R_alloc | apply Kd.R_drewN | apply Kd.R_drew)); exact Kd.R_mono HO365.out (fun _ hk => ⟨hk.1.1, ⟨hk.1.2.1, ⟨hk.1.2.2.1, ⟨hk.1.2.2.2, hk.2⟩⟩⟩⟩)), (by (with_reducible repeat (first | apply Kd.V_alloc | apply Kd.V_drewN | apply Kd.V_drew)); exact Kd.V_mono HO370.out (fun _ hk => ⟨hk.1.1, ⟨hk.1.2.1, ⟨hk.1.2.2.1, ⟨hk.1.2.2.2.1, ⟨hk.1.2.2.2.2.1, ⟨hk.2, hk.1.2.2.2.2.2⟩⟩⟩⟩⟩⟩)), (by exact hopb HB.out)⟩)
                  rintro ⟨v353, v361, v364⟩ w77 ⟨h0_, h1_, h2_, h3_, h4_, h5_, h6_, h7_, h8_, h9_, h10_⟩
                  have n0_ : Aside0 (Kd.N k53 53 w77 w.heap.size (fun k_ => (w.heap.size ≤ k_) ∧ some k_ ≠ (.slice Ao57 t327.length co57 : Value).ownBlock ∧ some k_ ≠ (v332 : Value).ownBlock ∧ some k_ ≠ (.slice Ao61 t336.length co61 : Value).ownBlock ∧ some k_ ≠ (.slice Ao67 y349.length co67 : Value).ownBlock ∧ some k_ ≠ (v361 : Value).ownBlock ∧ some k_ ≠ (v364 : Value).ownBlock) (.slice Ao65 t318.length co65) t318) := ⟨h0_⟩
                  have n1_ : Aside0 (Kd.R k65 65 w77 w.heap.size (fun k_ => (w.heap.size ≤ k_) ∧ some k_ ≠ (v332 : Value).ownBlock ∧ some k_ ≠ (.slice Ao61 t336.length co61 : Value).ownBlock ∧ some k_ ≠ (v361 : Value).ownBlock ∧ some k_ ≠ (v364 : Value).ownBlock) (.slice Ao57 t327.length co57) t327) := ⟨h1_⟩
                  have n2_ : Aside0 (Kd.R k65 65 w77 w.heap.size (fun k_ => (w.heap.size ≤ k_) ∧ some k_ ≠ (.slice Ao57 t327.length co57 : Value).ownBlock ∧ some k_ ≠ (.slice Ao61 t336.length co61 : Value).ownBlock ∧ some k_ ≠ (v361 : Value).ownBlock ∧ some k_ ≠ (v364 : Value).ownBlock) v332 t330) := ⟨h2_⟩
                  have n3_ : Aside0 (Kd.R k65 65 w77 w.heap.size (fun k_ => (w.heap.size ≤ k_) ∧ some k_ ≠ (.slice Ao57 t327.length co57 : Value).ownBlock ∧ some k_ ≠ (v332 : Value).ownBlock ∧ some k_ ≠ (v361 : Value).ownBlock ∧ some k_ ≠ (v364 : Value).ownBlock) (.slice Ao61 t336.length co61) t336) := ⟨h3_⟩
                  have n4_ : Aside0 (Kd.V k53 53 w77 w.heap.size (fun k_ => (w.heap.size ≤ k_) ∧ some k_ ≠ (.slice Ao57 t327.length co57 : Value).ownBlock ∧ some k_ ≠ (v332 : Value).ownBlock ∧ some k_ ≠ (.slice Ao61 t336.length co61 : Value).ownBlock ∧ some k_ ≠ (.slice Ao67 y349.length co67 : Value).ownBlock ∧ some k_ ≠ (v361 : Value).ownBlock ∧ some k_ ≠ (v364 : Value).ownBlock) (.slice Ao65 y344.length co65) y344) := ⟨h4_⟩
                  have n5_ : Aside0 (Kd.N k53 53 w77 w.heap.size (fun k_ => (w.heap.size ≤ k_) ∧ some k_ ≠ (.slice Ao57 t327.length co57 : Value).ownBlock ∧ some k_ ≠ (v332 : Value).ownBlock ∧ some k_ ≠ (.slice Ao61 t336.length co61 : Value).ownBlock ∧ some k_ ≠ (v361 : Value).ownBlock ∧ some k_ ≠ (v364 : Value).ownBlock) (.slice Ao67 y349.length co67) y349) := ⟨h5_⟩
                  have n6_ : Aside0 (Kd.V k65 65 w77 w.heap.size (fun k_ => (w.heap.size ≤ k_) ∧ some k_ ≠ (.slice Ao65 t318.length co65 : Value).ownBlock ∧ some k_ ≠ (.slice Ao57 t327.length co57 : Value).ownBlock ∧ some k_ ≠ (v332 : Value).ownBlock ∧ some k_ ≠ (.slice Ao67 y349.length co67 : Value).ownBlock ∧ some k_ ≠ (v361 : Value).ownBlock ∧ some k_ ≠ (v364 : Value).ownBlock) (.slice Ao61 y355.length co61) y355) := ⟨h6_⟩
                  have n7_ : Aside0 (Kd.R k65 65 w77 w.heap.size (fun k_ => (w.heap.size ≤ k_) ∧ some k_ ≠ (.slice Ao57 t327.length co57 : Value).ownBlock ∧ some k_ ≠ (v332 : Value).ownBlock ∧ some k_ ≠ (.slice Ao61 t336.length co61 : Value).ownBlock ∧ some k_ ≠ (v364 : Value).ownBlock) v361 y360) := ⟨h7_⟩
                  have n8_ : Aside0 (Kd.R k65 65 w77 w.heap.size (fun k_ => (w.heap.size ≤ k_) ∧ some k_ ≠ (.slice Ao57 t327.length co57 : Value).ownBlock ∧ some k_ ≠ (v332 : Value).ownBlock ∧ some k_ ≠ (.slice Ao61 t336.length co61 : Value).ownBlock ∧ some k_ ≠ (v361 : Value).ownBlock) v364 y363) := ⟨h8_⟩
                  have n9_ : Aside0 (Kd.V k65 65 w77 w.heap.size (fun k_ => (w.heap.size ≤ k_) ∧ some k_ ≠ (.slice Ao65 t318.length co65 : Value).ownBlock ∧ some k_ ≠ (.slice Ao57 t327.length co57 : Value).ownBlock ∧ some k_ ≠ (v332 : Value).ownBlock ∧ some k_ ≠ (.slice Ao67 y349.length co67 : Value).ownBlock ∧ some k_ ≠ (v361 : Value).ownBlock ∧ some k_ ≠ (v364 : Value).ownBlock) (.slice A70 y366.length c70) y366) := ⟨h9_⟩
                  have n10_ : Aside0 (Below w.heap.size w w77) := ⟨h10_⟩
                  clear HO320
                  clear HO329
                  clear HO333
                  clear HO339
                  clear HO348
                  clear HO351
                  clear HB
                  clear h0_ h1_ h2_ h3_ h4_ h5_ h6_ h7_ h8_ h9_ h10_
                  have HO320 := n0_
                  have HO329 := n1_
                  have HO333 := n2_
                  have HO339 := n3_
                  have HO348 := n4_
                  have HO351 := n5_
                  have HO359 := n6_
                  have HO362 := n7_
                  have HO365 := n8_
                  have HO370 := n9_
                  have HB := n10_
                  clear n0_ n1_ n2_ n3_ n4_ n5_ n6_ n7_ n8_ n9_ n10_
                  have hHeld := trivial
                  obtain ⟨Ao78, co78, eo78⟩ := Kd.R_slice HO362.out
                  (first | subst eo78 | (injection eo78 with f1_ f2_ f3_; have f4_ := f1_.symm; have f5_ := f3_.symm; clear f1_ f2_ f3_; subst f4_; subst f5_))
                  refine norm_ (a' := ?_) ?_ ?_
                  rotate_left
                  ·simp only [putAll, Act.put, lT, lZ, lS]
                   rfl
                  refine one_ (i := 9) (N := some 90) #[T,T,T,T,T,T,T,T,T,T,U,U,U,U] rfl rfl (one_of HT_.out (by kernel_rfl)) (by decide) (fun K hK => ?_)
                  refine Kd.R_append_rows_step k65 (w0 := w) w.heap.size (by rfl) (.tmp 87) (.tmp 89) 36 65 (.agg #[(.string ⟨#[]⟩), (.int .i64 0)]) 24 rfl Try.underlying36 info65 rfl (by decide) (by omega) v364 y363 y366 _ _ _ (fun k_ => (w.heap.size ≤ k_) ∧ some k_ ≠ (.slice Ao57 t327.length co57 : Value).ownBlock ∧ some k_ ≠ (v332 : Value).ownBlock ∧ some k_ ≠ (.slice Ao61 t336.length co61 : Value).ownBlock ∧ some k_ ≠ (.slice Ao78 y360.length co78 : Value).ownBlock) (fun _ => False) rfl rfl ?aO ?aR (fun _ _ h => h) (fun _ h => h.elim) ?aF ?aB ?aS ?aL ?_
                  (case aR => exact hC (Kd.V_reads' HO370.out).2.2)
                  (case aB => exact (by exact hopb HB.out))
                  (case aF => exact (fun k_ hk => ⟨(Nat.le_trans (below_size (by exact hopb HB.out)) hk), Kd.fresh' (Kd.R_lt (hR HO329.out)) k_ hk, Kd.fresh' (Kd.R_lt (hR HO333.out)) k_ hk, Kd.fresh' (Kd.R_lt (hR HO339.out)) k_ hk, Kd.fresh' (Kd.R_lt (hR HO362.out)) k_ hk⟩))
                  (case aO => exact (hR HO365.out))
                  (case aS => exact (below_size (by exact hopb HB.out)))
                  (case aL => have := LMc49.out; omega)
                  intro v372 w79 ho hb hg hat
                  rw [← Ny371.out] at ho
                  replace HO320 := ak (Kd.N_afterv (ok := (fun k_ => (w.heap.size ≤ k_) ∧ some k_ ≠ (.slice Ao57 t327.length co57 : Value).ownBlock ∧ some k_ ≠ (v332 : Value).ownBlock ∧ some k_ ≠ (.slice Ao61 t336.length co61 : Value).ownBlock ∧ some k_ ≠ (.slice Ao67 y349.length co67 : Value).ownBlock ∧ some k_ ≠ (.slice Ao78 y360.length co78 : Value).ownBlock)) (by (with_reducible repeat (first | apply Kd.N_alloc | apply Kd.N_drewN | apply Kd.N_drew)); exact Kd.N_mono HO320.out (fun _ hk => ⟨⟨hk.1, ⟨hk.2.1, ⟨hk.2.2.1, ⟨hk.2.2.2.1, ⟨hk.2.2.2.2.1, hk.2.2.2.2.2.1⟩⟩⟩⟩⟩, hk.2.2.2.2.2.2⟩)) hg hat)
                  replace HO329 := ak (Kd.R_after (ok := (fun k_ => (w.heap.size ≤ k_) ∧ some k_ ≠ (v332 : Value).ownBlock ∧ some k_ ≠ (.slice Ao61 t336.length co61 : Value).ownBlock ∧ some k_ ≠ (.slice Ao78 y360.length co78 : Value).ownBlock)) (by (with_reducible repeat (first | apply Kd.R_alloc | apply Kd.R_drewN | apply Kd.R_drew)); exact Kd.R_mono HO329.out (fun _ hk => ⟨⟨hk.1, ⟨hk.2.1, ⟨hk.2.2.1, hk.2.2.2.1⟩⟩⟩, hk.2.2.2.2⟩)) hg hat)
                  replace HO333 := ak (Kd.R_after (ok := (fun k_ => (w.heap.size ≤ k_) ∧ some k_ ≠ (.slice Ao57 t327.length co57 : Value).ownBlock ∧ some k_ ≠ (.slice Ao61 t336.length co61 : Value).ownBlock ∧ some k_ ≠ (.slice Ao78 y360.length co78 : Value).ownBlock)) (by (with_reducible repeat (first | apply Kd.R_alloc | apply Kd.R_drewN | apply Kd.R_drew)); exact Kd.R_mono HO333.out (fun _ hk => ⟨⟨hk.1, ⟨hk.2.1, ⟨hk.2.2.1, hk.2.2.2.1⟩⟩⟩, hk.2.2.2.2⟩)) hg hat)
                  replace HO339 := ak (Kd.R_after (ok := (fun k_ => (w.heap.size ≤ k_) ∧ some k_ ≠ (.slice Ao57 t327.length co57 : Value).ownBlock ∧ some k_ ≠ (v332 : Value).ownBlock ∧ some k_ ≠ (.slice Ao78 y360.length co78 : Value).ownBlock)) (by (with_reducible repeat (first | apply Kd.R_alloc | apply Kd.R_drewN | apply Kd.R_drew)); exact Kd.R_mono HO339.out (fun _ hk => ⟨⟨hk.1, ⟨hk.2.1, ⟨hk.2.2.1, hk.2.2.2.1⟩⟩⟩, hk.2.2.2.2⟩)) hg hat)
                  replace HO348 := ak (Kd.V_afterv (ok := (fun k_ => (w.heap.size ≤ k_) ∧ some k_ ≠ (.slice Ao57 t327.length co57 : Value).ownBlock ∧ some k_ ≠ (v332 : Value).ownBlock ∧ some k_ ≠ (.slice Ao61 t336.length co61 : Value).ownBlock ∧ some k_ ≠ (.slice Ao67 y349.length co67 : Value).ownBlock ∧ some k_ ≠ (.slice Ao78 y360.length co78 : Value).ownBlock)) (by (with_reducible repeat (first | apply Kd.V_alloc | apply Kd.V_drewN | apply Kd.V_drew)); exact Kd.V_mono HO348.out (fun _ hk => ⟨⟨hk.1, ⟨hk.2.1, ⟨hk.2.2.1, ⟨hk.2.2.2.1, ⟨hk.2.2.2.2.1, hk.2.2.2.2.2.1⟩⟩⟩⟩⟩, hk.2.2.2.2.2.2⟩)) hg hat)
                  replace HO351 := ak (Kd.N_afterv (ok := (fun k_ => (w.heap.size ≤ k_) ∧ some k_ ≠ (.slice Ao57 t327.length co57 : Value).ownBlock ∧ some k_ ≠ (v332 : Value).ownBlock ∧ some k_ ≠ (.slice Ao61 t336.length co61 : Value).ownBlock ∧ some k_ ≠ (.slice Ao78 y360.length co78 : Value).ownBlock)) (by (with_reducible repeat (first | apply Kd.N_alloc | apply Kd.N_drewN | apply Kd.N_drew)); exact Kd.N_mono HO351.out (fun _ hk => ⟨⟨hk.1, ⟨hk.2.1, ⟨hk.2.2.1, ⟨hk.2.2.2.1, hk.2.2.2.2.1⟩⟩⟩⟩, hk.2.2.2.2.2⟩)) hg hat)
                  replace HO359 := ak (Kd.V_afterv (ok := (fun k_ => (w.heap.size ≤ k_) ∧ some k_ ≠ (.slice Ao65 t318.length co65 : Value).ownBlock ∧ some k_ ≠ (.slice Ao57 t327.length co57 : Value).ownBlock ∧ some k_ ≠ (v332 : Value).ownBlock ∧ some k_ ≠ (.slice Ao67 y349.length co67 : Value).ownBlock ∧ some k_ ≠ (.slice Ao78 y360.length co78 : Value).ownBlock)) (by (with_reducible repeat (first | apply Kd.V_alloc | apply Kd.V_drewN | apply Kd.V_drew)); exact Kd.V_mono HO359.out (fun _ hk => ⟨⟨hk.1, ⟨hk.2.1, ⟨hk.2.2.1, ⟨hk.2.2.2.1, ⟨hk.2.2.2.2.1, hk.2.2.2.2.2.1⟩⟩⟩⟩⟩, hk.2.2.2.2.2.2⟩)) hg hat)
                  replace HO370 := ak (Kd.V_afterv (ok := (fun k_ => (w.heap.size ≤ k_) ∧ some k_ ≠ (.slice Ao65 t318.length co65 : Value).ownBlock ∧ some k_ ≠ (.slice Ao57 t327.length co57 : Value).ownBlock ∧ some k_ ≠ (v332 : Value).ownBlock ∧ some k_ ≠ (.slice Ao67 y349.length co67 : Value).ownBlock ∧ some k_ ≠ (.slice Ao78 y360.length co78 : Value).ownBlock)) (by (with_reducible repeat (first | apply Kd.V_alloc | apply Kd.V_drewN | apply Kd.V_drew)); exact Kd.V_mono HO370.out (fun _ hk => ⟨⟨hk.1, ⟨hk.2.1, ⟨hk.2.2.1, ⟨hk.2.2.2.1, ⟨hk.2.2.2.2.1, hk.2.2.2.2.2.1⟩⟩⟩⟩⟩, hk.2.2.2.2.2.2⟩)) hg hat)
                  replace HO362 := ak (Kd.R_after (ok := (fun k_ => (w.heap.size ≤ k_) ∧ some k_ ≠ (.slice Ao57 t327.length co57 : Value).ownBlock ∧ some k_ ≠ (v332 : Value).ownBlock ∧ some k_ ≠ (.slice Ao61 t336.length co61 : Value).ownBlock)) (by (with_reducible repeat (first | apply Kd.R_alloc | apply Kd.R_drewN | apply Kd.R_drew)); exact Kd.R_mono HO362.out (fun _ hk => ⟨⟨hk.1, ⟨hk.2.1, ⟨hk.2.2.1, hk.2.2.2.1⟩⟩⟩, hk.2.2.2.2⟩)) hg hat)
                  replace HB := ak (hb)
                  have HO373 := ak (ho)
                  clear HO365
                  clear ho hb hg hat
                  obtain ⟨Ao80, co80, eo80⟩ := Kd.R_slice HO373.out
                  (first | subst eo80 | (injection eo80 with f1_ f2_ f3_; have f4_ := f1_.symm; have f5_ := f3_.symm; clear f1_ f2_ f3_; subst f4_; subst f5_))
                  refine hK.out _ _ trivial (fun hHeld => ?_)
                  clear hK K
                  refine norm_ (a' := ?_) ?_ ?_
                  rotate_left
                  ·show Act.put _ (some 90) _ = _
                   simp only [Act.put, lT, lZ, lS, i64_w, i32_w]
                   rfl
                  refine pu 10 (some 91) #[T,T,T,T,T,T,T,T,T,T,T,U,U,U] (any_of HT_.out (by kernel_rfl)) ?_
                  refine one_ (i := 11) (N := some 92) #[T,T,T,T,T,T,T,T,T,T,T,T,U,U] rfl rfl (one_of HT_.out (by kernel_rfl)) (by decide) (fun K hK => ?_)
                  refine Kd.N_lit_step k53 _ 53 ?hg (N' := 92) ?hd (xs := ([(⟨y360⟩ : S53), (⟨y371⟩ : S53)] : List (S53))) (inner := [.slice Ao78 y360.length co78, .slice Ao80 y371.length co80]) (ok := (fun k_ => (w.heap.size ≤ k_) ∧ some k_ ≠ (.slice Ao65 t318.length co65 : Value).ownBlock ∧ some k_ ≠ (.slice Ao57 t327.length co57 : Value).ownBlock ∧ some k_ ≠ (v332 : Value).ownBlock ∧ some k_ ≠ (.slice Ao61 t336.length co61 : Value).ownBlock ∧ some k_ ≠ (.slice Ao67 y349.length co67 : Value).ownBlock)) (okp := (fun k_ => (w.heap.size ≤ k_) ∧ some k_ ≠ (.slice Ao65 t318.length co65 : Value).ownBlock ∧ some k_ ≠ (.slice Ao57 t327.length co57 : Value).ownBlock ∧ some k_ ≠ (v332 : Value).ownBlock ∧ some k_ ≠ (.slice Ao61 t336.length co61 : Value).ownBlock ∧ some k_ ≠ (.slice Ao67 y349.length co67 : Value).ownBlock)) ?hr ?hp (fun _ hk => hk) ((show ∀ k_, w79.heap.size ≤ k_ → (fun k_ => (w.heap.size ≤ k_) ∧ some k_ ≠ (.slice Ao65 t318.length co65 : Value).ownBlock ∧ some k_ ≠ (.slice Ao57 t327.length co57 : Value).ownBlock ∧ some k_ ≠ (v332 : Value).ownBlock ∧ some k_ ≠ (.slice Ao61 t336.length co61 : Value).ownBlock ∧ some k_ ≠ (.slice Ao67 y349.length co67 : Value).ownBlock) k_ from fun k_ hk => ⟨(Nat.le_trans (below_size (by exact hopb HB.out)) hk), Kd.fresh' (Kd.N_lt (hN HO320.out)) k_ hk, Kd.fresh' (Kd.R_lt (hR HO329.out)) k_ hk, Kd.fresh' (Kd.R_lt (hR HO333.out)) k_ hk, Kd.fresh' (Kd.R_lt (hR HO339.out)) k_ hk, Kd.fresh' (Kd.N_lt (hN HO351.out)) k_ hk⟩) _ (Nat.le_refl _)) (Below.refl _ _) (Nat.le_refl _) (by simp) ?_; (case hd => rfl); (case hg => rfl); (case hr => go_simp <;> rfl); (case hp => exact (Reps.one (show Kd.FK k53 _ _ (⟨y360⟩ : S53) [.slice Ao78 y360.length co78] from (k53_mkF _ _ (⟨y360⟩ : S53) (Kd.R_reads' (Kd.R_mono (ok' := (fun k_ => (w.heap.size ≤ k_) ∧ some k_ ≠ (.slice Ao65 t318.length co65 : Value).ownBlock ∧ some k_ ≠ (.slice Ao57 t327.length co57 : Value).ownBlock ∧ some k_ ≠ (v332 : Value).ownBlock ∧ some k_ ≠ (.slice Ao61 t336.length co61 : Value).ownBlock ∧ some k_ ≠ (.slice Ao67 y349.length co67 : Value).ownBlock)) (Kd.R_apart' (Kd.R_apart' (HO362.out) (Kd.N_typed HO320.out) (by decide)) (Kd.N_typed HO351.out) (by decide)) (fun k_ hk => ⟨hk.1.1.1.1, ⟨hk.1.2, ⟨hk.1.1.1.2.1, ⟨hk.1.1.1.2.2.1, ⟨hk.1.1.1.2.2.2, hk.2⟩⟩⟩⟩⟩))).2.1 (Kd.R_F (Kd.R_mono (ok' := (fun k_ => (w.heap.size ≤ k_) ∧ some k_ ≠ (.slice Ao65 t318.length co65 : Value).ownBlock ∧ some k_ ≠ (.slice Ao57 t327.length co57 : Value).ownBlock ∧ some k_ ≠ (v332 : Value).ownBlock ∧ some k_ ≠ (.slice Ao61 t336.length co61 : Value).ownBlock ∧ some k_ ≠ (.slice Ao67 y349.length co67 : Value).ownBlock)) (Kd.R_apart' (Kd.R_apart' (HO362.out) (Kd.N_typed HO320.out) (by decide)) (Kd.N_typed HO351.out) (by decide)) (fun k_ hk => ⟨hk.1.1.1.1, ⟨hk.1.2, ⟨hk.1.1.1.2.1, ⟨hk.1.1.1.2.2.1, ⟨hk.1.1.1.2.2.2, hk.2⟩⟩⟩⟩⟩))))) (Reps.one (show Kd.FK k53 _ _ (⟨y371⟩ : S53) [.slice Ao80 y371.length co80] from (k53_mkF _ _ (⟨y371⟩ : S53) (Kd.R_reads' (Kd.R_mono (ok' := (fun k_ => (w.heap.size ≤ k_) ∧ some k_ ≠ (.slice Ao65 t318.length co65 : Value).ownBlock ∧ some k_ ≠ (.slice Ao57 t327.length co57 : Value).ownBlock ∧ some k_ ≠ (v332 : Value).ownBlock ∧ some k_ ≠ (.slice Ao61 t336.length co61 : Value).ownBlock ∧ some k_ ≠ (.slice Ao67 y349.length co67 : Value).ownBlock)) (Kd.R_apart' (Kd.R_apart' (HO373.out) (Kd.N_typed HO320.out) (by decide)) (Kd.N_typed HO351.out) (by decide)) (fun k_ hk => ⟨hk.1.1.1, ⟨hk.1.2, ⟨hk.1.1.2.1, ⟨hk.1.1.2.2.1, ⟨hk.1.1.2.2.2.1, hk.2⟩⟩⟩⟩⟩))).2.1 (Kd.R_F (Kd.R_mono (ok' := (fun k_ => (w.heap.size ≤ k_) ∧ some k_ ≠ (.slice Ao65 t318.length co65 : Value).ownBlock ∧ some k_ ≠ (.slice Ao57 t327.length co57 : Value).ownBlock ∧ some k_ ≠ (v332 : Value).ownBlock ∧ some k_ ≠ (.slice Ao61 t336.length co61 : Value).ownBlock ∧ some k_ ≠ (.slice Ao67 y349.length co67 : Value).ownBlock)) (Kd.R_apart' (Kd.R_apart' (HO373.out) (Kd.N_typed HO320.out) (by decide)) (Kd.N_typed HO351.out) (by decide)) (fun k_ hk => ⟨hk.1.1.1, ⟨hk.1.2, ⟨hk.1.1.2.1, ⟨hk.1.1.2.2.1, ⟨hk.1.1.2.2.2.1, hk.2⟩⟩⟩⟩⟩))))) (Reps.none _ _))))
                  intro v375 w81 ho82 hb hg_ hnew_
                  clear hg_ hnew_
                  (first | rw [← Ny374.out] at ho82 | (simp only [Int.reduceToNat] at ho82; rw [← Ny374.out] at ho82))
                  replace HO320 := ak (Kd.N_elder' (hN HO320.out) (Kd.N_base ho82) hb)
                  replace HO329 := ak (Kd.R_below (hR HO329.out) hb)
                  replace HO333 := ak (Kd.R_below (hR HO333.out) hb)
                  replace HO339 := ak (Kd.R_below (hR HO339.out) hb)
                  replace HO348 := ak (Kd.V_elder' (by (with_reducible repeat (first | apply Kd.V_alloc | apply Kd.V_drewN | apply Kd.V_drew)); exact HO348.out) (Kd.N_base ho82) hb)
                  replace HO351 := ak (Kd.N_elder' (hN HO351.out) (Kd.N_base ho82) hb)
                  replace HO359 := ak (Kd.V_elder' (by (with_reducible repeat (first | apply Kd.V_alloc | apply Kd.V_drewN | apply Kd.V_drew)); exact HO359.out) (Kd.N_base ho82) hb)
                  replace HO370 := ak (Kd.V_elder' (by (with_reducible repeat (first | apply Kd.V_alloc | apply Kd.V_drewN | apply Kd.V_drew)); exact HO370.out) (Kd.N_base ho82) hb)
                  have HO376 := ak (Kd.N_lower ho82 (below_size (by exact hopb HB.out)))
                  replace HB := ak (below_step (by exact hopb HB.out) hb)
                  clear HO362 HO373
                  clear hb ho82
                  obtain ⟨Ao84, co84, eo84⟩ := Kd.N_slice HO376.out
                  (first | subst eo84 | (injection eo84 with f1_ f2_ f3_; have f4_ := f1_.symm; have f5_ := f3_.symm; clear f1_ f2_ f3_; subst f4_; subst f5_))
                  refine hK.out _ _ trivial (fun hHeld => ?_)
                  clear hK K
                  refine norm_ (a' := ?_) ?_ ?_
                  rotate_left
                  ·show Act.put _ (some 92) _ = _
                   simp only [Act.put, lT, lZ, lS, i64_w, i32_w]
                   rfl
                  refine one_ (i := 12) (N := some 93) #[T,T,T,T,T,T,T,T,T,T,T,T,T,U] rfl rfl (one_of HT_.out (by kernel_rfl)) (by decide) (fun K hK => ?_)
                  refine Kd.N_append_rows_step k53 (w0 := w) w.heap.size (by rfl) (.tmp 81) (.tmp 92) 24 53 (.agg #[(.slice none 0 0)]) 24 rfl Try.underlying24 info53 rfl (by decide) (by omega) (.slice Ao67 y349.length co67) y349 y374 _ _ _ (fun k_ => (w.heap.size ≤ k_) ∧ some k_ ≠ (.slice Ao57 t327.length co57 : Value).ownBlock ∧ some k_ ≠ (v332 : Value).ownBlock ∧ some k_ ≠ (.slice Ao61 t336.length co61 : Value).ownBlock) (fun k_ => ((fun k_ => (w.heap.size ≤ k_) ∧ some k_ ≠ (.slice Ao57 t327.length co57 : Value).ownBlock ∧ some k_ ≠ (v332 : Value).ownBlock ∧ some k_ ≠ (.slice Ao61 t336.length co61 : Value).ownBlock)) k_ ∧ some k_ ≠ (.slice Ao67 y349.length co67 : Value).ownBlock) rfl rfl ?aO ?aR (fun _ hk => hk) ?aF ?aB ?aS ?aL ?_
                  (case aR => exact (by skip; exact Kd.N_F (Kd.N_mono (ok' := (fun k_ => ((fun k_ => (w.heap.size ≤ k_) ∧ some k_ ≠ (.slice Ao57 t327.length co57 : Value).ownBlock ∧ some k_ ≠ (v332 : Value).ownBlock ∧ some k_ ≠ (.slice Ao61 t336.length co61 : Value).ownBlock)) k_ ∧ some k_ ≠ (.slice Ao67 y349.length co67 : Value).ownBlock)) (HO376.out) (fun k_ hk => ⟨⟨hk.1, ⟨hk.2.2.1, ⟨hk.2.2.2.1, hk.2.2.2.2.1⟩⟩⟩, hk.2.2.2.2.2⟩))))
                  (case aB => exact (by exact hopb HB.out))
                  (case aF => exact (fun k_ hk => ⟨(Nat.le_trans (below_size (by exact hopb HB.out)) hk), Kd.fresh' (Kd.R_lt (hR HO329.out)) k_ hk, Kd.fresh' (Kd.R_lt (hR HO333.out)) k_ hk, Kd.fresh' (Kd.R_lt (hR HO339.out)) k_ hk⟩))
                  (case aO => exact (by (with_reducible repeat (first | apply Kd.N_alloc | apply Kd.N_drewN | apply Kd.N_drew)); exact Kd.N_mono HO351.out (fun _ hk => ⟨hk.1.1.1, ⟨hk.1.1.2.1, ⟨hk.1.1.2.2.1, hk.1.1.2.2.2.1⟩⟩⟩)))
                  (case aS => exact (below_size (by exact hopb HB.out)))
                  (case aL => have := LMc50.out; omega)
                  intro v378 w83 ho hb hg hat
                  rw [← Ny377.out] at ho
                  replace HO320 := ak (Kd.N_afterv (ok := (fun k_ => (w.heap.size ≤ k_) ∧ some k_ ≠ (.slice Ao57 t327.length co57 : Value).ownBlock ∧ some k_ ≠ (v332 : Value).ownBlock ∧ some k_ ≠ (.slice Ao61 t336.length co61 : Value).ownBlock ∧ some k_ ≠ (.slice Ao84 y374.length co84 : Value).ownBlock)) (by (with_reducible repeat (first | apply Kd.N_alloc | apply Kd.N_drewN | apply Kd.N_drew)); exact Kd.N_mono HO320.out (fun _ hk => ⟨⟨hk.1.1.1, ⟨hk.1.1.2.1, ⟨hk.1.1.2.2.1, ⟨hk.1.1.2.2.2.1, hk.2⟩⟩⟩⟩, hk.1.1.2.2.2.2.1⟩)) hg hat)
                  replace HO329 := ak (Kd.R_over' (hR HO329.out) (Kd.N_typed (hN HO351.out)) (by decide) hg)
                  replace HO333 := ak (Kd.R_over' (hR HO333.out) (Kd.N_typed (hN HO351.out)) (by decide) hg)
                  replace HO339 := ak (Kd.R_over' (hR HO339.out) (Kd.N_typed (hN HO351.out)) (by decide) hg)
                  replace HO348 := ak (Kd.V_afterv (ok := (fun k_ => (w.heap.size ≤ k_) ∧ some k_ ≠ (.slice Ao57 t327.length co57 : Value).ownBlock ∧ some k_ ≠ (v332 : Value).ownBlock ∧ some k_ ≠ (.slice Ao61 t336.length co61 : Value).ownBlock ∧ some k_ ≠ (.slice Ao84 y374.length co84 : Value).ownBlock)) (by (with_reducible repeat (first | apply Kd.V_alloc | apply Kd.V_drewN | apply Kd.V_drew)); exact Kd.V_mono HO348.out (fun _ hk => ⟨⟨hk.1.1.1, ⟨hk.1.1.2.1, ⟨hk.1.1.2.2.1, ⟨hk.1.1.2.2.2.1, hk.2⟩⟩⟩⟩, hk.1.1.2.2.2.2.1⟩)) hg hat)
                  replace HO359 := ak (Kd.V_afterv (ok := (fun k_ => (w.heap.size ≤ k_) ∧ some k_ ≠ (.slice Ao65 t318.length co65 : Value).ownBlock ∧ some k_ ≠ (.slice Ao57 t327.length co57 : Value).ownBlock ∧ some k_ ≠ (v332 : Value).ownBlock ∧ some k_ ≠ (.slice Ao84 y374.length co84 : Value).ownBlock)) (by (with_reducible repeat (first | apply Kd.V_alloc | apply Kd.V_drewN | apply Kd.V_drew)); exact Kd.V_mono HO359.out (fun _ hk => ⟨⟨hk.1.1.1, ⟨hk.1.1.2.1, ⟨hk.1.1.2.2.1, ⟨hk.1.1.2.2.2.1, hk.2⟩⟩⟩⟩, hk.1.1.2.2.2.2.1⟩)) hg hat)
                  replace HO370 := ak (Kd.V_afterv (ok := (fun k_ => (w.heap.size ≤ k_) ∧ some k_ ≠ (.slice Ao65 t318.length co65 : Value).ownBlock ∧ some k_ ≠ (.slice Ao57 t327.length co57 : Value).ownBlock ∧ some k_ ≠ (v332 : Value).ownBlock ∧ some k_ ≠ (.slice Ao84 y374.length co84 : Value).ownBlock)) (by (with_reducible repeat (first | apply Kd.V_alloc | apply Kd.V_drewN | apply Kd.V_drew)); exact Kd.V_mono HO370.out (fun _ hk => ⟨⟨hk.1.1.1, ⟨hk.1.1.2.1, ⟨hk.1.1.2.2.1, ⟨hk.1.1.2.2.2.1, hk.2⟩⟩⟩⟩, hk.1.1.2.2.2.2.1⟩)) hg hat)
                  replace HO376 := ak (Kd.N_afterv (ok := (fun k_ => (w.heap.size ≤ k_) ∧ some k_ ≠ (.slice Ao65 t318.length co65 : Value).ownBlock ∧ some k_ ≠ (.slice Ao57 t327.length co57 : Value).ownBlock ∧ some k_ ≠ (v332 : Value).ownBlock ∧ some k_ ≠ (.slice Ao61 t336.length co61 : Value).ownBlock)) (by (with_reducible repeat (first | apply Kd.N_alloc | apply Kd.N_drewN | apply Kd.N_drew)); exact Kd.N_mono HO376.out (fun _ hk => ⟨⟨hk.1, ⟨hk.2.1, ⟨hk.2.2.1, ⟨hk.2.2.2.1, hk.2.2.2.2.1⟩⟩⟩⟩, hk.2.2.2.2.2⟩)) hg hat)
                  replace HB := ak (hb)
                  have HO379 := ak (ho)
                  clear HO351
                  clear ho hb hg hat
                  refine hK.out _ _ trivial (fun hHeld => ?_)
                  clear hK K
                  refine norm_ (a' := ?_) ?_ ?_
                  rotate_left
                  ·show Act.put _ (some 93) _ = _
                   simp only [Act.put, lT, lZ, lS, i64_w, i32_w]
                   rfl
                  refine pu 13 (some 14) #[T,T,T,T,T,T,T,T,T,T,T,T,T,T] (any_of HT_.out (by kernel_rfl)) ?_
                  refine done_ (done_of HT_.out (by kernel_rfl)) ?_
                  have q85 : ((ji51) : Int) ≤ ((t318.length : Int) : Int) := of_decide_eq_true (by assumption)
                  obtain ⟨i085, hi085, _, hsz85, _⟩ := info_parts info53
                  have hroom85 : t318.length ≤ co65 := (Kd.N_reads' HO320.out).2.1
                  have hC85 : Kd.F k53 _ _ Ao65 t318.length t318 := (Kd.V_at (base := w.heap.size) (Kd.N_V HO320.out)).2.2
                  have q085 : (0 : Int) ≤ ((ji51) : Int) := of_decide_eq_true (by assumption)
                  have hcut85 := cut_from (P := Try.prog) 24 53 .i64 Try.underlying24 hi085 1 hsz85 Ao65 t318.length co65 (ji51) q085 q85
                  have hr85 := Kd.F_cut (m := ((ji51) : Int).toNat) (c := co65) hC85 (by omega) hroom85
                  obtain ⟨A85, hA85⟩ : ∃ A1, A1 = (if co65 = ((ji51) : Int).toNat then Ao65 else (Ao65 : Option Addr).map (·.add (((ji51) : Int).toNat * 1))) := ⟨_, rfl⟩
                  obtain ⟨c85, hc85⟩ : ∃ c1, c1 = co65 - ((ji51) : Int).toNat := ⟨_, rfl⟩
                  have hy85 : y380.length = t318.length - ((ji51) : Int).toNat := (by rw [Ny380.out, List.length_drop] <;> omega)
                  rw [show (t318).drop ((ji51) : Int).toNat = y380 from Ny380.out.symm] at hr85
                  replace hr85 : Kd.F k53 _ _ A85 y380.length y380 := (by rw [hA85]; exact hr85)
                  rw [← hy85, ← hA85, ← hc85] at hcut85
                  have HO384 := ak (show Kd.V k53 53 _ w.heap.size _ (.slice A85 y380.length c85) y380 from Kd.V_mk (by rw [hy85, hc85]; exact Nat.sub_le_sub_right hroom85 _) hr85)
                  have HC384 := ak (show y380.length ≤ c85 from by rw [hy85, hc85]; exact Nat.sub_le_sub_right hroom85 _)
                  clear hr85 hC85 hroom85 hi085 hsz85 hc85
                  have KY85 := ak hy85
                  have KA85 := ak hA85
                  clear hy85 hA85
                  replace q85 := eq_true q85
                  try go_wp2_with (first | ((with_reducible refine gate_builtin (b := .append) (xs := #[.tmp 94, .tmp 98]) rfl ?_); at_builtin; refine Kd.N_append_rows k53 (w0 := w) w.heap.size rfl (.tmp 94) (.tmp 98) 24 53 (.agg #[(.slice none 0 0)]) 24 rfl Try.underlying24 info53 rfl (by decide) (by omega) v378 y377 y380 _ _ _ (fun k_ => (w.heap.size ≤ k_) ∧ some k_ ≠ (.slice Ao57 t327.length co57 : Value).ownBlock ∧ some k_ ≠ (v332 : Value).ownBlock ∧ some k_ ≠ (.slice Ao61 t336.length co61 : Value).ownBlock) (fun k_ => ((fun k_ => (w.heap.size ≤ k_) ∧ some k_ ≠ (.slice Ao57 t327.length co57 : Value).ownBlock ∧ some k_ ≠ (v332 : Value).ownBlock ∧ some k_ ≠ (.slice Ao61 t336.length co61 : Value).ownBlock)) k_ ∧ some k_ ≠ (v378 : Value).ownBlock) rfl rfl ?aO ?aR (fun _ hk => hk) ?aF ?aB ?aS ?aL ?_; (case aR => exact (by skip; exact Kd.V_F (Kd.V_mono (ok' := (fun k_ => ((fun k_ => (w.heap.size ≤ k_) ∧ some k_ ≠ (.slice Ao57 t327.length co57 : Value).ownBlock ∧ some k_ ≠ (v332 : Value).ownBlock ∧ some k_ ≠ (.slice Ao61 t336.length co61 : Value).ownBlock)) k_ ∧ some k_ ≠ (v378 : Value).ownBlock)) (HO384.out) (fun k_ hk => ⟨⟨hk.1.1, ⟨hk.1.2.1, ⟨hk.1.2.2.1, hk.1.2.2.2.1⟩⟩⟩, hk.2⟩)))); (case aB => exact (by exact hopb HB.out)); (case aF => exact (fun k_ hk => ⟨(Nat.le_trans (below_size (by exact hopb HB.out)) hk), Kd.fresh' (Kd.R_lt (hR HO329.out)) k_ hk, Kd.fresh' (Kd.R_lt (hR HO333.out)) k_ hk, Kd.fresh' (Kd.R_lt (hR HO339.out)) k_ hk⟩)); (case aO => exact (hN HO379.out)); (case aS => exact (below_size (by exact hopb HB.out))); (case aL => have := LMc54.out; omega); intro v386 w86 ho hb hg hat; rw [← Ny385.out] at ho; replace HO320 := ak (Kd.N_afterv (ok := (fun k_ => (w.heap.size ≤ k_) ∧ some k_ ≠ (.slice Ao57 t327.length co57 : Value).ownBlock ∧ some k_ ≠ (v332 : Value).ownBlock ∧ some k_ ≠ (.slice Ao61 t336.length co61 : Value).ownBlock ∧ some k_ ≠ (.slice Ao84 y374.length co84 : Value).ownBlock)) (hN HO320.out) hg hat); replace HO329 := ak (Kd.R_over' (hR HO329.out) (Kd.N_typed (hN HO379.out)) (by decide) hg); replace HO333 := ak (Kd.R_over' (hR HO333.out) (Kd.N_typed (hN HO379.out)) (by decide) hg); replace HO339 := ak (Kd.R_over' (hR HO339.out) (Kd.N_typed (hN HO379.out)) (by decide) hg); replace HO348 := ak (Kd.V_afterv (ok := (fun k_ => (w.heap.size ≤ k_) ∧ some k_ ≠ (.slice Ao57 t327.length co57 : Value).ownBlock ∧ some k_ ≠ (v332 : Value).ownBlock ∧ some k_ ≠ (.slice Ao61 t336.length co61 : Value).ownBlock ∧ some k_ ≠ (.slice Ao84 y374.length co84 : Value).ownBlock)) (by (with_reducible repeat (first | apply Kd.V_alloc | apply Kd.V_drewN | apply Kd.V_drew)); exact HO348.out) hg hat); replace HO359 := ak (Kd.V_afterv (ok := (fun k_ => (w.heap.size ≤ k_) ∧ some k_ ≠ (.slice Ao65 t318.length co65 : Value).ownBlock ∧ some k_ ≠ (.slice Ao57 t327.length co57 : Value).ownBlock ∧ some k_ ≠ (v332 : Value).ownBlock ∧ some k_ ≠ (.slice Ao84 y374.length co84 : Value).ownBlock)) (by (with_reducible repeat (first | apply Kd.V_alloc | apply Kd.V_drewN | apply Kd.V_drew)); exact HO359.out) hg hat); replace HO370 := ak (Kd.V_afterv (ok := (fun k_ => (w.heap.size ≤ k_) ∧ some k_ ≠ (.slice Ao65 t318.length co65 : Value).ownBlock ∧ some k_ ≠ (.slice Ao57 t327.length co57 : Value).ownBlock ∧ some k_ ≠ (v332 : Value).ownBlock ∧ some k_ ≠ (.slice Ao84 y374.length co84 : Value).ownBlock)) (by (with_reducible repeat (first | apply Kd.V_alloc | apply Kd.V_drewN | apply Kd.V_drew)); exact HO370.out) hg hat); replace HO376 := ak (Kd.N_afterv (ok := (fun k_ => (w.heap.size ≤ k_) ∧ some k_ ≠ (.slice Ao65 t318.length co65 : Value).ownBlock ∧ some k_ ≠ (.slice Ao57 t327.length co57 : Value).ownBlock ∧ some k_ ≠ (v332 : Value).ownBlock ∧ some k_ ≠ (.slice Ao61 t336.length co61 : Value).ownBlock)) (hN HO376.out) hg hat); replace HO384 := ak (Kd.V_afterv (ok := (fun k_ => (w.heap.size ≤ k_) ∧ some k_ ≠ (.slice Ao57 t327.length co57 : Value).ownBlock ∧ some k_ ≠ (v332 : Value).ownBlock ∧ some k_ ≠ (.slice Ao61 t336.length co61 : Value).ownBlock ∧ some k_ ≠ (.slice Ao84 y374.length co84 : Value).ownBlock)) (by (with_reducible repeat (first | apply Kd.V_alloc | apply Kd.V_drewN | apply Kd.V_drew)); exact HO384.out) hg hat); replace HB := ak (hb); have HO387 := ak (ho); clear HO379; clear ho hb hg hat))
                  go_ret2
                  exact ⟨_, by first | rfl | (simp only [u8_w_, w64_u8_] <;> rfl) | (simp [errW_none, errW_some] <;> rfl) | (simp only [← hji51]; first | rfl | (simp [errW_none, errW_some] <;> rfl)) | (simp [*, errW_none, errW_some] <;> rfl), by (with_reducible repeat (first | apply Kd.N_alloc | apply Kd.N_drewN | apply Kd.N_drew)); exact Kd.N_mono HO387.out (fun _ hk => hk.1), by exact hopb HB.out⟩
                 ·rw [if_neg c54] at H
                  exact absurd H (by simp)
                ·rw [if_neg c53] at H
                 exact absurd H (by simp)
               ·rw [if_neg c52] at H
                exact absurd H (by simp)
              ·rw [if_neg c50] at H
               exact absurd H (by simp)
             ·rw [if_neg c49] at H
              exact absurd H (by simp)
            ·rw [if_neg c47] at H
             exact absurd H (by simp)
           ·rw [if_neg c46] at H
            exact absurd H (by simp)
          ·rw [if_neg c45] at H
           exact absurd H (by simp)
         ·rw [if_neg c44] at H
          exact absurd H (by simp)
       ·rw [if_neg c29] at H
        exact absurd H (by simp)
      ·rw [if_neg c28] at H
       exact absurd H (by simp)
     ·replace c26 := Bool.eq_false_iff.mpr c26
      subst c26
      rw [if_neg (show ¬ (false = true) by decide)] at H
      simp only [Option.some.injEq, Prod.mk.injEq] at H
      obtain ⟨rfl, rfl⟩ := H
      go_wp2_with (first | ((with_reducible refine gate_callee (f := 25) rfl ?_); refine gL (some 30) Try.func25 #[.slice A0 l0.length c0] ?_; (with_reducible refine (spec_l6Copy.calls kj3 _ _ l0 t318 _ ?side1 ?side2 A16.out).mono ?_); (case side1 => exact hC (Kd.C_below HR0.out HB.out)); (case side2 => exact HC0.out); rintro e w87 ⟨v319, rfl, ho0, hb⟩; refine ⟨_, rfl, ?_⟩; have HO320 := ak (Kd.N_lower (Kd.N_mono (ok' := fun k_ => (w.heap.size ≤ k_)) (Kd.S_N (Kd.S_bound ho0)) (fun k_ hk_ => (Nat.le_trans (below_size (by exact hopb HB.out)) hk_.2.1))) (below_size (by exact hopb HB.out))); replace HB := ak (below_step (by exact hopb HB.out) hb); (try clear hb); (try clear ho0)) | ((with_reducible refine gate_callee (f := 41) rfl ?_); refine gL (some 44) Try.func41 #[.slice A0 l0.length c0] ?_; (with_reducible refine (spec_PagesList.calls kj3 _ _ l0 t327 _ ?side1 ?side2 A24.out).mono ?_); (case side1 => exact hC (Kd.C_below HR0.out HB.out)); (case side2 => exact HC0.out); rintro e w88 ⟨v328, rfl, ho0, hb⟩; refine ⟨_, rfl, ?_⟩; replace HO320 := ak (Kd.N_elder' (hN HO320.out) (Kd.R_base ho0) hb); have HO329 := ak (Kd.R_lower (Kd.R_newM (M := fun k_ => (w.heap.size ≤ k_)) ho0 (below_size (by exact hopb HB.out)) (fun k_ h_ => h_)) (below_size (by exact hopb HB.out))); replace HB := ak (below_step (by exact hopb HB.out) hb); (try clear hb); (try clear ho0); obtain ⟨Ao89, co89, eo89⟩ := Kd.R_slice HO329.out; subst eo89) | ((with_reducible refine gate_callee (f := 49) rfl ?_); refine gL (some 47) Try.func49 #[.slice Ao89 t327.length co89, .string a1, .int .i64 a2] ?_; (with_reducible refine (spec_PairPut.calls kj3 _ _ t327 a1 a2 t330 false _ ?side1 ?side2 A25.out).mono ?_); (case side1 => exact hC (Kd.R_reads' HO329.out).2.2); (case side2 => exact (Kd.R_reads' HO329.out).2.1); rintro e w90 ⟨v332, rfl, ho0, hb⟩; refine ⟨_, rfl, ?_⟩; replace HO320 := ak (Kd.N_elder' (hN HO320.out) (Kd.R_base ho0) hb); have HO333 := ak (Kd.R_lower (Kd.R_new' (Kd.R_newM (M := fun k_ => (w.heap.size ≤ k_)) ho0 (below_size (by exact hopb HB.out)) (fun k_ h_ => h_)) (Kd.R_lt (hR HO329.out))) (below_size (by exact hopb HB.out))); replace HO329 := ak (Kd.R_elder' (hR HO329.out) (Kd.R_base ho0) hb); replace HB := ak (below_step (by exact hopb HB.out) hb); (try clear hb); (try clear ho0)))
      go_ret2
      exact ⟨_, by first | rfl | (simp [*, errW_none, errW_some] <;> rfl), by (with_reducible repeat (first | apply Kd.N_alloc | apply Kd.N_drewN | apply Kd.N_drew)); exact Kd.N_mono HO320.out (fun _ hk => hk.1.1), by exact hopb HB.out⟩

end Go.Proofs.Ytengnnhehjcfhaa.PFnPagesPut
