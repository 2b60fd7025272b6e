-- Written for this claim by a program of this session (wip/myprint in the proofs' repo)
import Derived.Test.YtengnnhehjcfhaaPFnExactPagesPutx0
import Derived.Test.YtengnnhehjcfhaaPFnExactPagesPutx6
import Derived.Test.YtengnnhehjcfhaaPFnExactPagesPutx8
import Derived.Test.YtengnnhehjcfhaaPFnExactPagesPutx9
import Derived.Test.YtengnnhehjcfhaaWZip
-- slim3
namespace Go.Proofs.Ytengnnhehjcfhaa.PFnExactPagesPut
open Go.RowKit Go.Proofs.YtengnnhehjcfhaaW.PrintWords Go.Proofs.YtengnnhehjcfhaaW.PrintLast Go.Proofs.YtengnnhehjcfhaaW.PrintMore
attribute [local go_sem] max2_int min2_int max_two min_two max_three min_three max_four min_four max2_strs min2_strs   -- for this text's walks alone
set_option linter.unusedVariables false
set_option linter.unusedSimpArgs false

/-! ### spec_PagesPut: function 15 -/
def spec_PagesPut.j0 : Nat → List (S53) → ByteArray → Int → Bool → Option ((List (S53)) × Bool)
 | 0, _, _, _, _ => none
 | k + 1, x0, x1, x2, x27 => if x27 = true then (some ((([] : List (S53))), false)) else ((spec_l6Copy.f k x0).bind fun t291 => (if (x0.length : Int) = 0 then (if t291.length < 5864062014805 then (some ((t291 ++ [(⟨(([(⟨x1, x2⟩ : S65)] : List (S65)))⟩ : S53)]), true)) else (none)) else ((spec_PagesList.f k x0).bind fun t300 => ((spec_PairPut.f k t300 x1 x2).bind fun bt303 => (if bt303.2 = true then ((spec_PageFind.f k x0 x1).bind fun t307 => (if 0 ≤ t307 then (if t307 < (x0.length : Int) then ((spec_PairPut.f k ((rd_T53 x0 t307).f0) x1 x2).bind fun bt309 => (if (bt309.1.length : Int) ≤ 4 then (if t307 < (t291.length : Int) then (some ((t291.set (t307 : Int).toNat (⟨bt309.1⟩ : S53)), true)) else (none)) else ((some (([] : List (S53)) : List (S53))).bind fun y314 => (if t307 ≤ (t291.length : Int) then ((some (t291.take (t307 : Int).toNat : List (S53))).bind fun y317 => (if y314.length + y317.length < 5864062014805 then ((some (y314 ++ y317 : List (S53))).bind fun y322 => ((some (([] : List (S65)) : List (S65))).bind fun y325 => (if 2 ≤ (bt309.1.length : Int) then ((some (bt309.1.take 2 : List (S65))).bind fun y328 => (if y325.length + y328.length < 5864062014805 then ((some (([] : List (S65)) : List (S65))).bind fun y336 => ((some (bt309.1.drop 2 : List (S65))).bind fun y339 => (if y336.length + y339.length < 5864062014805 then ((some (([(⟨(y325 ++ y328)⟩ : S53), (⟨(y336 ++ y339)⟩ : S53)] : List (S53)) : List (S53))).bind fun y347 => (if y322.length + y347.length < 5864062014805 then ((some (y322 ++ y347 : List (S53))).bind fun y350 => (if 0 ≤ (wrap64 (t307 + 1)) then (if (wrap64 (t307 + 1)) ≤ (t291.length : Int) then ((some (t291.drop ((wrap64 (t307 + 1)) : Int).toNat : List (S53))).bind fun y353 => (if y350.length + y353.length < 5864062014805 then (some ((y350 ++ y353), true)) else (none))) else (none)) else (none))) else (none))) else (none)))) else (none))) else (none)))) else (none))) else (none))))) else (none)) else (none))) else (some (t291, false)))))))
def spec_PagesPut.f (k : Nat) (l0 : List (S53)) (a1 : ByteArray) (a2 : Int) : Option ((List (S53)) × Bool) := (spec_PagesValid.f k l0).bind fun t285 => (if t285 = true then ((spec_KeyValid.f k a1).bind fun t286 => (if t286 = true then ((spec_l1In.f a2 0 999).bind fun t287 => (spec_PagesPut.j0 k l0 a1 a2 (!t287))) else (spec_PagesPut.j0 k l0 a1 a2 true))) else (spec_PagesPut.j0 k l0 a1 a2 true))
theorem spec_PagesPut.mono_l : ∀ k, (∀ y0 y1 y2 y3, LeO (spec_PagesPut.j0 k y0 y1 y2 y3) (spec_PagesPut.j0 (k + 1) y0 y1 y2 y3))
 | 0 => fun _ _ _ _ r h => by simp [spec_PagesPut.j0] at h
 | k + 1 => by
  have ih0 := spec_PagesPut.mono_l k
  ·intro y0 y1 y2 y3
   unfold spec_PagesPut.j0
   repeat' first
   | (with_reducible exact ih0 _ _ _ _)
   | (with_reducible exact spec_KeyValid.mono _ _)
   | (with_reducible exact spec_PageFind.mono _ _ _)
   | (with_reducible exact spec_PagesList.mono _ _)
   | (with_reducible exact spec_PagesValid.mono _ _)
   | (with_reducible exact spec_PairPut.mono _ _ _ _)
   | (with_reducible exact spec_l6Copy.mono _ _)
   | (with_reducible exact LeO.refl _)
   | (with_reducible exact LeO.none _)
   | (with_reducible refine LeO.ite ?_ ?_)
   | (with_reducible refine LeO.bind ?_ (fun _ => ?_))
   | exact ih0 _ _ _ _
   | exact LeO.none _
   | refine LeO.ite ?_ ?_
   | refine LeO.bind ?_ (fun _ => ?_)
theorem spec_PagesPut.mono : ∀ a0 a1 a2 k, LeO (spec_PagesPut.f k a0 a1 a2) (spec_PagesPut.f (k + 1) a0 a1 a2) := by
 intro a0 a1 a2 k
 have ih0 := spec_PagesPut.mono_l k
 unfold spec_PagesPut.f
 repeat' first
   | (with_reducible exact ih0 _ _ _ _)
   | (with_reducible exact spec_KeyValid.mono _ _)
   | (with_reducible exact spec_PageFind.mono _ _ _)
   | (with_reducible exact spec_PagesList.mono _ _)
   | (with_reducible exact spec_PagesValid.mono _ _)
   | (with_reducible exact spec_PairPut.mono _ _ _ _)
   | (with_reducible exact spec_l6Copy.mono _ _)
   | (with_reducible exact LeO.refl _)
   | (with_reducible exact LeO.none _)
   | (with_reducible refine LeO.ite ?_ ?_)
   | (with_reducible refine LeO.bind ?_ (fun _ => ?_))
   | exact ih0 _ _ _ _
   | exact LeO.none _
   | refine LeO.ite ?_ ?_
   | refine LeO.bind ?_ (fun _ => ?_)
def spec_PagesPut.T15 : Bool × List (List Nat × List Nat) := (true, [([], []), ([], []), ([], []), ([2], [2]), ([1, 3], [1, 3]), ([4], [4]), ([], []), ([], []), ([7], [7]), ([6, 8, 4], [6, 8]), ([9], [9]), ([5, 10], [5, 10]), ([0, 11, 9], [0, 11]), ([12, 12, 0, 1, 2, 3, 4, 5, 6, 7, 8, 9, 10, 11, 12], [0, 12])])
def spec_PagesPut.B15 : List Nat := [0, 0, 0, 4, 14, 30, 0, 0, 128, 478, 990, 2046, 4095, 8191]
theorem spec_PagesPut.tab15 : rtab .any (opsOf Try.f15 15) = spec_PagesPut.T15 := by kernel_rfl
theorem spec_PagesPut.bits15 : waitsOk spec_PagesPut.T15.2 spec_PagesPut.B15 = true := by kernel_rfl
set_option maxHeartbeats 8000000 in
set_option maxRecDepth 100000 in
theorem spec_PagesPut.calls (k : Nat) (A0 : Option Addr) (c0 : Nat) (l0 : List (S53)) (a1 : ByteArray) (a2 : Int) (r1 : List (S53)) (r2 : Bool) (w : World) (hr0 : Kd.C k53 w A0 l0.length l0) (hc0 : l0.length ≤ c0) (h : spec_PagesPut.f k l0 a1 a2 = some (r1, r2)) :
  Calls Try.prog 15 #[.slice A0 l0.length c0, .string a1, .int .i64 a2] w fun e w' => ∃ v0_ : Value, e = .returned (.tuple #[v0_, .bool r2]) ∧ Kd.N k53 53 w' w.heap.size (fun k_ => (w.heap.size ≤ k_)) v0_ r1 ∧ Below w.heap.size w w' := by
 have hu65 := Try.underlying65
 have hu53 := Try.underlying53
 have HR0 := ak hr0
 have HC0 := ak hc0
 clear hr0 hc0
 have HB := ak (Below.refl w.heap.size w)
 have H : ((spec_PagesValid.f k l0).bind fun t285 => (if t285 = true then ((spec_KeyValid.f k a1).bind fun t286 => (if t286 = true then ((spec_l1In.f a2 0 999).bind fun t287 => (spec_PagesPut.j0 k l0 a1 a2 (!t287))) else (spec_PagesPut.j0 k l0 a1 a2 true))) else (spec_PagesPut.j0 k l0 a1 a2 true))) = some (r1, r2) := h
 clear h
 have HC4 := ak H
 clear H
 go_enter Try.func15, Try.ntmps15
 go_upto_region 1 with (fail)
 go_cut [27] (fun v27 wc => ∃ (kq : Nat) (x27_3 : Bool), v27 = .bool x27_3 ∧ Aside0 (spec_PagesPut.j0 kq l0 a1 a2 x27_3 = some (r1, r2)) ∧ Aside0 (kq ≤ k) ∧ Aside0 (Below w.heap.size w wc))
 case first =>
  have H := HC4.out
  clear HC4
  replace H := Option.bind_eq_some_iff.mp H
  obtain ⟨t285, A50, H⟩ := H
  try dsimp only at H
  have A5 := ak A50
  clear A50
  by_cases c6 : t285 = true
  ·subst c6
   rw [if_pos rfl] at H
   replace H := Option.bind_eq_some_iff.mp H
   obtain ⟨t286, A70, H⟩ := H
   try dsimp only at H
   have A7 := ak A70
   clear A70
   by_cases c8 : t286 = true
   ·subst c8
    rw [if_pos rfl] at H
    replace H := Option.bind_eq_some_iff.mp H
    obtain ⟨t287, A90, H⟩ := H
    try dsimp only at H
    have A9 := ak A90
    clear A90
    have H' := ak H
    clear H
    go_wp2_with (first | ((with_reducible refine gate_callee (f := 23) rfl ?_); refine goesL_ (some 16) rfl rfl Try.func23 (by kernel_rfl) rfl #[.slice A0 l0.length c0] rfl (by (try simp only [List.map_toArray, List.map_cons, List.map_nil]); first | done | rfl | (simp only [List.length_drop, List.length_take]; rfl)) ?_; (with_reducible refine (spec_PagesValid.calls k _ _ l0 true _ ?side1 ?side2 A5.out).mono ?_); (case side1 => repeat (first | exact (Kd.C_below HR0.out HB.out) | (with_reducible refine Kd.C_alloc ?_ _) | (with_reducible refine Kd.C_drewN ?_ _) | (with_reducible refine Kd.C_drew ?_))); (case side2 => exact HC0.out); rintro e w10 ⟨rfl, hb⟩; refine ⟨_, rfl, ?_⟩; replace HB := ak (below_step (by exact hopb HB.out) hb); (try clear hb)) | (go_at_call 24; (with_reducible refine (spec_KeyValid.calls k a1 true _ A7.out).mono ?_); rintro e w' ⟨rfl, ⟨nd, rfl⟩⟩) | (go_at_call 48; (with_reducible refine (spec_l1In.calls a2 0 999 t287 _ A9.out).mono ?_); rintro e w' ⟨rfl, ⟨nd, rfl⟩⟩))
    go_meet
    case rel => exact ⟨_, (!t287), (by first | rfl | (simp [*]; done)), H', ⟨by first | omega | exact Nat.le_refl _⟩, ⟨by exact hopb HB.out⟩⟩
   ·replace c8 := Bool.eq_false_iff.mpr c8
    subst c8
    rw [if_neg (show ¬ (false = true) by decide)] at H
    have H' := ak H
    clear H
    go_wp2_with (first | ((with_reducible refine gate_callee (f := 23) rfl ?_); refine goesL_ (some 16) rfl rfl Try.func23 (by kernel_rfl) rfl #[.slice A0 l0.length c0] rfl (by (try simp only [List.map_toArray, List.map_cons, List.map_nil]); first | done | rfl | (simp only [List.length_drop, List.length_take]; rfl)) ?_; (with_reducible refine (spec_PagesValid.calls k _ _ l0 true _ ?side1 ?side2 A5.out).mono ?_); (case side1 => repeat (first | exact (Kd.C_below HR0.out HB.out) | (with_reducible refine Kd.C_alloc ?_ _) | (with_reducible refine Kd.C_drewN ?_ _) | (with_reducible refine Kd.C_drew ?_))); (case side2 => exact HC0.out); rintro e w11 ⟨rfl, hb⟩; refine ⟨_, rfl, ?_⟩; replace HB := ak (below_step (by exact hopb HB.out) hb); (try clear hb)) | (go_at_call 24; (with_reducible refine (spec_KeyValid.calls k a1 false _ A7.out).mono ?_); rintro e w' ⟨rfl, ⟨nd, rfl⟩⟩))
    go_meet
    case rel => exact ⟨_, (true), (by first | rfl | (simp [*]; done)), H', ⟨by first | omega | exact Nat.le_refl _⟩, ⟨by exact hopb HB.out⟩⟩
  ·replace c6 := Bool.eq_false_iff.mpr c6
   subst c6
   rw [if_neg (show ¬ (false = true) by decide)] at H
   have H' := ak H
   clear H
   go_wp2_with (first | ((with_reducible refine gate_callee (f := 23) rfl ?_); refine goesL_ (some 16) rfl rfl Try.func23 (by kernel_rfl) rfl #[.slice A0 l0.length c0] rfl (by (try simp only [List.map_toArray, List.map_cons, List.map_nil]); first | done | rfl | (simp only [List.length_drop, List.length_take]; rfl)) ?_; (with_reducible refine (spec_PagesValid.calls k _ _ l0 false _ ?side1 ?side2 A5.out).mono ?_); (case side1 => repeat (first | exact (Kd.C_below HR0.out HB.out) | (with_reducible refine Kd.C_alloc ?_ _) | (with_reducible refine Kd.C_drewN ?_ _) | (with_reducible refine Kd.C_drew ?_))); (case side2 => exact HC0.out); rintro e w12 ⟨rfl, hb⟩; refine ⟨_, rfl, ?_⟩; replace HB := ak (below_step (by exact hopb HB.out) hb); (try clear hb)))
   go_meet
   case rel => exact ⟨_, (true), (by first | rfl | (simp [*]; done)), H', ⟨by first | omega | exact Nat.le_refl _⟩, ⟨by exact hopb HB.out⟩⟩
 case rest =>
  clear HC4
  try clear c1
  try clear c2
  try clear p2
  try clear c6
  try clear c8
  obtain ⟨kq, x27_3, rfl, HA, HJ3, HB⟩ := hcut
  cases kq with
  | zero => exact absurd HA.out (by simp [spec_PagesPut.j0])
  | succ kj3 =>
   have H := HA.out
   clear HA
   simp only [spec_PagesPut.j0] at H
   by_cases c13 : x27_3 = true
   ·subst c13
    rw [if_pos rfl] at H
    obtain ⟨y288, hy288⟩ : ∃ y_ : List (S53), y_ = (([] : List (S53))) := ⟨_, rfl⟩
    replace H : (some (y288, false)) = some (r1, r2) := by first | (rw [hy288]; exact H) | exact H
    have Ny288 := ak hy288
    clear hy288
    simp only [Option.some.injEq, Prod.mk.injEq] at H
    obtain ⟨rfl, rfl⟩ := H
    go_wp2_with (first | ((with_reducible refine gate_dst (N := 28) rfl ?_); refine Kd.N_lit k53 _ 53 ?hg (N' := 28) ?hd (xs := ([] : List (S53))) (inner := []) (ok := (fun k_ => (w.heap.size ≤ k_))) (okp := (fun k_ => (w.heap.size ≤ k_))) ?hr ?hp (fun _ hk => hk) ((show ∀ k_, wc.heap.size ≤ k_ → (fun k_ => (w.heap.size ≤ k_)) k_ from fun k_ hk => (Nat.le_trans (below_size (by exact hopb HB.out)) hk)) _ (Nat.le_refl _)) (Below.refl _ _) (Nat.le_refl _) (by simp) ?_; (case hd => rfl); (case hg => rfl); (case hr => first | (go_simp; done) | (go_simp; rfl)); (case hp => exact (Reps.none _ _)); intro v289 w14 ho15 hb hg_ hnew_; clear hg_ hnew_; (first | rw [← Ny288.out] at ho15 | (simp only [Int.reduceToNat] at ho15; rw [← Ny288.out] at ho15)); have HO290 := ak (Kd.N_lower ho15 (below_size (by exact hopb HB.out))); replace HB := ak (below_step (by exact hopb HB.out) hb); clear hb ho15))
    go_ret2
    exact ⟨_, by first | rfl | (simp [*, errW_none, errW_some] <;> rfl), by (with_reducible repeat (first | apply Kd.N_alloc | apply Kd.N_drewN | apply Kd.N_drew)); exact HO290.out, by exact hopb HB.out⟩
   ·replace c13 := Bool.eq_false_iff.mpr c13
    subst c13
    rw [if_neg (show ¬ (false = true) by decide)] at H
    replace H := Option.bind_eq_some_iff.mp H
    obtain ⟨t291, A160, H⟩ := H
    try dsimp only at H
    have A16 := ak A160
    clear A160
    by_cases c17 : (l0.length : Int) = 0
    ·rw [if_pos c17] at H
     have c17b0 : ((l0.length : Int) == 0) = true := beq_iff_eq.mpr c17
     have c17b1 : ((l0.length : Int) != 0) = false := bne_eq_false_iff_eq.mpr c17
     clear c17
     obtain ⟨y294, hy294⟩ : ∃ y_ : List (S65), y_ = (([(⟨a1, a2⟩ : S65)] : List (S65))) := ⟨_, rfl⟩
     replace H : (if t291.length < 5864062014805 then (some ((t291 ++ [(⟨y294⟩ : S53)]), true)) else (none)) = some (r1, r2) := by first | (rw [hy294]; exact H) | exact H
     have Ny294 := ak hy294
     clear hy294
     by_cases c18 : t291.length < 5864062014805
     ·rw [if_pos c18] at H
      have LMc18 := ak c18
      clear c18
      obtain ⟨y297, hy297⟩ : ∃ y_ : List (S53), y_ = (t291 ++ [(⟨y294⟩ : S53)]) := ⟨_, rfl⟩
      replace H : (some (y297, true)) = some (r1, r2) := by first | (rw [hy297]; exact H) | exact H
      have Ny297 := ak hy297
      clear hy297
      simp only [Option.some.injEq, Prod.mk.injEq] at H
      obtain ⟨rfl, rfl⟩ := H
      go_wp2_with (first | ((with_reducible refine gate_callee (f := 25) rfl ?_); refine goesL_ (some 30) rfl rfl Try.func25 (by kernel_rfl) rfl #[.slice A0 l0.length c0] rfl (by (try simp only [List.map_toArray, List.map_cons, List.map_nil]); first | done | rfl | (simp only [List.length_drop, List.length_take]; rfl)) ?_; (with_reducible refine (spec_l6Copy.calls kj3 _ _ l0 t291 _ ?side1 ?side2 A16.out).mono ?_); (case side1 => repeat (first | exact (Kd.C_below HR0.out HB.out) | (with_reducible refine Kd.C_alloc ?_ _) | (with_reducible refine Kd.C_drewN ?_ _) | (with_reducible refine Kd.C_drew ?_))); (case side2 => exact HC0.out); rintro e w19 ⟨v292, rfl, ho0, hb⟩; refine ⟨_, rfl, ?_⟩; have HO293 := ak (Kd.N_lower (Kd.N_mono (ok' := fun k_ => (w.heap.size ≤ k_)) (Kd.S_N (Kd.S_bound ho0)) (fun k_ hk_ => (Nat.le_trans (below_size (by exact hopb HB.out)) hk_.2.1))) (below_size (by exact hopb HB.out))); replace HB := ak (below_step (by exact hopb HB.out) hb); (try clear hb); (try clear ho0)) | ((with_reducible refine gate_dst (N := 38) rfl ?_); refine Kd.R_lit k65 _ 65 ?hg (N := 38) ?hd (xs := ([(⟨a1, a2⟩ : S65)] : List (S65))) (inner := [.string a1, .int .i64 a2]) (ok := fun _ => True) (okp := fun _ => True) ?hr ?hp (fun _ hk => hk) trivial (Below.refl _ _) (Nat.le_refl _) (by simp) ?_; (case hd => rfl); (case hg => rfl); (case hr => first | (go_simp; done) | (go_simp; rfl)); (case hp => exact (Reps.c2 (show Kd.M k65 _ _ _ (⟨a1, a2⟩ : S65) [.string a1, .int .i64 a2] from (k65_mkM _ _ _ (⟨a1, a2⟩ : S65) )) (Reps.none _ _))); intro v295 w20 ho21 hb hg_ hnew_; clear hg_ hnew_; (first | rw [← Ny294.out] at ho21 | (simp only [Int.reduceToNat] at ho21; rw [← Ny294.out] at ho21)); replace HO293 := ak (Kd.N_elder' (by (with_reducible repeat (first | apply Kd.N_alloc | apply Kd.N_drewN | apply Kd.N_drew)); exact HO293.out) (Kd.R_base ho21) hb); have HO296 := ak (Kd.R_lower (Kd.R_newM (M := fun k_ => (w.heap.size ≤ k_)) ho21 (below_size (by exact hopb HB.out)) (fun k_ h_ => h_)) (below_size (by exact hopb HB.out))); replace HB := ak (below_step (by exact hopb HB.out) hb); clear hb ho21; obtain ⟨Ao22, co22, eo22⟩ := Kd.R_slice HO296.out; subst eo22) | ((with_reducible refine gate_builtin (b := .append) (xs := #[.tmp 34, .tmp 40]) rfl ?_); at_builtin; refine Kd.N_append k53 (w0 := w) w.heap.size rfl (.tmp 34) (.tmp 40) 24 53 (.agg #[(.slice none 0 0)]) 24 rfl Try.underlying24 info53 rfl (by decide) (by omega) v292 t291 (⟨y294⟩ : S53) [.slice Ao22 y294.length co22] (fun k_ => (w.heap.size ≤ k_)) (fun k_ => ((fun k_ => (w.heap.size ≤ k_))) k_ ∧ some k_ ≠ (v292 : Value).ownBlock) rfl rfl ?aP (fun _ hk => hk) ?aF ?aO ?aB ?aS ?aL ?_; (case aP => exact (k53_mkF _ _ (⟨y294⟩ : S53) (Kd.R_reads' (Kd.R_mono (ok' := (fun k_ => ((fun k_ => (w.heap.size ≤ k_))) k_ ∧ some k_ ≠ (v292 : Value).ownBlock)) (Kd.R_apart' (HO296.out) (Kd.N_typed HO293.out) (by decide)) (fun k_ hk => ⟨hk.1.1, hk.2⟩))).2.1 (Kd.R_F (Kd.R_mono (ok' := (fun k_ => ((fun k_ => (w.heap.size ≤ k_))) k_ ∧ some k_ ≠ (v292 : Value).ownBlock)) (Kd.R_apart' (HO296.out) (Kd.N_typed HO293.out) (by decide)) (fun k_ hk => ⟨hk.1.1, hk.2⟩))))); (case aB => exact (by exact hopb HB.out)); (case aF => exact (fun k_ hk => (Nat.le_trans (below_size (by exact hopb HB.out)) hk))); (case aO => exact (by (with_reducible repeat (first | apply Kd.N_alloc | apply Kd.N_drewN | apply Kd.N_drew)); exact Kd.N_mono HO293.out (fun _ hk => hk.1))); (case aS => exact (below_size (by exact hopb HB.out))); (case aL => have := LMc18.out; omega); intro v298 w23 ho hb hg hat; rw [← Ny297.out] at ho; replace HB := ak (hb); have HO299 := ak (ho); clear HO293 HO296; clear ho hb hg hat))
      go_ret2
      exact ⟨_, by first | rfl | (simp [*, errW_none, errW_some] <;> rfl), by (with_reducible repeat (first | apply Kd.N_alloc | apply Kd.N_drewN | apply Kd.N_drew)); exact HO299.out, by exact hopb HB.out⟩
     ·rw [if_neg c18] at H
      exact absurd H (by simp)
    ·rw [if_neg c17] at H
     have c17b0 : ((l0.length : Int) == 0) = false := beq_eq_false_iff_ne.mpr c17
     have c17b1 : ((l0.length : Int) != 0) = true := bne_iff_ne.mpr c17
     have c17b2 : ¬ (l0 = []) := fun h_ => c17 (by rw [h_]; rfl)
     replace H := Option.bind_eq_some_iff.mp H
     obtain ⟨t300, A240, H⟩ := H
     try dsimp only at H
     have A24 := ak A240
     clear A240
     replace H := Option.bind_eq_some_iff.mp H
     obtain ⟨⟨t303, t304⟩, A250, H⟩ := H
     try dsimp only at H
     have A25 := ak A250
     clear A250
     by_cases c26 : t304 = true
     ·subst c26
      rw [if_pos rfl] at H
      replace H := Option.bind_eq_some_iff.mp H
      obtain ⟨t307, A270, H⟩ := H
      try dsimp only at H
      have A27 := ak A270
      clear A270
      by_cases c28 : 0 ≤ t307
      ·rw [if_pos c28] at H
       have c28b0 : decide (0 ≤ t307) = true := decide_eq_true c28
       clear c28
       by_cases c29 : t307 < (l0.length : Int)
       ·rw [if_pos c29] at H
        have c29b0 : decide (t307 < (l0.length : Int)) = true := decide_eq_true c29
        clear c29
        replace H := Option.bind_eq_some_iff.mp H
        obtain ⟨⟨t309, t310⟩, A300, H⟩ := H
        try dsimp only at H
        have A30 := ak A300
        clear A300
        by_cases c31 : (t309.length : Int) ≤ 4
        ·rw [if_pos c31] at H
         have c31b0 : decide ((t309.length : Int) ≤ 4) = true := decide_eq_true c31
         have c31b1 : decide (t309.length ≤ 4) = true := decide_eq_true (by omega)
         clear c31
         by_cases c32 : t307 < (t291.length : Int)
         ·rw [if_pos c32] at H
          have c32b0 : decide (t307 < (t291.length : Int)) = true := decide_eq_true c32
          clear c32
          obtain ⟨y313, hy313⟩ : ∃ y_ : List (S53), y_ = (t291.set (t307 : Int).toNat (⟨t309⟩ : S53)) := ⟨_, rfl⟩
          replace H : (some (y313, true)) = some (r1, r2) := by first | (rw [hy313]; exact H) | exact H
          have Ny313 := ak hy313
          clear hy313
          simp only [Option.some.injEq, Prod.mk.injEq] at H
          obtain ⟨rfl, rfl⟩ := H
          go_wp2_with (first | ((with_reducible refine gate_callee (f := 25) rfl ?_); refine goesL_ (some 30) rfl rfl Try.func25 (by kernel_rfl) rfl #[.slice A0 l0.length c0] rfl (by (try simp only [List.map_toArray, List.map_cons, List.map_nil]); first | done | rfl | (simp only [List.length_drop, List.length_take]; rfl)) ?_; (with_reducible refine (spec_l6Copy.calls kj3 _ _ l0 t291 _ ?side1 ?side2 A16.out).mono ?_); (case side1 => repeat (first | exact (Kd.C_below HR0.out HB.out) | (with_reducible refine Kd.C_alloc ?_ _) | (with_reducible refine Kd.C_drewN ?_ _) | (with_reducible refine Kd.C_drew ?_))); (case side2 => exact HC0.out); rintro e w34 ⟨v292, rfl, ho0, hb⟩; refine ⟨_, rfl, ?_⟩; have HO293 := ak (Kd.N_lower (Kd.N_mono (ok' := fun k_ => (w.heap.size ≤ k_)) (Kd.S_N (Kd.S_bound ho0)) (fun k_ hk_ => (Nat.le_trans (below_size (by exact hopb HB.out)) hk_.2.1))) (below_size (by exact hopb HB.out))); replace HB := ak (below_step (by exact hopb HB.out) hb); (try clear hb); (try clear ho0)) | ((with_reducible refine gate_callee (f := 41) rfl ?_); refine goesL_ (some 44) rfl rfl Try.func41 (by kernel_rfl) rfl #[.slice A0 l0.length c0] rfl (by (try simp only [List.map_toArray, List.map_cons, List.map_nil]); first | done | rfl | (simp only [List.length_drop, List.length_take]; rfl)) ?_; (with_reducible refine (spec_PagesList.calls kj3 _ _ l0 t300 _ ?side1 ?side2 A24.out).mono ?_); (case side1 => repeat (first | exact (Kd.C_below HR0.out HB.out) | (with_reducible refine Kd.C_alloc ?_ _) | (with_reducible refine Kd.C_drewN ?_ _) | (with_reducible refine Kd.C_drew ?_))); (case side2 => exact HC0.out); rintro e w35 ⟨v301, rfl, ho0, hb⟩; refine ⟨_, rfl, ?_⟩; replace HO293 := ak (Kd.N_elder' (by (with_reducible repeat (first | apply Kd.N_alloc | apply Kd.N_drewN | apply Kd.N_drew)); exact HO293.out) (Kd.R_base ho0) hb); have HO302 := ak (Kd.R_lower (Kd.R_newM (M := fun k_ => (w.heap.size ≤ k_)) ho0 (below_size (by exact hopb HB.out)) (fun k_ h_ => h_)) (below_size (by exact hopb HB.out))); replace HB := ak (below_step (by exact hopb HB.out) hb); (try clear hb); (try clear ho0); obtain ⟨Ao36, co36, eo36⟩ := Kd.R_slice HO302.out; subst eo36) | ((with_reducible refine gate_callee (f := 49) rfl ?_); refine goesL_ (some 47) rfl rfl Try.func49 (by kernel_rfl) rfl #[.slice Ao36 t300.length co36, .string a1, .int .i64 a2] rfl (by (try simp only [List.map_toArray, List.map_cons, List.map_nil]); first | done | rfl | (simp only [List.length_drop, List.length_take]; rfl)) ?_; (with_reducible refine (spec_PairPut.calls kj3 _ _ t300 a1 a2 t303 true _ ?side1 ?side2 A25.out).mono ?_); (case side1 => repeat (first | exact (Kd.R_reads' HO302.out).2.2 | (with_reducible refine Kd.C_alloc ?_ _) | (with_reducible refine Kd.C_drewN ?_ _) | (with_reducible refine Kd.C_drew ?_))); (case side2 => exact (Kd.R_reads' HO302.out).2.1); rintro e w37 ⟨v305, rfl, ho0, hb⟩; refine ⟨_, rfl, ?_⟩; replace HO293 := ak (Kd.N_elder' (by (with_reducible repeat (first | apply Kd.N_alloc | apply Kd.N_drewN | apply Kd.N_drew)); exact HO293.out) (Kd.R_base ho0) hb); have HO306 := ak (Kd.R_lower (Kd.R_new' (Kd.R_newM (M := fun k_ => (w.heap.size ≤ k_)) ho0 (below_size (by exact hopb HB.out)) (fun k_ h_ => h_)) (Kd.R_lt (by (with_reducible repeat (first | apply Kd.R_alloc | apply Kd.R_drewN | apply Kd.R_drew)); exact HO302.out))) (below_size (by exact hopb HB.out))); replace HO302 := ak (Kd.R_elder' (by (with_reducible repeat (first | apply Kd.R_alloc | apply Kd.R_drewN | apply Kd.R_drew)); exact HO302.out) (Kd.R_base ho0) hb); replace HB := ak (below_step (by exact hopb HB.out) hb); (try clear hb); (try clear ho0)) | ((with_reducible refine gate_callee (f := 26) rfl ?_); refine goesL_ (some 55) rfl rfl Try.func26 (by kernel_rfl) rfl #[.slice A0 l0.length c0, .string a1] rfl (by (try simp only [List.map_toArray, List.map_cons, List.map_nil]); first | done | rfl | (simp only [List.length_drop, List.length_take]; rfl)) ?_; (with_reducible refine (spec_PageFind.calls kj3 _ _ l0 a1 t307 _ ?side1 ?side2 A27.out).mono ?_); (case side1 => repeat (first | exact (Kd.C_below HR0.out HB.out) | (with_reducible refine Kd.C_alloc ?_ _) | (with_reducible refine Kd.C_drewN ?_ _) | (with_reducible refine Kd.C_drew ?_))); (case side2 => exact HC0.out); rintro e w38 ⟨rfl, hb⟩; refine ⟨_, rfl, ?_⟩; replace HO293 := ak (Kd.N_below (by (with_reducible repeat (first | apply Kd.N_alloc | apply Kd.N_drewN | apply Kd.N_drew)); exact HO293.out) hb); replace HO302 := ak (Kd.R_below (by (with_reducible repeat (first | apply Kd.R_alloc | apply Kd.R_drewN | apply Kd.R_drew)); exact HO302.out) hb); replace HO306 := ak (Kd.R_below (by (with_reducible repeat (first | apply Kd.R_alloc | apply Kd.R_drewN | apply Kd.R_drew)); exact HO306.out) hb); replace HB := ak (below_step (by exact hopb HB.out) hb); (try clear hb); have p308 : 0 ≤ (t307 : Int) := of_decide_eq_true (by assumption); have q308 : t307 < (l0.length : Int) := of_decide_eq_true (by assumption); obtain ⟨ad308, A308_0, c308_0, e308, hx308_0, hl308_0, hi308_0⟩ := at_T53 HR0.out t307 p308 q308; cases e308; replace hx308_0 := (HB.out.cell (World.block_lt_of_cell? w _ hx308_0)).trans hx308_0; have HR308_0 := ak hi308_0; have HC308_0 := ak hl308_0; clear hi308_0 hl308_0; replace p308 := eq_true p308; replace q308 := eq_true q308) | ((with_reducible refine gate_callee (f := 49) rfl ?_); refine goesL_ (some 64) rfl rfl Try.func49 (by kernel_rfl) rfl #[.slice A308_0 ((rd_T53 l0 t307).f0).length c308_0, .string a1, .int .i64 a2] rfl (by (try simp only [List.map_toArray, List.map_cons, List.map_nil]); first | done | rfl | (simp only [List.length_drop, List.length_take]; rfl)) ?_; (with_reducible refine (spec_PairPut.calls kj3 _ _ ((rd_T53 l0 t307).f0) a1 a2 t309 t310 _ ?side1 ?side2 A30.out).mono ?_); (case side1 => repeat (first | exact (Kd.C_below HR308_0.out HB.out) | (with_reducible refine Kd.C_alloc ?_ _) | (with_reducible refine Kd.C_drewN ?_ _) | (with_reducible refine Kd.C_drew ?_))); (case side2 => exact HC308_0.out); rintro e w39 ⟨v311, rfl, ho0, hb⟩; refine ⟨_, rfl, ?_⟩; replace HO293 := ak (Kd.N_elder' (by (with_reducible repeat (first | apply Kd.N_alloc | apply Kd.N_drewN | apply Kd.N_drew)); exact HO293.out) (Kd.R_base ho0) hb); have HO312 := ak (Kd.R_lower (Kd.R_new' (Kd.R_new' (Kd.R_newM (M := fun k_ => (w.heap.size ≤ k_)) ho0 (below_size (by exact hopb HB.out)) (fun k_ h_ => h_)) (Kd.R_lt (by (with_reducible repeat (first | apply Kd.R_alloc | apply Kd.R_drewN | apply Kd.R_drew)); exact HO302.out))) (Kd.R_lt (by (with_reducible repeat (first | apply Kd.R_alloc | apply Kd.R_drewN | apply Kd.R_drew)); exact HO306.out))) (below_size (by exact hopb HB.out))); replace HO302 := ak (Kd.R_elder' (by (with_reducible repeat (first | apply Kd.R_alloc | apply Kd.R_drewN | apply Kd.R_drew)); exact HO302.out) (Kd.R_base ho0) hb); replace HO306 := ak (Kd.R_elder' (by (with_reducible repeat (first | apply Kd.R_alloc | apply Kd.R_drewN | apply Kd.R_drew)); exact HO306.out) (Kd.R_base ho0) hb); replace HB := ak (below_step (by exact hopb HB.out) hb); (try clear hb); (try clear ho0); obtain ⟨Ao40, co40, eo40⟩ := Kd.R_slice HO312.out; subst eo40; have p33 : 0 ≤ (t307 : Int) := of_decide_eq_true (by assumption); have q33 : (t307 : Int) < ((t291.length : Int) : Int) := of_decide_eq_true (by assumption); obtain ⟨go33, co33, eo33, gb33, gl33, cl33, HG33⟩ := Kd.N_form HO293.out (by omega); (first | cases eo33 | (injection eo33 with ea_ en_ ec_; (first | subst ea_ | (injection ea_ with ea_; subst ea_)); subst ec_; clear en_)); have GB33 := ak gb33; have GG33 := ak HG33; clear gb33 gl33 HG33; obtain ⟨ce33, hcl33, hM33, hcc33, hfr33⟩ := Kd.N_elem HO293.out z53 (t307 : Int) p33 q33; obtain ⟨ua33_0, uc33_0, rfl, ul33_0, ge33_0⟩ := k53_openF hM33; have hx33_0 := hcc33 0 _ rfl; have hf33_0 := hfr33 0; (try simp only [show (k53).sz = 1 from rfl, Nat.mul_one, Nat.add_zero] at hx33_0); (try simp only [show (k53).sz = 1 from rfl, Nat.mul_one, Nat.add_zero] at hf33_0); clear hcl33 hcc33 hfr33 hM33; replace p33 := eq_true p33; replace q33 := eq_true q33; have n_ := ak (Kd.N_mono (ok' := (fun k_ => (w.heap.size ≤ k_) ∧ some k_ ≠ (.slice Ao36 t300.length co36 : Value).ownBlock ∧ some k_ ≠ (v305 : Value).ownBlock ∧ some k_ ≠ (.slice Ao40 t309.length co40 : Value).ownBlock)) HO293.out (fun k_ hk => ⟨hk.1.1.1, ⟨hk.1.1.2, ⟨hk.1.2, hk.2⟩⟩⟩)); clear HO293; have HO293 := n_; clear n_; have HX41 := ak (show Kd.N k53 53 w39 w.heap.size (fun k_ => (w.heap.size ≤ k_) ∧ some k_ ≠ (.slice Ao36 t300.length co36 : Value).ownBlock ∧ some k_ ≠ (v305 : Value).ownBlock) (.slice (some ⟨go33, 0, none⟩) t291.length co33) t291 from (by (with_reducible repeat (first | apply Kd.N_alloc | apply Kd.N_drewN | apply Kd.N_drew)); exact Kd.N_mono HO293.out (fun _ hk => ⟨hk.1, ⟨hk.2.1, hk.2.2.1⟩⟩))); obtain ⟨ce41, hcl41, hM41, hcc41, hfr41⟩ := Kd.N_elem HX41.out z53 (t307 : Int) (of_decide_eq_true (by assumption)) (by have h_ : (t307 : Int) < ((t291.length : Int) : Int) := of_decide_eq_true (by assumption); first | exact h_ | (have e_ := (Kd.N_reads' HO293.out).1; omega) | simpa using h_); obtain ⟨ua41_0, uc41_0, rfl, ul41_0, ge41_0⟩ := k53_openF hM41; have HP41 := Kd.N_seg HX41.out (t307 : Int) (of_decide_eq_true (by assumption)) (by have h_ : (t307 : Int) < ((t291.length : Int) : Int) := of_decide_eq_true (by assumption); first | exact h_ | (have e_ := (Kd.N_reads' HO293.out).1; omega) | simpa using h_) (seg := [.slice Ao40 t309.length co40]) (j := 0) hcl41 hcc41 (show 1 ≤ 1 from by decide) (x' := (⟨t309⟩ : S53)) (k53_mkF _ _ (⟨t309⟩ : S53) (Kd.R_reads' (Kd.R_mono (ok' := (fun k_ => ((fun k_ => (w.heap.size ≤ k_) ∧ some k_ ≠ (.slice Ao36 t300.length co36 : Value).ownBlock ∧ some k_ ≠ (v305 : Value).ownBlock)) k_ ∧ k_ ≠ go33)) (Kd.R_apart' (HO312.out) (Kd.N_typed HO293.out) (by decide)) (fun k_ hk => ⟨⟨hk.1.1.1.1, ⟨hk.1.1.2, hk.1.2⟩⟩, fun e_ => (hk.2) (by rw [e_]; rfl)⟩))).2.1 (Kd.R_F (Kd.R_mono (ok' := (fun k_ => ((fun k_ => (w.heap.size ≤ k_) ∧ some k_ ≠ (.slice Ao36 t300.length co36 : Value).ownBlock ∧ some k_ ≠ (v305 : Value).ownBlock)) k_ ∧ k_ ≠ go33)) (Kd.R_apart' (HO312.out) (Kd.N_typed HO293.out) (by decide)) (fun k_ hk => ⟨⟨hk.1.1.1.1, ⟨hk.1.1.2, hk.1.2⟩⟩, fun e_ => (hk.2) (by rw [e_]; rfl)⟩)))) (fun _ hk => hk); have hx41_0 := hcc41 0 _ rfl; (try simp only [show (k53).sz = 1 from rfl, Nat.mul_one, Nat.add_zero] at hx41_0); have hf41_0 := hfr41 0; (try simp only [show (k53).sz = 1 from rfl, Nat.mul_one, Nat.add_zero] at hf41_0); clear hcl41 hcc41 hfr41 hM41; (try simp only [show (k53).sz = 1 from rfl, Nat.mul_one, Nat.add_zero] at HP41); (try simp only [show (k53).sz = 1 from rfl, Nat.mul_one, Nat.add_zero] at HP41)) | ((with_reducible refine gate_store (t := 36) (p := 74) rfl ?_); refine store_event (t := 36) (p := 74) (v := ?vo_w42) (w1 := (w39.setCell ⟨go33, (t307 : Int).toNat, none⟩ (.slice Ao40 t309.length co40))) ?hg ?ho ?hn ?hr ?_; (case ho => rfl); (case hg => rfl); (case hn => rfl); (case hr => first | (go_simp; done) | (go_simp; rfl)); intro w42 hw; have hg : w39.grownBy w42 (some go33) := (by rw [hw]; exact HP41.2); have hp_ : Kd.N k53 53 w42 w.heap.size (fun k_ => (w.heap.size ≤ k_) ∧ some k_ ≠ (.slice Ao36 t300.length co36 : Value).ownBlock ∧ some k_ ≠ (v305 : Value).ownBlock) (.slice (some ⟨go33, 0, none⟩) t291.length co33) y313 := (by rw [hw, Ny313.out]; exact HP41.1); clear HP41; replace HO302 := ak (Kd.R_over' (v := (.slice (some ⟨go33, 0, none⟩) t291.length co33)) (by (with_reducible repeat (first | apply Kd.R_alloc | apply Kd.R_drewN | apply Kd.R_drew)); exact HO302.out) (Kd.N_typed HO293.out) (by decide) hg); replace HO306 := ak (Kd.R_over' (v := (.slice (some ⟨go33, 0, none⟩) t291.length co33)) (by (with_reducible repeat (first | apply Kd.R_alloc | apply Kd.R_drewN | apply Kd.R_drew)); exact HO306.out) (Kd.N_typed HO293.out) (by decide) hg); replace HO293 := ak (hp_); replace HB := ak ((by rw [hw]; exact below_set (HB.out) GB33.out : Below w.heap.size w w42)); clear HO312; clear hg hw hp_))
          go_ret2
          exact ⟨_, by first | rfl | (simp [*, errW_none, errW_some] <;> rfl), by (with_reducible repeat (first | apply Kd.N_alloc | apply Kd.N_drewN | apply Kd.N_drew)); exact Kd.N_mono HO293.out (fun _ hk => hk.1), by exact hopb HB.out⟩
         ·rw [if_neg c32] at H
          exact absurd H (by simp)
        ·rw [if_neg c31] at H
         have c31b0 : decide ((t309.length : Int) ≤ 4) = false := decide_eq_false c31
         have c31b1 : decide (t309.length ≤ 4) = false := decide_eq_false (by omega)
         clear c31
         obtain ⟨y314, hy314⟩ : ∃ y_ : List (S53), y_ = (([] : List (S53))) := ⟨_, rfl⟩
         replace H : (if t307 ≤ (t291.length : Int) then ((some (t291.take (t307 : Int).toNat : List (S53))).bind fun y317 => (if y314.length + y317.length < 5864062014805 then ((some (y314 ++ y317 : List (S53))).bind fun y322 => ((some (([] : List (S65)) : List (S65))).bind fun y325 => (if 2 ≤ (t309.length : Int) then ((some (t309.take 2 : List (S65))).bind fun y328 => (if y325.length + y328.length < 5864062014805 then ((some (([] : List (S65)) : List (S65))).bind fun y336 => ((some (t309.drop 2 : List (S65))).bind fun y339 => (if y336.length + y339.length < 5864062014805 then ((some (([(⟨(y325 ++ y328)⟩ : S53), (⟨(y336 ++ y339)⟩ : S53)] : List (S53)) : List (S53))).bind fun y347 => (if y322.length + y347.length < 5864062014805 then ((some (y322 ++ y347 : List (S53))).bind fun y350 => (if 0 ≤ (wrap64 (t307 + 1)) then (if (wrap64 (t307 + 1)) ≤ (t291.length : Int) then ((some (t291.drop ((wrap64 (t307 + 1)) : Int).toNat : List (S53))).bind fun y353 => (if y350.length + y353.length < 5864062014805 then (some ((y350 ++ y353), true)) else (none))) else (none)) else (none))) else (none))) else (none)))) else (none))) else (none)))) else (none))) else (none)) = some (r1, r2) := by first | (rw [hy314]; exact H) | exact H
         have Ny314 := ak hy314
         clear hy314
         have c43b0 := eq_true (of_decide_eq_true (by assumption) : 0 ≤ t307)
         by_cases c44 : t307 ≤ (t291.length : Int)
         ·rw [if_pos c44] at H
          have c44b0 := eq_true c44
          have c44b1 : decide (t307 ≤ (t291.length : Int)) = true := decide_eq_true c44
          clear c44
          obtain ⟨y317, hy317⟩ : ∃ y_ : List (S53), y_ = (t291.take (t307 : Int).toNat) := ⟨_, rfl⟩
          replace H : (if y314.length + y317.length < 5864062014805 then ((some (y314 ++ y317 : List (S53))).bind fun y322 => ((some (([] : List (S65)) : List (S65))).bind fun y325 => (if 2 ≤ (t309.length : Int) then ((some (t309.take 2 : List (S65))).bind fun y328 => (if y325.length + y328.length < 5864062014805 then ((some (([] : List (S65)) : List (S65))).bind fun y336 => ((some (t309.drop 2 : List (S65))).bind fun y339 => (if y336.length + y339.length < 5864062014805 then ((some (([(⟨(y325 ++ y328)⟩ : S53), (⟨(y336 ++ y339)⟩ : S53)] : List (S53)) : List (S53))).bind fun y347 => (if y322.length + y347.length < 5864062014805 then ((some (y322 ++ y347 : List (S53))).bind fun y350 => (if 0 ≤ (wrap64 (t307 + 1)) then (if (wrap64 (t307 + 1)) ≤ (t291.length : Int) then ((some (t291.drop ((wrap64 (t307 + 1)) : Int).toNat : List (S53))).bind fun y353 => (if y350.length + y353.length < 5864062014805 then (some ((y350 ++ y353), true)) else (none))) else (none)) else (none))) else (none))) else (none)))) else (none))) else (none)))) else (none)) = some (r1, r2) := by first | (rw [hy317]; exact H) | exact H
          have Ny317 := ak hy317
          clear hy317
          by_cases c45 : y314.length + y317.length < 5864062014805
          ·rw [if_pos c45] at H
           have LMc45 := ak c45
           clear c45
           obtain ⟨y322, hy322⟩ : ∃ y_ : List (S53), y_ = (y314 ++ y317) := ⟨_, rfl⟩
           replace H : ((some (([] : List (S65)) : List (S65))).bind fun y325 => (if 2 ≤ (t309.length : Int) then ((some (t309.take 2 : List (S65))).bind fun y328 => (if y325.length + y328.length < 5864062014805 then ((some (([] : List (S65)) : List (S65))).bind fun y336 => ((some (t309.drop 2 : List (S65))).bind fun y339 => (if y336.length + y339.length < 5864062014805 then ((some (([(⟨(y325 ++ y328)⟩ : S53), (⟨(y336 ++ y339)⟩ : S53)] : List (S53)) : List (S53))).bind fun y347 => (if y322.length + y347.length < 5864062014805 then ((some (y322 ++ y347 : List (S53))).bind fun y350 => (if 0 ≤ (wrap64 (t307 + 1)) then (if (wrap64 (t307 + 1)) ≤ (t291.length : Int) then ((some (t291.drop ((wrap64 (t307 + 1)) : Int).toNat : List (S53))).bind fun y353 => (if y350.length + y353.length < 5864062014805 then (some ((y350 ++ y353), true)) else (none))) else (none)) else (none))) else (none))) else (none)))) else (none))) else (none))) = some (r1, r2) := by first | (rw [hy322]; exact H) | exact H
           have Ny322 := ak hy322
           clear hy322
           obtain ⟨y325, hy325⟩ : ∃ y_ : List (S65), y_ = (([] : List (S65))) := ⟨_, rfl⟩
           replace H : (if 2 ≤ (t309.length : Int) then ((some (t309.take 2 : List (S65))).bind fun y328 => (if y325.length + y328.length < 5864062014805 then ((some (([] : List (S65)) : List (S65))).bind fun y336 => ((some (t309.drop 2 : List (S65))).bind fun y339 => (if y336.length + y339.length < 5864062014805 then ((some (([(⟨(y325 ++ y328)⟩ : S53), (⟨(y336 ++ y339)⟩ : S53)] : List (S53)) : List (S53))).bind fun y347 => (if y322.length + y347.length < 5864062014805 then ((some (y322 ++ y347 : List (S53))).bind fun y350 => (if 0 ≤ (wrap64 (t307 + 1)) then (if (wrap64 (t307 + 1)) ≤ (t291.length : Int) then ((some (t291.drop ((wrap64 (t307 + 1)) : Int).toNat : List (S53))).bind fun y353 => (if y350.length + y353.length < 5864062014805 then (some ((y350 ++ y353), true)) else (none))) else (none)) else (none))) else (none))) else (none)))) else (none))) else (none)) = some (r1, r2) := by first | (rw [hy325]; exact H) | exact H
           have Ny325 := ak hy325
           clear hy325
           by_cases c46 : 2 ≤ (t309.length : Int)
           ·rw [if_pos c46] at H
            have c46b0 := eq_true c46
            have c46b1 : decide (2 ≤ (t309.length : Int)) = true := decide_eq_true c46
            clear c46
            obtain ⟨y328, hy328⟩ : ∃ y_ : List (S65), y_ = (t309.take 2) := ⟨_, rfl⟩
            replace H : (if y325.length + y328.length < 5864062014805 then ((some (([] : List (S65)) : List (S65))).bind fun y336 => ((some (t309.drop 2 : List (S65))).bind fun y339 => (if y336.length + y339.length < 5864062014805 then ((some (([(⟨(y325 ++ y328)⟩ : S53), (⟨(y336 ++ y339)⟩ : S53)] : List (S53)) : List (S53))).bind fun y347 => (if y322.length + y347.length < 5864062014805 then ((some (y322 ++ y347 : List (S53))).bind fun y350 => (if 0 ≤ (wrap64 (t307 + 1)) then (if (wrap64 (t307 + 1)) ≤ (t291.length : Int) then ((some (t291.drop ((wrap64 (t307 + 1)) : Int).toNat : List (S53))).bind fun y353 => (if y350.length + y353.length < 5864062014805 then (some ((y350 ++ y353), true)) else (none))) else (none)) else (none))) else (none))) else (none)))) else (none)) = some (r1, r2) := by first | (rw [hy328]; exact H) | exact H
            have Ny328 := ak hy328
            clear hy328
            by_cases c47 : y325.length + y328.length < 5864062014805
            ·rw [if_pos c47] at H
             have LMc47 := ak c47
             clear c47
             obtain ⟨y333, hy333⟩ : ∃ y_ : List (S65), y_ = (y325 ++ y328) := ⟨_, rfl⟩
             replace H : ((some (([] : List (S65)) : List (S65))).bind fun y336 => ((some (t309.drop 2 : List (S65))).bind fun y339 => (if y336.length + y339.length < 5864062014805 then ((some (([(⟨y333⟩ : S53), (⟨(y336 ++ y339)⟩ : S53)] : List (S53)) : List (S53))).bind fun y347 => (if y322.length + y347.length < 5864062014805 then ((some (y322 ++ y347 : List (S53))).bind fun y350 => (if 0 ≤ (wrap64 (t307 + 1)) then (if (wrap64 (t307 + 1)) ≤ (t291.length : Int) then ((some (t291.drop ((wrap64 (t307 + 1)) : Int).toNat : List (S53))).bind fun y353 => (if y350.length + y353.length < 5864062014805 then (some ((y350 ++ y353), true)) else (none))) else (none)) else (none))) else (none))) else (none)))) = some (r1, r2) := by first | (rw [hy333]; exact H) | exact H
             have Ny333 := ak hy333
             clear hy333
             obtain ⟨y336, hy336⟩ : ∃ y_ : List (S65), y_ = (([] : List (S65))) := ⟨_, rfl⟩
             replace H : ((some (t309.drop 2 : List (S65))).bind fun y339 => (if y336.length + y339.length < 5864062014805 then ((some (([(⟨y333⟩ : S53), (⟨(y336 ++ y339)⟩ : S53)] : List (S53)) : List (S53))).bind fun y347 => (if y322.length + y347.length < 5864062014805 then ((some (y322 ++ y347 : List (S53))).bind fun y350 => (if 0 ≤ (wrap64 (t307 + 1)) then (if (wrap64 (t307 + 1)) ≤ (t291.length : Int) then ((some (t291.drop ((wrap64 (t307 + 1)) : Int).toNat : List (S53))).bind fun y353 => (if y350.length + y353.length < 5864062014805 then (some ((y350 ++ y353), true)) else (none))) else (none)) else (none))) else (none))) else (none))) = some (r1, r2) := by first | (rw [hy336]; exact H) | exact H
             have Ny336 := ak hy336
             clear hy336
             have c48b0 := eq_true (of_decide_eq_true (by assumption) : 2 ≤ (t309.length : Int))
             obtain ⟨y339, hy339⟩ : ∃ y_ : List (S65), y_ = (t309.drop 2) := ⟨_, rfl⟩
             replace H : (if y336.length + y339.length < 5864062014805 then ((some (([(⟨y333⟩ : S53), (⟨(y336 ++ y339)⟩ : S53)] : List (S53)) : List (S53))).bind fun y347 => (if y322.length + y347.length < 5864062014805 then ((some (y322 ++ y347 : List (S53))).bind fun y350 => (if 0 ≤ (wrap64 (t307 + 1)) then (if (wrap64 (t307 + 1)) ≤ (t291.length : Int) then ((some (t291.drop ((wrap64 (t307 + 1)) : Int).toNat : List (S53))).bind fun y353 => (if y350.length + y353.length < 5864062014805 then (some ((y350 ++ y353), true)) else (none))) else (none)) else (none))) else (none))) else (none)) = some (r1, r2) := by first | (rw [hy339]; exact H) | exact H
             have Ny339 := ak hy339
             clear hy339
             by_cases c49 : y336.length + y339.length < 5864062014805
             ·rw [if_pos c49] at H
              have LMc49 := ak c49
              clear c49
              obtain ⟨y344, hy344⟩ : ∃ y_ : List (S65), y_ = (y336 ++ y339) := ⟨_, rfl⟩
              replace H : ((some (([(⟨y333⟩ : S53), (⟨y344⟩ : S53)] : List (S53)) : List (S53))).bind fun y347 => (if y322.length + y347.length < 5864062014805 then ((some (y322 ++ y347 : List (S53))).bind fun y350 => (if 0 ≤ (wrap64 (t307 + 1)) then (if (wrap64 (t307 + 1)) ≤ (t291.length : Int) then ((some (t291.drop ((wrap64 (t307 + 1)) : Int).toNat : List (S53))).bind fun y353 => (if y350.length + y353.length < 5864062014805 then (some ((y350 ++ y353), true)) else (none))) else (none)) else (none))) else (none))) = some (r1, r2) := by first | (rw [hy344]; exact H) | exact H
              have Ny344 := ak hy344
              clear hy344
              obtain ⟨y347, hy347⟩ : ∃ y_ : List (S53), y_ = (([(⟨y333⟩ : S53), (⟨y344⟩ : S53)] : List (S53))) := ⟨_, rfl⟩
              replace H : (if y322.length + y347.length < 5864062014805 then ((some (y322 ++ y347 : List (S53))).bind fun y350 => (if 0 ≤ (wrap64 (t307 + 1)) then (if (wrap64 (t307 + 1)) ≤ (t291.length : Int) then ((some (t291.drop ((wrap64 (t307 + 1)) : Int).toNat : List (S53))).bind fun y353 => (if y350.length + y353.length < 5864062014805 then (some ((y350 ++ y353), true)) else (none))) else (none)) else (none))) else (none)) = some (r1, r2) := by first | (rw [hy347]; exact H) | exact H
              have Ny347 := ak hy347
              clear hy347
              by_cases c50 : y322.length + y347.length < 5864062014805
              ·rw [if_pos c50] at H
               have LMc50 := ak c50
               clear c50
               obtain ⟨y350, hy350⟩ : ∃ y_ : List (S53), y_ = (y322 ++ y347) := ⟨_, rfl⟩
               replace H : (if 0 ≤ (wrap64 (t307 + 1)) then (if (wrap64 (t307 + 1)) ≤ (t291.length : Int) then ((some (t291.drop ((wrap64 (t307 + 1)) : Int).toNat : List (S53))).bind fun y353 => (if y350.length + y353.length < 5864062014805 then (some ((y350 ++ y353), true)) else (none))) else (none)) else (none)) = some (r1, r2) := by first | (rw [hy350]; exact H) | exact H
               have Ny350 := ak hy350
               clear hy350
               obtain ⟨ji51, hji51⟩ : ∃ j_ : Int, (wrap64 (t307 + 1)) = j_ := ⟨_, rfl⟩
               replace H : (if 0 ≤ (ji51) then (if (ji51) ≤ (t291.length : Int) then ((some (t291.drop ((ji51) : Int).toNat : List (S53))).bind fun y353 => (if y350.length + y353.length < 5864062014805 then (some ((y350 ++ y353), true)) else (none))) else (none)) else (none)) = some (r1, r2) := by first | (rw [hji51] at H; exact H) | (simp only [hji51] at H ⊢; exact H)
               (try rw [hji51] at A16)
               (try rw [hji51] at A24)
               (try rw [hji51] at A25)
               (try rw [hji51] at A27)
               (try rw [hji51] at A30)
               have hji51w : (IntKind.i64.wrap (t307 + 1)) = ji51 := (i64_w _).trans hji51
               by_cases c52 : 0 ≤ (ji51)
               ·rw [if_pos c52] at H
                have c52b0 := eq_true c52
                have c52b1 : decide (0 ≤ (ji51)) = true := decide_eq_true c52
                clear c52
                by_cases c53 : (ji51) ≤ (t291.length : Int)
                ·rw [if_pos c53] at H
                 have c53b0 := eq_true c53
                 have c53b1 : decide ((ji51) ≤ (t291.length : Int)) = true := decide_eq_true c53
                 clear c53
                 obtain ⟨y353, hy353⟩ : ∃ y_ : List (S53), y_ = (t291.drop ((ji51) : Int).toNat) := ⟨_, rfl⟩
                 replace H : (if y350.length + y353.length < 5864062014805 then (some ((y350 ++ y353), true)) else (none)) = some (r1, r2) := by first | (rw [hy353]; exact H) | exact H
                 have Ny353 := ak hy353
                 clear hy353
                 by_cases c54 : y350.length + y353.length < 5864062014805
                 ·rw [if_pos c54] at H
                  have LMc54 := ak c54
                  clear c54
                  obtain ⟨y358, hy358⟩ : ∃ y_ : List (S53), y_ = (y350 ++ y353) := ⟨_, rfl⟩
                  replace H : (some (y358, true)) = some (r1, r2) := by first | (rw [hy358]; exact H) | exact H
                  have Ny358 := ak hy358
                  clear hy358
                  simp only [Option.some.injEq, Prod.mk.injEq] at H
                  obtain ⟨rfl, rfl⟩ := H
                  try go_wp2_with (first | ((with_reducible refine gate_callee (f := 25) rfl ?_); refine goesL_ (some 30) rfl rfl Try.func25 (by kernel_rfl) rfl #[.slice A0 l0.length c0] rfl (by (try simp only [List.map_toArray, List.map_cons, List.map_nil]); first | done | rfl | (simp only [List.length_drop, List.length_take]; rfl)) ?_; (with_reducible refine (spec_l6Copy.calls kj3 _ _ l0 t291 _ ?side1 ?side2 A16.out).mono ?_); (case side1 => repeat (first | exact (Kd.C_below HR0.out HB.out) | (with_reducible refine Kd.C_alloc ?_ _) | (with_reducible refine Kd.C_drewN ?_ _) | (with_reducible refine Kd.C_drew ?_))); (case side2 => exact HC0.out); rintro e w55 ⟨v292, rfl, ho0, hb⟩; refine ⟨_, rfl, ?_⟩; have HO293 := ak (Kd.N_lower (Kd.N_mono (ok' := fun k_ => (w.heap.size ≤ k_)) (Kd.S_N (Kd.S_bound ho0)) (fun k_ hk_ => (Nat.le_trans (below_size (by exact hopb HB.out)) hk_.2.1))) (below_size (by exact hopb HB.out))); replace HB := ak (below_step (by exact hopb HB.out) hb); (try clear hb); (try clear ho0)) | ((with_reducible refine gate_callee (f := 41) rfl ?_); refine goesL_ (some 44) rfl rfl Try.func41 (by kernel_rfl) rfl #[.slice A0 l0.length c0] rfl (by (try simp only [List.map_toArray, List.map_cons, List.map_nil]); first | done | rfl | (simp only [List.length_drop, List.length_take]; rfl)) ?_; (with_reducible refine (spec_PagesList.calls kj3 _ _ l0 t300 _ ?side1 ?side2 A24.out).mono ?_); (case side1 => repeat (first | exact (Kd.C_below HR0.out HB.out) | (with_reducible refine Kd.C_alloc ?_ _) | (with_reducible refine Kd.C_drewN ?_ _) | (with_reducible refine Kd.C_drew ?_))); (case side2 => exact HC0.out); rintro e w56 ⟨v301, rfl, ho0, hb⟩; refine ⟨_, rfl, ?_⟩; replace HO293 := ak (Kd.N_elder' (by (with_reducible repeat (first | apply Kd.N_alloc | apply Kd.N_drewN | apply Kd.N_drew)); exact HO293.out) (Kd.R_base ho0) hb); have HO302 := ak (Kd.R_lower (Kd.R_newM (M := fun k_ => (w.heap.size ≤ k_)) ho0 (below_size (by exact hopb HB.out)) (fun k_ h_ => h_)) (below_size (by exact hopb HB.out))); replace HB := ak (below_step (by exact hopb HB.out) hb); (try clear hb); (try clear ho0); obtain ⟨Ao57, co57, eo57⟩ := Kd.R_slice HO302.out; subst eo57) | ((with_reducible refine gate_callee (f := 49) rfl ?_); refine goesL_ (some 47) rfl rfl Try.func49 (by kernel_rfl) rfl #[.slice Ao57 t300.length co57, .string a1, .int .i64 a2] rfl (by (try simp only [List.map_toArray, List.map_cons, List.map_nil]); first | done | rfl | (simp only [List.length_drop, List.length_take]; rfl)) ?_; (with_reducible refine (spec_PairPut.calls kj3 _ _ t300 a1 a2 t303 true _ ?side1 ?side2 A25.out).mono ?_); (case side1 => repeat (first | exact (Kd.R_reads' HO302.out).2.2 | (with_reducible refine Kd.C_alloc ?_ _) | (with_reducible refine Kd.C_drewN ?_ _) | (with_reducible refine Kd.C_drew ?_))); (case side2 => exact (Kd.R_reads' HO302.out).2.1); rintro e w58 ⟨v305, rfl, ho0, hb⟩; refine ⟨_, rfl, ?_⟩; replace HO293 := ak (Kd.N_elder' (by (with_reducible repeat (first | apply Kd.N_alloc | apply Kd.N_drewN | apply Kd.N_drew)); exact HO293.out) (Kd.R_base ho0) hb); have HO306 := ak (Kd.R_lower (Kd.R_new' (Kd.R_newM (M := fun k_ => (w.heap.size ≤ k_)) ho0 (below_size (by exact hopb HB.out)) (fun k_ h_ => h_)) (Kd.R_lt (by (with_reducible repeat (first | apply Kd.R_alloc | apply Kd.R_drewN | apply Kd.R_drew)); exact HO302.out))) (below_size (by exact hopb HB.out))); replace HO302 := ak (Kd.R_elder' (by (with_reducible repeat (first | apply Kd.R_alloc | apply Kd.R_drewN | apply Kd.R_drew)); exact HO302.out) (Kd.R_base ho0) hb); replace HB := ak (below_step (by exact hopb HB.out) hb); (try clear hb); (try clear ho0)) | ((with_reducible refine gate_callee (f := 26) rfl ?_); refine goesL_ (some 55) rfl rfl Try.func26 (by kernel_rfl) rfl #[.slice A0 l0.length c0, .string a1] rfl (by (try simp only [List.map_toArray, List.map_cons, List.map_nil]); first | done | rfl | (simp only [List.length_drop, List.length_take]; rfl)) ?_; (with_reducible refine (spec_PageFind.calls kj3 _ _ l0 a1 t307 _ ?side1 ?side2 A27.out).mono ?_); (case side1 => repeat (first | exact (Kd.C_below HR0.out HB.out) | (with_reducible refine Kd.C_alloc ?_ _) | (with_reducible refine Kd.C_drewN ?_ _) | (with_reducible refine Kd.C_drew ?_))); (case side2 => exact HC0.out); rintro e w59 ⟨rfl, hb⟩; refine ⟨_, rfl, ?_⟩; replace HO293 := ak (Kd.N_below (by (with_reducible repeat (first | apply Kd.N_alloc | apply Kd.N_drewN | apply Kd.N_drew)); exact HO293.out) hb); replace HO302 := ak (Kd.R_below (by (with_reducible repeat (first | apply Kd.R_alloc | apply Kd.R_drewN | apply Kd.R_drew)); exact HO302.out) hb); replace HO306 := ak (Kd.R_below (by (with_reducible repeat (first | apply Kd.R_alloc | apply Kd.R_drewN | apply Kd.R_drew)); exact HO306.out) hb); replace HB := ak (below_step (by exact hopb HB.out) hb); (try clear hb); have p308 : 0 ≤ (t307 : Int) := of_decide_eq_true (by assumption); have q308 : t307 < (l0.length : Int) := of_decide_eq_true (by assumption); obtain ⟨ad308, A308_0, c308_0, e308, hx308_0, hl308_0, hi308_0⟩ := at_T53 HR0.out t307 p308 q308; cases e308; replace hx308_0 := (HB.out.cell (World.block_lt_of_cell? w _ hx308_0)).trans hx308_0; have HR308_0 := ak hi308_0; have HC308_0 := ak hl308_0; clear hi308_0 hl308_0; replace p308 := eq_true p308; replace q308 := eq_true q308) | ((with_reducible refine gate_callee (f := 49) rfl ?_); refine goesL_ (some 64) rfl rfl Try.func49 (by kernel_rfl) rfl #[.slice A308_0 ((rd_T53 l0 t307).f0).length c308_0, .string a1, .int .i64 a2] rfl (by (try simp only [List.map_toArray, List.map_cons, List.map_nil]); first | done | rfl | (simp only [List.length_drop, List.length_take]; rfl)) ?_; (with_reducible refine (spec_PairPut.calls kj3 _ _ ((rd_T53 l0 t307).f0) a1 a2 t309 t310 _ ?side1 ?side2 A30.out).mono ?_); (case side1 => repeat (first | exact (Kd.C_below HR308_0.out HB.out) | (with_reducible refine Kd.C_alloc ?_ _) | (with_reducible refine Kd.C_drewN ?_ _) | (with_reducible refine Kd.C_drew ?_))); (case side2 => exact HC308_0.out); rintro e w60 ⟨v311, rfl, ho0, hb⟩; refine ⟨_, rfl, ?_⟩; replace HO293 := ak (Kd.N_elder' (by (with_reducible repeat (first | apply Kd.N_alloc | apply Kd.N_drewN | apply Kd.N_drew)); exact HO293.out) (Kd.R_base ho0) hb); have HO312 := ak (Kd.R_lower (Kd.R_new' (Kd.R_new' (Kd.R_newM (M := fun k_ => (w.heap.size ≤ k_)) ho0 (below_size (by exact hopb HB.out)) (fun k_ h_ => h_)) (Kd.R_lt (by (with_reducible repeat (first | apply Kd.R_alloc | apply Kd.R_drewN | apply Kd.R_drew)); exact HO302.out))) (Kd.R_lt (by (with_reducible repeat (first | apply Kd.R_alloc | apply Kd.R_drewN | apply Kd.R_drew)); exact HO306.out))) (below_size (by exact hopb HB.out))); replace HO302 := ak (Kd.R_elder' (by (with_reducible repeat (first | apply Kd.R_alloc | apply Kd.R_drewN | apply Kd.R_drew)); exact HO302.out) (Kd.R_base ho0) hb); replace HO306 := ak (Kd.R_elder' (by (with_reducible repeat (first | apply Kd.R_alloc | apply Kd.R_drewN | apply Kd.R_drew)); exact HO306.out) (Kd.R_base ho0) hb); replace HB := ak (below_step (by exact hopb HB.out) hb); (try clear hb); (try clear ho0); obtain ⟨Ao61, co61, eo61⟩ := Kd.R_slice HO312.out; subst eo61) | ((with_reducible refine gate_dst (N := 76) rfl ?_); refine Kd.N_lit k53 _ 53 ?hg (N' := 76) ?hd (xs := ([] : List (S53))) (inner := []) (ok := (fun k_ => (w.heap.size ≤ k_) ∧ some k_ ≠ (v292 : Value).ownBlock ∧ some k_ ≠ (.slice Ao57 t300.length co57 : Value).ownBlock ∧ some k_ ≠ (v305 : Value).ownBlock ∧ some k_ ≠ (.slice Ao61 t309.length co61 : Value).ownBlock)) (okp := (fun k_ => (w.heap.size ≤ k_) ∧ some k_ ≠ (v292 : Value).ownBlock ∧ some k_ ≠ (.slice Ao57 t300.length co57 : Value).ownBlock ∧ some k_ ≠ (v305 : Value).ownBlock ∧ some k_ ≠ (.slice Ao61 t309.length co61 : Value).ownBlock)) ?hr ?hp (fun _ hk => hk) ((show ∀ k_, w60.heap.size ≤ k_ → (fun k_ => (w.heap.size ≤ k_) ∧ some k_ ≠ (v292 : Value).ownBlock ∧ some k_ ≠ (.slice Ao57 t300.length co57 : Value).ownBlock ∧ some k_ ≠ (v305 : Value).ownBlock ∧ some k_ ≠ (.slice Ao61 t309.length co61 : Value).ownBlock) k_ from fun k_ hk => ⟨(Nat.le_trans (below_size (by exact hopb HB.out)) hk), Kd.fresh' (Kd.N_lt (by (with_reducible repeat (first | apply Kd.N_alloc | apply Kd.N_drewN | apply Kd.N_drew)); exact HO293.out)) k_ hk, Kd.fresh' (Kd.R_lt (by (with_reducible repeat (first | apply Kd.R_alloc | apply Kd.R_drewN | apply Kd.R_drew)); exact HO302.out)) k_ hk, Kd.fresh' (Kd.R_lt (by (with_reducible repeat (first | apply Kd.R_alloc | apply Kd.R_drewN | apply Kd.R_drew)); exact HO306.out)) k_ hk, Kd.fresh' (Kd.R_lt (by (with_reducible repeat (first | apply Kd.R_alloc | apply Kd.R_drewN | apply Kd.R_drew)); exact HO312.out)) k_ hk⟩) _ (Nat.le_refl _)) (Below.refl _ _) (Nat.le_refl _) (by simp) ?_; (case hd => rfl); (case hg => rfl); (case hr => first | (go_simp; done) | (go_simp; rfl)); (case hp => exact (Reps.none _ _)); intro v315 w62 ho63 hb hg_ hnew_; clear hg_ hnew_; (first | rw [← Ny314.out] at ho63 | (simp only [Int.reduceToNat] at ho63; rw [← Ny314.out] at ho63)); replace HO293 := ak (Kd.N_elder' (by (with_reducible repeat (first | apply Kd.N_alloc | apply Kd.N_drewN | apply Kd.N_drew)); exact HO293.out) (Kd.N_base ho63) hb); replace HO302 := ak (Kd.R_below (by (with_reducible repeat (first | apply Kd.R_alloc | apply Kd.R_drewN | apply Kd.R_drew)); exact HO302.out) hb); replace HO306 := ak (Kd.R_below (by (with_reducible repeat (first | apply Kd.R_alloc | apply Kd.R_drewN | apply Kd.R_drew)); exact HO306.out) hb); replace HO312 := ak (Kd.R_below (by (with_reducible repeat (first | apply Kd.R_alloc | apply Kd.R_drewN | apply Kd.R_drew)); exact HO312.out) hb); have HO316 := ak (Kd.N_lower ho63 (below_size (by exact hopb HB.out))); replace HB := ak (below_step (by exact hopb HB.out) hb); clear hb ho63; obtain ⟨Ao65, co65, eo65⟩ := Kd.N_slice HO293.out; subst eo65; have q64 : (t307 : Int) ≤ ((t291.length : Int) : Int) := of_decide_eq_true (by assumption); obtain ⟨i064, hi064, _, hsz64, _⟩ := info_parts info53; have hroom64 : t291.length ≤ co65 := (Kd.N_reads' HO293.out).2.1; have hC64 : Kd.F k53 _ _ Ao65 t291.length t291 := (Kd.V_at (base := w.heap.size) (Kd.N_V HO293.out)).2.2; have hcut64 := cut_to (P := Try.prog) 24 53 .i64 Try.underlying24 hi064 Ao65 t291.length co65 t307 (of_decide_eq_true (by assumption)) q64 hroom64; have hr64 := Kd.F_take (m := (t307 : Int).toNat) hC64 (by omega); have hy64 : y317.length = (t307 : Int).toNat := (by rw [Ny317.out, List.length_take]; omega); rw [← Ny317.out] at hr64; rw [← hy64] at hcut64; have HO321 := ak (show Kd.V k53 53 _ w.heap.size _ (.slice Ao65 y317.length co65) y317 from Kd.V_mk (by omega) hr64); have HC321 := ak (show y317.length ≤ co65 from by omega); clear hr64 hC64 hroom64 hi064 hsz64; have KY64 := ak hy64; clear hy64; replace q64 := eq_true q64) | ((with_reducible refine gate_builtin (b := .append) (xs := #[.tmp 76, .tmp 79]) rfl ?_); at_builtin; refine Kd.N_append_rows k53 (w0 := w) w.heap.size rfl (.tmp 76) (.tmp 79) 24 53 (.agg #[(.slice none 0 0)]) 24 rfl Try.underlying24 info53 rfl (by decide) (by omega) v315 y314 y317 _ _ _ (fun k_ => (w.heap.size ≤ k_) ∧ some k_ ≠ (.slice Ao57 t300.length co57 : Value).ownBlock ∧ some k_ ≠ (v305 : Value).ownBlock ∧ some k_ ≠ (.slice Ao61 t309.length co61 : Value).ownBlock) (fun k_ => ((fun k_ => (w.heap.size ≤ k_) ∧ some k_ ≠ (.slice Ao57 t300.length co57 : Value).ownBlock ∧ some k_ ≠ (v305 : Value).ownBlock ∧ some k_ ≠ (.slice Ao61 t309.length co61 : Value).ownBlock)) k_ ∧ some k_ ≠ (v315 : Value).ownBlock) rfl rfl ?aO ?aR (fun _ hk => hk) ?aF ?aB ?aS ?aL ?_; (case aR => exact (by skip; exact Kd.V_F (Kd.V_mono (ok' := (fun k_ => ((fun k_ => (w.heap.size ≤ k_) ∧ some k_ ≠ (.slice Ao57 t300.length co57 : Value).ownBlock ∧ some k_ ≠ (v305 : Value).ownBlock ∧ some k_ ≠ (.slice Ao61 t309.length co61 : Value).ownBlock)) k_ ∧ some k_ ≠ (v315 : Value).ownBlock)) (HO321.out) (fun k_ hk => ⟨⟨hk.1.1.1.1, ⟨hk.1.1.1.2, ⟨hk.1.1.2, hk.1.2⟩⟩⟩, hk.2⟩)))); (case aB => exact (by exact hopb HB.out)); (case aF => exact (fun k_ hk => ⟨(Nat.le_trans (below_size (by exact hopb HB.out)) hk), Kd.fresh' (Kd.R_lt (by (with_reducible repeat (first | apply Kd.R_alloc | apply Kd.R_drewN | apply Kd.R_drew)); exact HO302.out)) k_ hk, Kd.fresh' (Kd.R_lt (by (with_reducible repeat (first | apply Kd.R_alloc | apply Kd.R_drewN | apply Kd.R_drew)); exact HO306.out)) k_ hk, Kd.fresh' (Kd.R_lt (by (with_reducible repeat (first | apply Kd.R_alloc | apply Kd.R_drewN | apply Kd.R_drew)); exact HO312.out)) k_ hk⟩)); (case aO => exact (by (with_reducible repeat (first | apply Kd.N_alloc | apply Kd.N_drewN | apply Kd.N_drew)); exact Kd.N_mono HO316.out (fun _ hk => ⟨hk.1, ⟨hk.2.2.1, ⟨hk.2.2.2.1, hk.2.2.2.2⟩⟩⟩))); (case aS => exact (below_size (by exact hopb HB.out))); (case aL => have := LMc45.out; omega); intro v323 w66 ho hb hg hat; rw [← Ny322.out] at ho; replace HO293 := ak (Kd.N_afterv (ok := (fun k_ => (w.heap.size ≤ k_) ∧ some k_ ≠ (.slice Ao57 t300.length co57 : Value).ownBlock ∧ some k_ ≠ (v305 : Value).ownBlock ∧ some k_ ≠ (.slice Ao61 t309.length co61 : Value).ownBlock)) (by (with_reducible repeat (first | apply Kd.N_alloc | apply Kd.N_drewN | apply Kd.N_drew)); exact Kd.N_mono HO293.out (fun _ hk => ⟨⟨hk.1.1.1.1, ⟨hk.1.1.1.2, ⟨hk.1.1.2, hk.1.2⟩⟩⟩, hk.2⟩)) hg hat); replace HO302 := ak (Kd.R_over' (by (with_reducible repeat (first | apply Kd.R_alloc | apply Kd.R_drewN | apply Kd.R_drew)); exact HO302.out) (Kd.N_typed (by (with_reducible repeat (first | apply Kd.N_alloc | apply Kd.N_drewN | apply Kd.N_drew)); exact HO316.out)) (by decide) hg); replace HO306 := ak (Kd.R_over' (by (with_reducible repeat (first | apply Kd.R_alloc | apply Kd.R_drewN | apply Kd.R_drew)); exact HO306.out) (Kd.N_typed (by (with_reducible repeat (first | apply Kd.N_alloc | apply Kd.N_drewN | apply Kd.N_drew)); exact HO316.out)) (by decide) hg); replace HO312 := ak (Kd.R_over' (by (with_reducible repeat (first | apply Kd.R_alloc | apply Kd.R_drewN | apply Kd.R_drew)); exact HO312.out) (Kd.N_typed (by (with_reducible repeat (first | apply Kd.N_alloc | apply Kd.N_drewN | apply Kd.N_drew)); exact HO316.out)) (by decide) hg); replace HO321 := ak (Kd.V_afterv (ok := (fun k_ => (w.heap.size ≤ k_) ∧ some k_ ≠ (.slice Ao57 t300.length co57 : Value).ownBlock ∧ some k_ ≠ (v305 : Value).ownBlock ∧ some k_ ≠ (.slice Ao61 t309.length co61 : Value).ownBlock)) (by (with_reducible repeat (first | apply Kd.V_alloc | apply Kd.V_drewN | apply Kd.V_drew)); exact Kd.V_mono HO321.out (fun _ hk => ⟨⟨hk.1.1.1.1, ⟨hk.1.1.1.2, ⟨hk.1.1.2, hk.1.2⟩⟩⟩, hk.2⟩)) hg hat); replace HB := ak (hb); have HO324 := ak (ho); clear HO316; clear ho hb hg hat; obtain ⟨Ao67, co67, eo67⟩ := Kd.N_slice HO324.out; subst eo67))
                  replace HO293 := ak (Kd.N_drew HO293.out)
                  replace HO302 := ak (Kd.R_drew HO302.out)
                  replace HO306 := ak (Kd.R_drew HO306.out)
                  replace HO312 := ak (Kd.R_drew HO312.out)
                  replace HO321 := ak (Kd.V_drew HO321.out)
                  replace HO324 := ak (Kd.N_drew HO324.out)
                  replace HB := ak (below_drew1 HB.out)
                  have q69 : (2 : Int) ≤ ((t309.length : Int) : Int) := of_decide_eq_true (by assumption)
                  obtain ⟨i069, hi069, _, hsz69, _⟩ := info_parts info65
                  have hroom69 : t309.length ≤ co61 := (Kd.R_reads' HO312.out).2.1
                  have hC69 : Kd.F k65 _ _ Ao61 t309.length t309 := (Kd.V_at (base := w.heap.size) (Kd.R_V (Kd.R_apart' (Kd.R_apart' (HO312.out) (Kd.N_typed HO293.out) (by decide)) (Kd.N_typed HO324.out) (by decide)))).2.2
                  have hcut69 := cut_to (P := Try.prog) 36 65 .i64 Try.underlying36 hi069 Ao61 t309.length co61 2 (by omega) q69 hroom69
                  have hr69 := Kd.F_take (m := 2) hC69 (by omega)
                  have hy69 : y328.length = (2 : Int).toNat := (by rw [Ny328.out, List.length_take]; omega)
                  rw [← Ny328.out] at hr69
                  rw [← hy69] at hcut69
                  have HO332 := ak (show Kd.V k65 65 _ w.heap.size _ (.slice Ao61 y328.length co61) y328 from Kd.V_mk (by omega) hr69)
                  have HC332 := ak (show y328.length ≤ co61 from by omega)
                  clear hr69 hC69 hroom69 hi069 hsz69
                  have KY69 := ak hy69
                  clear hy69
                  replace q69 := eq_true q69
                  have q70 : (2 : Int) ≤ ((t309.length : Int) : Int) := of_decide_eq_true (by assumption)
                  obtain ⟨i070, hi070, _, hsz70, _⟩ := info_parts info65
                  have hroom70 : t309.length ≤ co61 := (Kd.R_reads' HO312.out).2.1
                  have hC70 : Kd.F k65 _ _ Ao61 t309.length t309 := (Kd.V_at (base := w.heap.size) (Kd.R_V (Kd.R_apart' (Kd.R_apart' (HO312.out) (Kd.N_typed HO293.out) (by decide)) (Kd.N_typed HO324.out) (by decide)))).2.2
                  have hcut70 := cut_from (P := Try.prog) 36 65 .i64 Try.underlying36 hi070 2 hsz70 Ao61 t309.length co61 2 (by omega) q70
                  have hr70 := Kd.F_cut (m := (2 : Int).toNat) (c := co61) hC70 (by omega) hroom70
                  obtain ⟨A70, hA70⟩ : ∃ A1, A1 = (if co61 = (2 : Int).toNat then Ao61 else (Ao61 : Option Addr).map (·.add ((2 : Int).toNat * 2))) := ⟨_, rfl⟩
                  obtain ⟨c70, hc70⟩ : ∃ c1, c1 = co61 - (2 : Int).toNat := ⟨_, rfl⟩
                  have hy70 : y339.length = t309.length - (2 : Int).toNat := (by rw [Ny339.out, List.length_drop] <;> omega)
                  rw [show (t309).drop (2 : Int).toNat = y339 from Ny339.out.symm] at hr70
                  replace hr70 : Kd.F k65 _ _ A70 y339.length y339 := (by rw [hA70]; exact hr70)
                  rw [← hy70, ← hA70, ← hc70] at hcut70
                  have HO343 := ak (show Kd.V k65 65 _ w.heap.size _ (.slice A70 y339.length c70) y339 from Kd.V_mk (by rw [hy70, hc70]; exact Nat.sub_le_sub_right hroom70 _) hr70)
                  have HC343 := ak (show y339.length ≤ c70 from by rw [hy70, hc70]; exact Nat.sub_le_sub_right hroom70 _)
                  clear hr70 hC70 hroom70 hi070 hsz70 hc70
                  have KY70 := ak hy70
                  have KA70 := ak hA70
                  clear hy70 hA70
                  replace q70 := eq_true q70
                  refine start_ (n := 14) (S := fun w' => True) (ds := []) #[U,U,U,U,U,U,U,U,U,U,U,U,U,U] (by kernel_rfl) rfl rfl trivial (fun hHeld => ?_); refine with_tabW spec_PagesPut.tab15 spec_PagesPut.bits15 (fun HT_ HW_ => ?_)
                  generalize w66.drew = w68 at HO293 HO302 HO306 HO312 HO321 HO324 HB HO332 HO343 hHeld ⊢
                  refine pure_ (i := 0) (N := some 81) (v := ?_) (a' := ?_) #[T,U,U,U,U,U,U,U,U,U,U,U,U,U] rfl rfl (any_of HT_.out (by kernel_rfl)) (fun _ _ _ h => h) (Or.inl ⟨by rfl, ?_⟩) ?_ ?_
                  rotate_left
                  ·intro w'
                   go_simp
                   with_reducible rfl
                  rotate_left
                  ·simp only [Act.put, lT, lZ, lS, i64_w, i32_w]
                   rfl
                  refine pure_ (i := 2) (N := some 83) (v := ?_) (a' := ?_) #[T,U,T,U,U,U,U,U,U,U,U,U,U,U] rfl rfl (any_of HT_.out (by kernel_rfl)) (fun _ _ _ h => h) (Or.inl ⟨by rfl, ?_⟩) ?_ ?_
                  rotate_left
                  ·intro w'
                   go_simp
                   with_reducible rfl
                  rotate_left
                  ·simp only [Act.put, lT, lZ, lS, i64_w, i32_w]
                   rfl
                  refine pure_ (i := 3) (N := some 84) (v := ?_) (a' := ?_) #[T,U,T,T,U,U,U,U,U,U,U,U,U,U] rfl rfl (any_of HT_.out (by kernel_rfl)) (fun _ _ _ h => h) (Or.inl ⟨by rfl, ?_⟩) ?_ ?_
                  rotate_left
                  ·intro w'
                   go_simp
                   with_reducible rfl
                  rotate_left
                  ·simp only [Act.put, lT, lZ, lS, i64_w, i32_w]
                   rfl
                  refine pure_ (i := 7) (N := some 88) (v := ?_) (a' := ?_) #[T,U,T,T,U,U,U,T,U,U,U,U,U,U] rfl rfl (any_of HT_.out (by kernel_rfl)) (fun _ _ _ h => h) (Or.inl ⟨by rfl, ?_⟩) ?_ ?_
                  rotate_left
                  ·intro w'
                   go_simp
                   with_reducible rfl
                  rotate_left
                  ·simp only [Act.put, lT, lZ, lS, i64_w, i32_w]
                   rfl
                  refine pure_ (i := 8) (N := some 89) (v := ?_) (a' := ?_) #[T,U,T,T,U,U,U,T,T,U,U,U,U,U] rfl rfl (any_of HT_.out (by kernel_rfl)) (fun _ _ _ h => h) (Or.inl ⟨by rfl, ?_⟩) ?_ ?_
                  rotate_left
                  ·intro w'
                   go_simp
                   with_reducible rfl
                  rotate_left
                  ·simp only [Act.put, lT, lZ, lS, i64_w, i32_w]
                   rfl
                  refine join_ (σ := Value × Value × Value) 5 #[T,T,T,T,T,T,T,T,T,U,U,U,U,U] (fun s_ => [(82, s_.1), (85, s_.2.1), (87, s_.2.2), (86, .agg #[s_.2.1])]) (fun s_ w' => (Kd.N k53 53 w' w.heap.size (fun k_ => (w.heap.size ≤ k_) ∧ some k_ ≠ (.slice Ao57 t300.length co57 : Value).ownBlock ∧ some k_ ≠ (v305 : Value).ownBlock ∧ some k_ ≠ (.slice Ao61 t309.length co61 : Value).ownBlock ∧ some k_ ≠ (.slice Ao67 y322.length co67 : Value).ownBlock ∧ some k_ ≠ (s_.2.1 : Value).ownBlock ∧ some k_ ≠ (s_.2.2 : Value).ownBlock) (.slice Ao65 t291.length co65) t291) ∧ (Kd.R k65 65 w' w.heap.size (fun k_ => (w.heap.size ≤ k_) ∧ some k_ ≠ (v305 : Value).ownBlock ∧ some k_ ≠ (.slice Ao61 t309.length co61 : Value).ownBlock ∧ some k_ ≠ (s_.2.1 : Value).ownBlock ∧ some k_ ≠ (s_.2.2 : Value).ownBlock) (.slice Ao57 t300.length co57) t300) ∧ (Kd.R k65 65 w' w.heap.size (fun k_ => (w.heap.size ≤ k_) ∧ some k_ ≠ (.slice Ao57 t300.length co57 : Value).ownBlock ∧ some k_ ≠ (.slice Ao61 t309.length co61 : Value).ownBlock ∧ some k_ ≠ (s_.2.1 : Value).ownBlock ∧ some k_ ≠ (s_.2.2 : Value).ownBlock) v305 t303) ∧ (Kd.R k65 65 w' w.heap.size (fun k_ => (w.heap.size ≤ k_) ∧ some k_ ≠ (.slice Ao57 t300.length co57 : Value).ownBlock ∧ some k_ ≠ (v305 : Value).ownBlock ∧ some k_ ≠ (s_.2.1 : Value).ownBlock ∧ some k_ ≠ (s_.2.2 : Value).ownBlock) (.slice Ao61 t309.length co61) t309) ∧ (Kd.V k53 53 w' w.heap.size (fun k_ => (w.heap.size ≤ k_) ∧ some k_ ≠ (.slice Ao57 t300.length co57 : Value).ownBlock ∧ some k_ ≠ (v305 : Value).ownBlock ∧ some k_ ≠ (.slice Ao61 t309.length co61 : Value).ownBlock ∧ some k_ ≠ (.slice Ao67 y322.length co67 : Value).ownBlock ∧ some k_ ≠ (s_.2.1 : Value).ownBlock ∧ some k_ ≠ (s_.2.2 : Value).ownBlock) (.slice Ao65 y317.length co65) y317) ∧ (Kd.N k53 53 w' w.heap.size (fun k_ => (w.heap.size ≤ k_) ∧ some k_ ≠ (.slice Ao57 t300.length co57 : Value).ownBlock ∧ some k_ ≠ (v305 : Value).ownBlock ∧ some k_ ≠ (.slice Ao61 t309.length co61 : Value).ownBlock ∧ some k_ ≠ (s_.2.1 : Value).ownBlock ∧ some k_ ≠ (s_.2.2 : Value).ownBlock) (.slice Ao67 y322.length co67) y322) ∧ (Kd.V k65 65 w' w.heap.size (fun k_ => (w.heap.size ≤ k_) ∧ some k_ ≠ (.slice Ao65 t291.length co65 : Value).ownBlock ∧ some k_ ≠ (.slice Ao57 t300.length co57 : Value).ownBlock ∧ some k_ ≠ (v305 : Value).ownBlock ∧ some k_ ≠ (.slice Ao67 y322.length co67 : Value).ownBlock ∧ some k_ ≠ (s_.2.1 : Value).ownBlock ∧ some k_ ≠ (s_.2.2 : Value).ownBlock) (.slice Ao61 y328.length co61) y328) ∧ (Kd.R k65 65 w' w.heap.size (fun k_ => (w.heap.size ≤ k_) ∧ some k_ ≠ (.slice Ao57 t300.length co57 : Value).ownBlock ∧ some k_ ≠ (v305 : Value).ownBlock ∧ some k_ ≠ (.slice Ao61 t309.length co61 : Value).ownBlock ∧ some k_ ≠ (s_.2.2 : Value).ownBlock) s_.2.1 y333) ∧ (Kd.R k65 65 w' w.heap.size (fun k_ => (w.heap.size ≤ k_) ∧ some k_ ≠ (.slice Ao57 t300.length co57 : Value).ownBlock ∧ some k_ ≠ (v305 : Value).ownBlock ∧ some k_ ≠ (.slice Ao61 t309.length co61 : Value).ownBlock ∧ some k_ ≠ (s_.2.1 : Value).ownBlock) s_.2.2 y336) ∧ (Kd.V k65 65 w' w.heap.size (fun k_ => (w.heap.size ≤ k_) ∧ some k_ ≠ (.slice Ao65 t291.length co65 : Value).ownBlock ∧ some k_ ≠ (.slice Ao57 t300.length co57 : Value).ownBlock ∧ some k_ ≠ (v305 : Value).ownBlock ∧ some k_ ≠ (.slice Ao67 y322.length co67 : Value).ownBlock ∧ some k_ ≠ (s_.2.1 : Value).ownBlock ∧ some k_ ≠ (s_.2.2 : Value).ownBlock) (.slice A70 y339.length c70) y339) ∧ (Below w.heap.size w w')) ?_ ?_
                  rotate_left
                  ·intro hCont
                   refine two_ (i := 1) (j := 6) (Ni := some 82) (Nj := some 87) #[T,T,T,T,U,U,U,T,T,U,U,U,U,U] #[T,U,T,T,U,U,T,T,T,U,U,U,U,U] rfl rfl rfl rfl (two_of HT_.out (by kernel_rfl)) (by decide) (by decide) (fun K hK => ?_) (fun K hK => ?_)
                   ·skip
                    refine Kd.R_lit_step k65 _ 65 ?hg (N := 82) ?hd (xs := ([] : List (S65))) (inner := []) (ok := fun _ => True) (okp := fun _ => True) ?hr ?hp (fun _ hk => hk) trivial (Below.refl _ _) (Nat.le_refl _) (by simp) ?_; (case hd => rfl); (case hg => rfl); (case hr => first | (go_simp; done) | (go_simp; rfl)); (case hp => exact (Reps.none _ _))
                    intro v326 w71 ho72 hb hg_ hnew_
                    clear hg_ hnew_
                    (first | rw [← Ny325.out] at ho72 | (simp only [Int.reduceToNat] at ho72; rw [← Ny325.out] at ho72))
                    replace HO293 := ak (Kd.N_elder' (by (with_reducible repeat (first | apply Kd.N_alloc | apply Kd.N_drewN | apply Kd.N_drew)); exact HO293.out) (Kd.R_base ho72) hb)
                    replace HO321 := ak (Kd.V_elder' (by (with_reducible repeat (first | apply Kd.V_alloc | apply Kd.V_drewN | apply Kd.V_drew)); exact HO321.out) (Kd.R_base ho72) hb)
                    replace HO324 := ak (Kd.N_elder' (by (with_reducible repeat (first | apply Kd.N_alloc | apply Kd.N_drewN | apply Kd.N_drew)); exact HO324.out) (Kd.R_base ho72) hb)
                    replace HO332 := ak (Kd.V_elder' (by (with_reducible repeat (first | apply Kd.V_alloc | apply Kd.V_drewN | apply Kd.V_drew)); exact HO332.out) (Kd.R_base ho72) hb)
                    replace HO343 := ak (Kd.V_elder' (by (with_reducible repeat (first | apply Kd.V_alloc | apply Kd.V_drewN | apply Kd.V_drew)); exact HO343.out) (Kd.R_base ho72) hb)
                    have HO327 := ak (Kd.R_lower (Kd.R_new' (Kd.R_new' (Kd.R_new' (Kd.R_newM (M := fun k_ => (w.heap.size ≤ k_)) ho72 (below_size (by exact hopb HB.out)) (fun k_ h_ => h_)) (Kd.R_lt (by (with_reducible repeat (first | apply Kd.R_alloc | apply Kd.R_drewN | apply Kd.R_drew)); exact HO302.out))) (Kd.R_lt (by (with_reducible repeat (first | apply Kd.R_alloc | apply Kd.R_drewN | apply Kd.R_drew)); exact HO306.out))) (Kd.R_lt (by (with_reducible repeat (first | apply Kd.R_alloc | apply Kd.R_drewN | apply Kd.R_drew)); exact HO312.out))) (below_size (by exact hopb HB.out)))
                    replace HO302 := ak (Kd.R_elder' (by (with_reducible repeat (first | apply Kd.R_alloc | apply Kd.R_drewN | apply Kd.R_drew)); exact HO302.out) (Kd.R_base ho72) hb)
                    replace HO306 := ak (Kd.R_elder' (by (with_reducible repeat (first | apply Kd.R_alloc | apply Kd.R_drewN | apply Kd.R_drew)); exact HO306.out) (Kd.R_base ho72) hb)
                    replace HO312 := ak (Kd.R_elder' (by (with_reducible repeat (first | apply Kd.R_alloc | apply Kd.R_drewN | apply Kd.R_drew)); exact HO312.out) (Kd.R_base ho72) hb)
                    replace HB := ak (below_step (by exact hopb HB.out) hb)
                    clear hb ho72
                    refine hK.out _ _ trivial (fun hHeld => ?_)
                    clear hK K
                    refine norm_ (a' := ?_) ?_ ?_
                    rotate_left
                    ·show Act.put _ (some 82) _ = _
                     simp only [Act.put, lT, lZ, lS, i64_w, i32_w]
                     rfl
                    refine two_ (i := 4) (j := 6) (Ni := some 85) (Nj := some 87) #[T,T,T,T,T,U,U,T,T,U,U,U,U,U] #[T,T,T,T,U,U,T,T,T,U,U,U,U,U] rfl rfl rfl rfl (two_of HT_.out (by kernel_rfl)) (by decide) (by decide) (fun K hK => ?_) (fun K hK => ?_)
                    ·skip
                     refine Kd.R_append_rows_step k65 (w0 := w) w.heap.size (by rfl) (.tmp 82) (.tmp 84) 36 65 (.agg #[(.string ⟨#[]⟩), (.int .i64 0)]) 24 rfl Try.underlying36 info65 rfl (by decide) (by omega) v326 y325 y328 _ _ _ (fun k_ => (w.heap.size ≤ k_) ∧ some k_ ≠ (.slice Ao57 t300.length co57 : Value).ownBlock ∧ some k_ ≠ (v305 : Value).ownBlock ∧ some k_ ≠ (.slice Ao61 t309.length co61 : Value).ownBlock) (fun _ => False) rfl rfl ?aO ?aR (fun _ _ h => h) (fun _ h => h.elim) ?aF ?aB ?aS ?aL ?_
                     (case aR => repeat (first | exact (Kd.V_reads' HO332.out).2.2 | (with_reducible refine Kd.C_alloc ?_ _) | (with_reducible refine Kd.C_drewN ?_ _) | (with_reducible refine Kd.C_drew ?_)))
                     (case aB => exact (by exact hopb HB.out))
                     (case aF => exact (fun k_ hk => ⟨(Nat.le_trans (below_size (by exact hopb HB.out)) hk), Kd.fresh' (Kd.R_lt (by (with_reducible repeat (first | apply Kd.R_alloc | apply Kd.R_drewN | apply Kd.R_drew)); exact HO302.out)) k_ hk, Kd.fresh' (Kd.R_lt (by (with_reducible repeat (first | apply Kd.R_alloc | apply Kd.R_drewN | apply Kd.R_drew)); exact HO306.out)) k_ hk, Kd.fresh' (Kd.R_lt (by (with_reducible repeat (first | apply Kd.R_alloc | apply Kd.R_drewN | apply Kd.R_drew)); exact HO312.out)) k_ hk⟩))
                     (case aO => exact (by (with_reducible repeat (first | apply Kd.R_alloc | apply Kd.R_drewN | apply Kd.R_drew)); exact Kd.R_mono HO327.out (fun _ hk => ⟨hk.1.1.1.1, ⟨hk.1.1.2, ⟨hk.1.2, hk.2⟩⟩⟩)))
                     (case aS => exact (below_size (by exact hopb HB.out)))
                     (case aL => have := LMc47.out; omega)
                     intro v334 w73 ho hb hg hat
                     rw [← Ny333.out] at ho
                     replace HO293 := ak (Kd.N_afterv (ok := (fun k_ => (w.heap.size ≤ k_) ∧ some k_ ≠ (.slice Ao57 t300.length co57 : Value).ownBlock ∧ some k_ ≠ (v305 : Value).ownBlock ∧ some k_ ≠ (.slice Ao61 t309.length co61 : Value).ownBlock ∧ some k_ ≠ (.slice Ao67 y322.length co67 : Value).ownBlock)) (by (with_reducible repeat (first | apply Kd.N_alloc | apply Kd.N_drewN | apply Kd.N_drew)); exact Kd.N_mono HO293.out (fun _ hk => ⟨⟨hk.1.1.1, ⟨hk.1.1.2.1, ⟨hk.1.1.2.2.1, ⟨hk.1.1.2.2.2, hk.1.2⟩⟩⟩⟩, hk.2⟩)) hg hat)
                     replace HO302 := ak (Kd.R_after (ok := (fun k_ => (w.heap.size ≤ k_) ∧ some k_ ≠ (v305 : Value).ownBlock ∧ some k_ ≠ (.slice Ao61 t309.length co61 : Value).ownBlock)) (by (with_reducible repeat (first | apply Kd.R_alloc | apply Kd.R_drewN | apply Kd.R_drew)); exact Kd.R_mono HO302.out (fun _ hk => ⟨⟨hk.1.1.1.1, ⟨hk.1.1.2, hk.1.2⟩⟩, hk.2⟩)) hg hat)
                     replace HO306 := ak (Kd.R_after (ok := (fun k_ => (w.heap.size ≤ k_) ∧ some k_ ≠ (.slice Ao57 t300.length co57 : Value).ownBlock ∧ some k_ ≠ (.slice Ao61 t309.length co61 : Value).ownBlock)) (by (with_reducible repeat (first | apply Kd.R_alloc | apply Kd.R_drewN | apply Kd.R_drew)); exact Kd.R_mono HO306.out (fun _ hk => ⟨⟨hk.1.1.1.1, ⟨hk.1.1.2, hk.1.2⟩⟩, hk.2⟩)) hg hat)
                     replace HO312 := ak (Kd.R_after (ok := (fun k_ => (w.heap.size ≤ k_) ∧ some k_ ≠ (.slice Ao57 t300.length co57 : Value).ownBlock ∧ some k_ ≠ (v305 : Value).ownBlock)) (by (with_reducible repeat (first | apply Kd.R_alloc | apply Kd.R_drewN | apply Kd.R_drew)); exact Kd.R_mono HO312.out (fun _ hk => ⟨⟨hk.1.1.1.1, ⟨hk.1.1.2, hk.1.2⟩⟩, hk.2⟩)) hg hat)
                     replace HO321 := ak (Kd.V_afterv (ok := (fun k_ => (w.heap.size ≤ k_) ∧ some k_ ≠ (.slice Ao57 t300.length co57 : Value).ownBlock ∧ some k_ ≠ (v305 : Value).ownBlock ∧ some k_ ≠ (.slice Ao61 t309.length co61 : Value).ownBlock ∧ some k_ ≠ (.slice Ao67 y322.length co67 : Value).ownBlock)) (by (with_reducible repeat (first | apply Kd.V_alloc | apply Kd.V_drewN | apply Kd.V_drew)); exact Kd.V_mono HO321.out (fun _ hk => ⟨⟨hk.1.1.1, ⟨hk.1.1.2.1, ⟨hk.1.1.2.2.1, ⟨hk.1.1.2.2.2, hk.1.2⟩⟩⟩⟩, hk.2⟩)) hg hat)
                     replace HO324 := ak (Kd.N_afterv (ok := (fun k_ => (w.heap.size ≤ k_) ∧ some k_ ≠ (.slice Ao57 t300.length co57 : Value).ownBlock ∧ some k_ ≠ (v305 : Value).ownBlock ∧ some k_ ≠ (.slice Ao61 t309.length co61 : Value).ownBlock)) (by (with_reducible repeat (first | apply Kd.N_alloc | apply Kd.N_drewN | apply Kd.N_drew)); exact HO324.out) hg hat)
                     replace HO332 := ak (Kd.V_afterv (ok := (fun k_ => (w.heap.size ≤ k_) ∧ some k_ ≠ (.slice Ao65 t291.length co65 : Value).ownBlock ∧ some k_ ≠ (.slice Ao57 t300.length co57 : Value).ownBlock ∧ some k_ ≠ (v305 : Value).ownBlock ∧ some k_ ≠ (.slice Ao67 y322.length co67 : Value).ownBlock)) (by (with_reducible repeat (first | apply Kd.V_alloc | apply Kd.V_drewN | apply Kd.V_drew)); exact Kd.V_mono HO332.out (fun _ hk => ⟨⟨hk.1.1.1.1.1.1, ⟨hk.1.1.2, ⟨hk.1.1.1.1.2, ⟨hk.1.1.1.2, hk.1.2⟩⟩⟩⟩, hk.2⟩)) hg hat)
                     replace HO343 := ak (Kd.V_afterv (ok := (fun k_ => (w.heap.size ≤ k_) ∧ some k_ ≠ (.slice Ao65 t291.length co65 : Value).ownBlock ∧ some k_ ≠ (.slice Ao57 t300.length co57 : Value).ownBlock ∧ some k_ ≠ (v305 : Value).ownBlock ∧ some k_ ≠ (.slice Ao67 y322.length co67 : Value).ownBlock)) (by (with_reducible repeat (first | apply Kd.V_alloc | apply Kd.V_drewN | apply Kd.V_drew)); exact Kd.V_mono HO343.out (fun _ hk => ⟨⟨hk.1.1.1.1.1.1, ⟨hk.1.1.2, ⟨hk.1.1.1.1.2, ⟨hk.1.1.1.2, hk.1.2⟩⟩⟩⟩, hk.2⟩)) hg hat)
                     replace HB := ak (hb)
                     have HO335 := ak (ho)
                     clear HO327
                     clear ho hb hg hat
                     obtain ⟨Ao74, co74, eo74⟩ := Kd.R_slice HO335.out
                     (first | subst eo74 | (injection eo74 with f1_ f2_ f3_; have f4_ := f1_.symm; have f5_ := f3_.symm; clear f1_ f2_ f3_; subst f4_; subst f5_))
                     refine hK.out _ _ trivial (fun hHeld => ?_)
                     clear hK K
                     refine norm_ (a' := ?_) ?_ ?_
                     rotate_left
                     ·show Act.put _ (some 85) _ = _
                      simp only [Act.put, lT, lZ, lS, i64_w, i32_w]
                      rfl
                     refine pure_ (i := 5) (N := some 86) (v := ?_) (a' := ?_) #[T,T,T,T,T,T,U,T,T,U,U,U,U,U] rfl rfl (any_of HT_.out (by kernel_rfl)) (fun _ _ _ h => h) (Or.inl ⟨by rfl, ?_⟩) ?_ ?_
                     rotate_left
                     ·intro w'
                      go_simp
                      with_reducible rfl
                     rotate_left
                     ·simp only [Act.put, lT, lZ, lS, i64_w, i32_w]
                      rfl
                     refine one_ (i := 6) (N := some 87) #[T,T,T,T,T,T,T,T,T,U,U,U,U,U] rfl rfl (one_of HT_.out (by kernel_rfl)) (by decide) (fun K hK => ?_)
                     refine Kd.R_lit_step k65 _ 65 ?hg (N := 87) ?hd (xs := ([] : List (S65))) (inner := []) (ok := fun _ => True) (okp := fun _ => True) ?hr ?hp (fun _ hk => hk) trivial (Below.refl _ _) (Nat.le_refl _) (by simp) ?_; (case hd => rfl); (case hg => rfl); (case hr => first | (go_simp; done) | (go_simp; rfl)); (case hp => exact (Reps.none _ _))
                     intro v337 w75 ho76 hb hg_ hnew_
                     clear hg_ hnew_
                     (first | rw [← Ny336.out] at ho76 | (simp only [Int.reduceToNat] at ho76; rw [← Ny336.out] at ho76))
                     replace HO293 := ak (Kd.N_elder' (by (with_reducible repeat (first | apply Kd.N_alloc | apply Kd.N_drewN | apply Kd.N_drew)); exact HO293.out) (Kd.R_base ho76) hb)
                     replace HO321 := ak (Kd.V_elder' (by (with_reducible repeat (first | apply Kd.V_alloc | apply Kd.V_drewN | apply Kd.V_drew)); exact HO321.out) (Kd.R_base ho76) hb)
                     replace HO324 := ak (Kd.N_elder' (by (with_reducible repeat (first | apply Kd.N_alloc | apply Kd.N_drewN | apply Kd.N_drew)); exact HO324.out) (Kd.R_base ho76) hb)
                     replace HO332 := ak (Kd.V_elder' (by (with_reducible repeat (first | apply Kd.V_alloc | apply Kd.V_drewN | apply Kd.V_drew)); exact HO332.out) (Kd.R_base ho76) hb)
                     replace HO343 := ak (Kd.V_elder' (by (with_reducible repeat (first | apply Kd.V_alloc | apply Kd.V_drewN | apply Kd.V_drew)); exact HO343.out) (Kd.R_base ho76) hb)
                     have HO338 := ak (Kd.R_lower (Kd.R_new' (Kd.R_new' (Kd.R_new' (Kd.R_new' (Kd.R_newM (M := fun k_ => (w.heap.size ≤ k_)) ho76 (below_size (by exact hopb HB.out)) (fun k_ h_ => h_)) (Kd.R_lt (by (with_reducible repeat (first | apply Kd.R_alloc | apply Kd.R_drewN | apply Kd.R_drew)); exact HO302.out))) (Kd.R_lt (by (with_reducible repeat (first | apply Kd.R_alloc | apply Kd.R_drewN | apply Kd.R_drew)); exact HO306.out))) (Kd.R_lt (by (with_reducible repeat (first | apply Kd.R_alloc | apply Kd.R_drewN | apply Kd.R_drew)); exact HO312.out))) (Kd.R_lt (by (with_reducible repeat (first | apply Kd.R_alloc | apply Kd.R_drewN | apply Kd.R_drew)); exact HO335.out))) (below_size (by exact hopb HB.out)))
                     replace HO302 := ak (Kd.R_elder' (by (with_reducible repeat (first | apply Kd.R_alloc | apply Kd.R_drewN | apply Kd.R_drew)); exact HO302.out) (Kd.R_base ho76) hb)
                     replace HO306 := ak (Kd.R_elder' (by (with_reducible repeat (first | apply Kd.R_alloc | apply Kd.R_drewN | apply Kd.R_drew)); exact HO306.out) (Kd.R_base ho76) hb)
                     replace HO312 := ak (Kd.R_elder' (by (with_reducible repeat (first | apply Kd.R_alloc | apply Kd.R_drewN | apply Kd.R_drew)); exact HO312.out) (Kd.R_base ho76) hb)
                     replace HO335 := ak (Kd.R_elder' (by (with_reducible repeat (first | apply Kd.R_alloc | apply Kd.R_drewN | apply Kd.R_drew)); exact HO335.out) (Kd.R_base ho76) hb)
                     replace HB := ak (below_step (by exact hopb HB.out) hb)
                     clear hb ho76
                     refine hK.out _ _ trivial (fun hHeld => ?_)
                     clear hK K
                     refine norm_ (a' := ?_) ?_ ?_
                     rotate_left
                     ·show Act.put _ (some 87) _ = _
                      simp only [Act.put, lT, lZ, lS, i64_w, i32_w]
                      rfl
                     exact norm_ (by simp only [putAll, Act.put, lT, lZ, lS]) (hCont (v326, .slice Ao74 y333.length co74, v337) _ ⟨(by (with_reducible repeat (first | apply Kd.N_alloc | apply Kd.N_drewN | apply Kd.N_drew)); exact Kd.N_mono HO293.out (fun _ hk => ⟨hk.1.1.1, ⟨hk.1.1.2.1, ⟨hk.1.1.2.2.1, ⟨hk.1.1.2.2.2.1, ⟨hk.1.1.2.2.2.2, ⟨hk.1.2, hk.2⟩⟩⟩⟩⟩⟩)), (by (with_reducible repeat (first | apply Kd.R_alloc | apply Kd.R_drewN | apply Kd.R_drew)); exact Kd.R_mono HO302.out (fun _ hk => ⟨hk.1.1.1, ⟨hk.1.1.2.1, ⟨hk.1.1.2.2, ⟨hk.1.2, hk.2⟩⟩⟩⟩)), (by (with_reducible repeat (first | apply Kd.R_alloc | apply Kd.R_drewN | apply Kd.R_drew)); exact Kd.R_mono HO306.out (fun _ hk => ⟨hk.1.1.1, ⟨hk.1.1.2.1, ⟨hk.1.1.2.2, ⟨hk.1.2, hk.2⟩⟩⟩⟩)), (by (with_reducible repeat (first | apply Kd.R_alloc | apply Kd.R_drewN | apply Kd.R_drew)); exact Kd.R_mono HO312.out (fun _ hk => ⟨hk.1.1.1, ⟨hk.1.1.2.1, ⟨hk.1.1.2.2, ⟨hk.1.2, hk.2⟩⟩⟩⟩)), (by (with_reducible repeat (first | apply Kd.V_alloc | apply Kd.V_drewN | apply Kd.V_drew)); exact Kd.V_mono HO321.out (fun _ hk => ⟨hk.1.1.1, ⟨hk.1.1.2.1, ⟨hk.1.1.2.2.1, ⟨hk.1.1.2.2.2.1, ⟨hk.1.1.2.2.2.2, ⟨hk.1.2, hk.2⟩⟩⟩⟩⟩⟩)), (by (with_reducible repeat (first | apply Kd.N_alloc | apply Kd.N_drewN | apply Kd.N_drew)); exact Kd.N_mono HO324.out (fun _ hk => ⟨hk.1.1.1, ⟨hk.1.1.2.1, ⟨hk.1.1.2.2.1, ⟨hk.1.1.2.2.2, ⟨hk.1.2, hk.2⟩⟩⟩⟩⟩)), (by (with_reducible repeat (first | apply Kd.V_alloc | apply Kd.V_drewN | apply Kd.V_drew)); exact Kd.V_mono HO332.out (fun _ hk => ⟨hk.1.1.1, ⟨hk.1.1.2.1, ⟨hk.1.1.2.2.1, ⟨hk.1.1.2.2.2.1, ⟨hk.1.1.2.2.2.2, ⟨hk.1.2, hk.2⟩⟩⟩⟩⟩⟩)), (by (with_reducible repeat (first | apply Kd.R_alloc | apply Kd.R_drewN | apply Kd.R_drew)); exact Kd.R_mono HO335.out (fun _ hk => ⟨hk.1.1, ⟨hk.1.2.1, ⟨hk.1.2.2.1, ⟨hk.1.2.2.2, hk.2⟩⟩⟩⟩)), (by (with_reducible repeat (first | apply Kd.R_alloc | apply Kd.R_drewN | apply Kd.R_drew)); exact Kd.R_mono HO338.out (fun _ hk => ⟨hk.1.1.1.1.1, ⟨hk.1.1.1.2, ⟨hk.1.1.2, ⟨hk.1.2, hk.2⟩⟩⟩⟩)), (by (with_reducible repeat (first | apply Kd.V_alloc | apply Kd.V_drewN | apply Kd.V_drew)); exact Kd.V_mono HO343.out (fun _ hk => ⟨hk.1.1.1, ⟨hk.1.1.2.1, ⟨hk.1.1.2.2.1, ⟨hk.1.1.2.2.2.1, ⟨hk.1.1.2.2.2.2, ⟨hk.1.2, hk.2⟩⟩⟩⟩⟩⟩)), (by exact hopb HB.out)⟩)
                    ·skip
                     refine Kd.R_lit_step k65 _ 65 ?hg (N := 87) ?hd (xs := ([] : List (S65))) (inner := []) (ok := fun _ => True) (okp := fun _ => True) ?hr ?hp (fun _ hk => hk) trivial (Below.refl _ _) (Nat.le_refl _) (by simp) ?_; (case hd => rfl); (case hg => rfl); (case hr => first | (go_simp; done) | (go_simp; rfl)); (case hp => exact (Reps.none _ _))
                     intro v337 w73 ho74 hb hg_ hnew_
                     clear hg_ hnew_
                     (first | rw [← Ny336.out] at ho74 | (simp only [Int.reduceToNat] at ho74; rw [← Ny336.out] at ho74))
                     replace HO293 := ak (Kd.N_elder' (by (with_reducible repeat (first | apply Kd.N_alloc | apply Kd.N_drewN | apply Kd.N_drew)); exact HO293.out) (Kd.R_base ho74) hb)
                     replace HO321 := ak (Kd.V_elder' (by (with_reducible repeat (first | apply Kd.V_alloc | apply Kd.V_drewN | apply Kd.V_drew)); exact HO321.out) (Kd.R_base ho74) hb)
                     replace HO324 := ak (Kd.N_elder' (by (with_reducible repeat (first | apply Kd.N_alloc | apply Kd.N_drewN | apply Kd.N_drew)); exact HO324.out) (Kd.R_base ho74) hb)
                     replace HO332 := ak (Kd.V_elder' (by (with_reducible repeat (first | apply Kd.V_alloc | apply Kd.V_drewN | apply Kd.V_drew)); exact HO332.out) (Kd.R_base ho74) hb)
                     replace HO343 := ak (Kd.V_elder' (by (with_reducible repeat (first | apply Kd.V_alloc | apply Kd.V_drewN | apply Kd.V_drew)); exact HO343.out) (Kd.R_base ho74) hb)
                     have HO338 := ak (Kd.R_lower (Kd.R_new' (Kd.R_new' (Kd.R_new' (Kd.R_new' (Kd.R_newM (M := fun k_ => (w.heap.size ≤ k_)) ho74 (below_size (by exact hopb HB.out)) (fun k_ h_ => h_)) (Kd.R_lt (by (with_reducible repeat (first | apply Kd.R_alloc | apply Kd.R_drewN | apply Kd.R_drew)); exact HO302.out))) (Kd.R_lt (by (with_reducible repeat (first | apply Kd.R_alloc | apply Kd.R_drewN | apply Kd.R_drew)); exact HO306.out))) (Kd.R_lt (by (with_reducible repeat (first | apply Kd.R_alloc | apply Kd.R_drewN | apply Kd.R_drew)); exact HO312.out))) (Kd.R_lt (by (with_reducible repeat (first | apply Kd.R_alloc | apply Kd.R_drewN | apply Kd.R_drew)); exact HO327.out))) (below_size (by exact hopb HB.out)))
                     replace HO302 := ak (Kd.R_elder' (by (with_reducible repeat (first | apply Kd.R_alloc | apply Kd.R_drewN | apply Kd.R_drew)); exact HO302.out) (Kd.R_base ho74) hb)
                     replace HO306 := ak (Kd.R_elder' (by (with_reducible repeat (first | apply Kd.R_alloc | apply Kd.R_drewN | apply Kd.R_drew)); exact HO306.out) (Kd.R_base ho74) hb)
                     replace HO312 := ak (Kd.R_elder' (by (with_reducible repeat (first | apply Kd.R_alloc | apply Kd.R_drewN | apply Kd.R_drew)); exact HO312.out) (Kd.R_base ho74) hb)
                     replace HO327 := ak (Kd.R_elder' (by (with_reducible repeat (first | apply Kd.R_alloc | apply Kd.R_drewN | apply Kd.R_drew)); exact HO327.out) (Kd.R_base ho74) hb)
                     replace HB := ak (below_step (by exact hopb HB.out) hb)
                     clear hb ho74
                     refine hK.out _ _ trivial (fun hHeld => ?_)
                     clear hK K
                     refine norm_ (a' := ?_) ?_ ?_
                     rotate_left
                     ·show Act.put _ (some 87) _ = _
                      simp only [Act.put, lT, lZ, lS, i64_w, i32_w]
                      rfl
                     refine one_ (i := 4) (N := some 85) #[T,T,T,T,T,U,T,T,T,U,U,U,U,U] rfl rfl (one_of HT_.out (by kernel_rfl)) (by decide) (fun K hK => ?_)
                     refine Kd.R_append_rows_step k65 (w0 := w) w.heap.size (by rfl) (.tmp 82) (.tmp 84) 36 65 (.agg #[(.string ⟨#[]⟩), (.int .i64 0)]) 24 rfl Try.underlying36 info65 rfl (by decide) (by omega) v326 y325 y328 _ _ _ (fun k_ => (w.heap.size ≤ k_) ∧ some k_ ≠ (.slice Ao57 t300.length co57 : Value).ownBlock ∧ some k_ ≠ (v305 : Value).ownBlock ∧ some k_ ≠ (.slice Ao61 t309.length co61 : Value).ownBlock ∧ some k_ ≠ (v337 : Value).ownBlock) (fun _ => False) rfl rfl ?aO ?aR (fun _ _ h => h) (fun _ h => h.elim) ?aF ?aB ?aS ?aL ?_
                     (case aR => repeat (first | exact (Kd.V_reads' HO332.out).2.2 | (with_reducible refine Kd.C_alloc ?_ _) | (with_reducible refine Kd.C_drewN ?_ _) | (with_reducible refine Kd.C_drew ?_)))
                     (case aB => exact (by exact hopb HB.out))
                     (case aF => exact (fun k_ hk => ⟨(Nat.le_trans (below_size (by exact hopb HB.out)) hk), Kd.fresh' (Kd.R_lt (by (with_reducible repeat (first | apply Kd.R_alloc | apply Kd.R_drewN | apply Kd.R_drew)); exact HO302.out)) k_ hk, Kd.fresh' (Kd.R_lt (by (with_reducible repeat (first | apply Kd.R_alloc | apply Kd.R_drewN | apply Kd.R_drew)); exact HO306.out)) k_ hk, Kd.fresh' (Kd.R_lt (by (with_reducible repeat (first | apply Kd.R_alloc | apply Kd.R_drewN | apply Kd.R_drew)); exact HO312.out)) k_ hk, Kd.fresh' (Kd.R_lt (by (with_reducible repeat (first | apply Kd.R_alloc | apply Kd.R_drewN | apply Kd.R_drew)); exact HO338.out)) k_ hk⟩))
                     (case aO => exact (by (with_reducible repeat (first | apply Kd.R_alloc | apply Kd.R_drewN | apply Kd.R_drew)); exact Kd.R_mono HO327.out (fun _ hk => ⟨hk.1.1.1.1.1, ⟨hk.1.1.1.2, ⟨hk.1.1.2, ⟨hk.1.2, hk.2⟩⟩⟩⟩)))
                     (case aS => exact (below_size (by exact hopb HB.out)))
                     (case aL => have := LMc47.out; omega)
                     intro v334 w75 ho hb hg hat
                     rw [← Ny333.out] at ho
                     replace HO293 := ak (Kd.N_afterv (ok := (fun k_ => (w.heap.size ≤ k_) ∧ some k_ ≠ (.slice Ao57 t300.length co57 : Value).ownBlock ∧ some k_ ≠ (v305 : Value).ownBlock ∧ some k_ ≠ (.slice Ao61 t309.length co61 : Value).ownBlock ∧ some k_ ≠ (.slice Ao67 y322.length co67 : Value).ownBlock ∧ some k_ ≠ (v337 : Value).ownBlock)) (by (with_reducible repeat (first | apply Kd.N_alloc | apply Kd.N_drewN | apply Kd.N_drew)); exact Kd.N_mono HO293.out (fun _ hk => ⟨⟨hk.1.1.1.1, ⟨hk.1.1.1.2.1, ⟨hk.1.1.1.2.2.1, ⟨hk.1.1.1.2.2.2, ⟨hk.1.1.2, hk.2⟩⟩⟩⟩⟩, hk.1.2⟩)) hg hat)
                     replace HO302 := ak (Kd.R_after (ok := (fun k_ => (w.heap.size ≤ k_) ∧ some k_ ≠ (v305 : Value).ownBlock ∧ some k_ ≠ (.slice Ao61 t309.length co61 : Value).ownBlock ∧ some k_ ≠ (v337 : Value).ownBlock)) (by (with_reducible repeat (first | apply Kd.R_alloc | apply Kd.R_drewN | apply Kd.R_drew)); exact Kd.R_mono HO302.out (fun _ hk => ⟨⟨hk.1.1.1.1.1, ⟨hk.1.1.1.2, ⟨hk.1.1.2, hk.2⟩⟩⟩, hk.1.2⟩)) hg hat)
                     replace HO306 := ak (Kd.R_after (ok := (fun k_ => (w.heap.size ≤ k_) ∧ some k_ ≠ (.slice Ao57 t300.length co57 : Value).ownBlock ∧ some k_ ≠ (.slice Ao61 t309.length co61 : Value).ownBlock ∧ some k_ ≠ (v337 : Value).ownBlock)) (by (with_reducible repeat (first | apply Kd.R_alloc | apply Kd.R_drewN | apply Kd.R_drew)); exact Kd.R_mono HO306.out (fun _ hk => ⟨⟨hk.1.1.1.1.1, ⟨hk.1.1.1.2, ⟨hk.1.1.2, hk.2⟩⟩⟩, hk.1.2⟩)) hg hat)
                     replace HO312 := ak (Kd.R_after (ok := (fun k_ => (w.heap.size ≤ k_) ∧ some k_ ≠ (.slice Ao57 t300.length co57 : Value).ownBlock ∧ some k_ ≠ (v305 : Value).ownBlock ∧ some k_ ≠ (v337 : Value).ownBlock)) (by (with_reducible repeat (first | apply Kd.R_alloc | apply Kd.R_drewN | apply Kd.R_drew)); exact Kd.R_mono HO312.out (fun _ hk => ⟨⟨hk.1.1.1.1.1, ⟨hk.1.1.1.2, ⟨hk.1.1.2, hk.2⟩⟩⟩, hk.1.2⟩)) hg hat)
                     replace HO321 := ak (Kd.V_afterv (ok := (fun k_ => (w.heap.size ≤ k_) ∧ some k_ ≠ (.slice Ao57 t300.length co57 : Value).ownBlock ∧ some k_ ≠ (v305 : Value).ownBlock ∧ some k_ ≠ (.slice Ao61 t309.length co61 : Value).ownBlock ∧ some k_ ≠ (.slice Ao67 y322.length co67 : Value).ownBlock ∧ some k_ ≠ (v337 : Value).ownBlock)) (by (with_reducible repeat (first | apply Kd.V_alloc | apply Kd.V_drewN | apply Kd.V_drew)); exact Kd.V_mono HO321.out (fun _ hk => ⟨⟨hk.1.1.1.1, ⟨hk.1.1.1.2.1, ⟨hk.1.1.1.2.2.1, ⟨hk.1.1.1.2.2.2, ⟨hk.1.1.2, hk.2⟩⟩⟩⟩⟩, hk.1.2⟩)) hg hat)
                     replace HO324 := ak (Kd.N_afterv (ok := (fun k_ => (w.heap.size ≤ k_) ∧ some k_ ≠ (.slice Ao57 t300.length co57 : Value).ownBlock ∧ some k_ ≠ (v305 : Value).ownBlock ∧ some k_ ≠ (.slice Ao61 t309.length co61 : Value).ownBlock ∧ some k_ ≠ (v337 : Value).ownBlock)) (by (with_reducible repeat (first | apply Kd.N_alloc | apply Kd.N_drewN | apply Kd.N_drew)); exact Kd.N_mono HO324.out (fun _ hk => ⟨⟨hk.1.1.1, ⟨hk.1.1.2.1, ⟨hk.1.1.2.2.1, ⟨hk.1.1.2.2.2, hk.2⟩⟩⟩⟩, hk.1.2⟩)) hg hat)
                     replace HO332 := ak (Kd.V_afterv (ok := (fun k_ => (w.heap.size ≤ k_) ∧ some k_ ≠ (.slice Ao65 t291.length co65 : Value).ownBlock ∧ some k_ ≠ (.slice Ao57 t300.length co57 : Value).ownBlock ∧ some k_ ≠ (v305 : Value).ownBlock ∧ some k_ ≠ (.slice Ao67 y322.length co67 : Value).ownBlock ∧ some k_ ≠ (v337 : Value).ownBlock)) (by (with_reducible repeat (first | apply Kd.V_alloc | apply Kd.V_drewN | apply Kd.V_drew)); exact Kd.V_mono HO332.out (fun _ hk => ⟨⟨hk.1.1.1.1.1.1.1, ⟨hk.1.1.1.2, ⟨hk.1.1.1.1.1.2, ⟨hk.1.1.1.1.2, ⟨hk.1.1.2, hk.2⟩⟩⟩⟩⟩, hk.1.2⟩)) hg hat)
                     replace HO343 := ak (Kd.V_afterv (ok := (fun k_ => (w.heap.size ≤ k_) ∧ some k_ ≠ (.slice Ao65 t291.length co65 : Value).ownBlock ∧ some k_ ≠ (.slice Ao57 t300.length co57 : Value).ownBlock ∧ some k_ ≠ (v305 : Value).ownBlock ∧ some k_ ≠ (.slice Ao67 y322.length co67 : Value).ownBlock ∧ some k_ ≠ (v337 : Value).ownBlock)) (by (with_reducible repeat (first | apply Kd.V_alloc | apply Kd.V_drewN | apply Kd.V_drew)); exact Kd.V_mono HO343.out (fun _ hk => ⟨⟨hk.1.1.1.1.1.1.1, ⟨hk.1.1.1.2, ⟨hk.1.1.1.1.1.2, ⟨hk.1.1.1.1.2, ⟨hk.1.1.2, hk.2⟩⟩⟩⟩⟩, hk.1.2⟩)) hg hat)
                     replace HO338 := ak (Kd.R_after (ok := (fun k_ => (w.heap.size ≤ k_) ∧ some k_ ≠ (.slice Ao57 t300.length co57 : Value).ownBlock ∧ some k_ ≠ (v305 : Value).ownBlock ∧ some k_ ≠ (.slice Ao61 t309.length co61 : Value).ownBlock)) (by (with_reducible repeat (first | apply Kd.R_alloc | apply Kd.R_drewN | apply Kd.R_drew)); exact Kd.R_mono HO338.out (fun _ hk => ⟨⟨hk.1.1.1.1.1, ⟨hk.1.1.1.2, ⟨hk.1.1.2, hk.1.2⟩⟩⟩, hk.2⟩)) hg hat)
                     replace HB := ak (hb)
                     have HO335 := ak (ho)
                     clear HO327
                     clear ho hb hg hat
                     obtain ⟨Ao76, co76, eo76⟩ := Kd.R_slice HO335.out
                     (first | subst eo76 | (injection eo76 with f1_ f2_ f3_; have f4_ := f1_.symm; have f5_ := f3_.symm; clear f1_ f2_ f3_; subst f4_; subst f5_))
                     refine hK.out _ _ trivial (fun hHeld => ?_)
                     clear hK K
                     refine norm_ (a' := ?_) ?_ ?_
                     rotate_left
                     ·show Act.put _ (some 85) _ = _
                      simp only [Act.put, lT, lZ, lS, i64_w, i32_w]
                      rfl
                     refine pure_ (i := 5) (N := some 86) (v := ?_) (a' := ?_) #[T,T,T,T,T,T,T,T,T,U,U,U,U,U] rfl rfl (any_of HT_.out (by kernel_rfl)) (fun _ _ _ h => h) (Or.inl ⟨by rfl, ?_⟩) ?_ ?_
                     rotate_left
                     ·intro w'
                      go_simp
                      with_reducible rfl
                     rotate_left
                     ·simp only [Act.put, lT, lZ, lS, i64_w, i32_w]
                      rfl
                     exact norm_ (by simp only [putAll, Act.put, lT, lZ, lS]) (hCont (v326, .slice Ao76 y333.length co76, v337) _ ⟨(by (with_reducible repeat (first | apply Kd.N_alloc | apply Kd.N_drewN | apply Kd.N_drew)); exact Kd.N_mono HO293.out (fun _ hk => ⟨hk.1.1, ⟨hk.1.2.1, ⟨hk.1.2.2.1, ⟨hk.1.2.2.2.1, ⟨hk.1.2.2.2.2.1, ⟨hk.2, hk.1.2.2.2.2.2⟩⟩⟩⟩⟩⟩)), (by (with_reducible repeat (first | apply Kd.R_alloc | apply Kd.R_drewN | apply Kd.R_drew)); exact Kd.R_mono HO302.out (fun _ hk => ⟨hk.1.1, ⟨hk.1.2.1, ⟨hk.1.2.2.1, ⟨hk.2, hk.1.2.2.2⟩⟩⟩⟩)), (by (with_reducible repeat (first | apply Kd.R_alloc | apply Kd.R_drewN | apply Kd.R_drew)); exact Kd.R_mono HO306.out (fun _ hk => ⟨hk.1.1, ⟨hk.1.2.1, ⟨hk.1.2.2.1, ⟨hk.2, hk.1.2.2.2⟩⟩⟩⟩)), (by (with_reducible repeat (first | apply Kd.R_alloc | apply Kd.R_drewN | apply Kd.R_drew)); exact Kd.R_mono HO312.out (fun _ hk => ⟨hk.1.1, ⟨hk.1.2.1, ⟨hk.1.2.2.1, ⟨hk.2, hk.1.2.2.2⟩⟩⟩⟩)), (by (with_reducible repeat (first | apply Kd.V_alloc | apply Kd.V_drewN | apply Kd.V_drew)); exact Kd.V_mono HO321.out (fun _ hk => ⟨hk.1.1, ⟨hk.1.2.1, ⟨hk.1.2.2.1, ⟨hk.1.2.2.2.1, ⟨hk.1.2.2.2.2.1, ⟨hk.2, hk.1.2.2.2.2.2⟩⟩⟩⟩⟩⟩)), (by (with_reducible repeat (first | apply Kd.N_alloc | apply Kd.N_drewN | apply Kd.N_drew)); exact Kd.N_mono HO324.out (fun _ hk => ⟨hk.1.1, ⟨hk.1.2.1, ⟨hk.1.2.2.1, ⟨hk.1.2.2.2.1, ⟨hk.2, hk.1.2.2.2.2⟩⟩⟩⟩⟩)), (by (with_reducible repeat (first | apply Kd.V_alloc | apply Kd.V_drewN | apply Kd.V_drew)); exact Kd.V_mono HO332.out (fun _ hk => ⟨hk.1.1, ⟨hk.1.2.1, ⟨hk.1.2.2.1, ⟨hk.1.2.2.2.1, ⟨hk.1.2.2.2.2.1, ⟨hk.2, hk.1.2.2.2.2.2⟩⟩⟩⟩⟩⟩)), (by (with_reducible repeat (first | apply Kd.R_alloc | apply Kd.R_drewN | apply Kd.R_drew)); exact HO335.out), (by (with_reducible repeat (first | apply Kd.R_alloc | apply Kd.R_drewN | apply Kd.R_drew)); exact Kd.R_mono HO338.out (fun _ hk => ⟨hk.1.1, ⟨hk.1.2.1, ⟨hk.1.2.2.1, ⟨hk.1.2.2.2, hk.2⟩⟩⟩⟩)), (by (with_reducible repeat (first | apply Kd.V_alloc | apply Kd.V_drewN | apply Kd.V_drew)); exact Kd.V_mono HO343.out (fun _ hk => ⟨hk.1.1, ⟨hk.1.2.1, ⟨hk.1.2.2.1, ⟨hk.1.2.2.2.1, ⟨hk.1.2.2.2.2.1, ⟨hk.2, hk.1.2.2.2.2.2⟩⟩⟩⟩⟩⟩)), (by exact hopb HB.out)⟩)
                   ·skip
                    refine Kd.R_lit_step k65 _ 65 ?hg (N := 87) ?hd (xs := ([] : List (S65))) (inner := []) (ok := fun _ => True) (okp := fun _ => True) ?hr ?hp (fun _ hk => hk) trivial (Below.refl _ _) (Nat.le_refl _) (by simp) ?_; (case hd => rfl); (case hg => rfl); (case hr => first | (go_simp; done) | (go_simp; rfl)); (case hp => exact (Reps.none _ _))
                    intro v337 w71 ho72 hb hg_ hnew_
                    clear hg_ hnew_
                    (first | rw [← Ny336.out] at ho72 | (simp only [Int.reduceToNat] at ho72; rw [← Ny336.out] at ho72))
                    replace HO293 := ak (Kd.N_elder' (by (with_reducible repeat (first | apply Kd.N_alloc | apply Kd.N_drewN | apply Kd.N_drew)); exact HO293.out) (Kd.R_base ho72) hb)
                    replace HO321 := ak (Kd.V_elder' (by (with_reducible repeat (first | apply Kd.V_alloc | apply Kd.V_drewN | apply Kd.V_drew)); exact HO321.out) (Kd.R_base ho72) hb)
                    replace HO324 := ak (Kd.N_elder' (by (with_reducible repeat (first | apply Kd.N_alloc | apply Kd.N_drewN | apply Kd.N_drew)); exact HO324.out) (Kd.R_base ho72) hb)
                    replace HO332 := ak (Kd.V_elder' (by (with_reducible repeat (first | apply Kd.V_alloc | apply Kd.V_drewN | apply Kd.V_drew)); exact HO332.out) (Kd.R_base ho72) hb)
                    replace HO343 := ak (Kd.V_elder' (by (with_reducible repeat (first | apply Kd.V_alloc | apply Kd.V_drewN | apply Kd.V_drew)); exact HO343.out) (Kd.R_base ho72) hb)
                    have HO338 := ak (Kd.R_lower (Kd.R_new' (Kd.R_new' (Kd.R_new' (Kd.R_newM (M := fun k_ => (w.heap.size ≤ k_)) ho72 (below_size (by exact hopb HB.out)) (fun k_ h_ => h_)) (Kd.R_lt (by (with_reducible repeat (first | apply Kd.R_alloc | apply Kd.R_drewN | apply Kd.R_drew)); exact HO302.out))) (Kd.R_lt (by (with_reducible repeat (first | apply Kd.R_alloc | apply Kd.R_drewN | apply Kd.R_drew)); exact HO306.out))) (Kd.R_lt (by (with_reducible repeat (first | apply Kd.R_alloc | apply Kd.R_drewN | apply Kd.R_drew)); exact HO312.out))) (below_size (by exact hopb HB.out)))
                    replace HO302 := ak (Kd.R_elder' (by (with_reducible repeat (first | apply Kd.R_alloc | apply Kd.R_drewN | apply Kd.R_drew)); exact HO302.out) (Kd.R_base ho72) hb)
                    replace HO306 := ak (Kd.R_elder' (by (with_reducible repeat (first | apply Kd.R_alloc | apply Kd.R_drewN | apply Kd.R_drew)); exact HO306.out) (Kd.R_base ho72) hb)
                    replace HO312 := ak (Kd.R_elder' (by (with_reducible repeat (first | apply Kd.R_alloc | apply Kd.R_drewN | apply Kd.R_drew)); exact HO312.out) (Kd.R_base ho72) hb)
                    replace HB := ak (below_step (by exact hopb HB.out) hb)
                    clear hb ho72
                    refine hK.out _ _ trivial (fun hHeld => ?_)
                    clear hK K
                    refine norm_ (a' := ?_) ?_ ?_
                    rotate_left
                    ·show Act.put _ (some 87) _ = _
                     simp only [Act.put, lT, lZ, lS, i64_w, i32_w]
                     rfl
                    refine one_ (i := 1) (N := some 82) #[T,T,T,T,U,U,T,T,T,U,U,U,U,U] rfl rfl (one_of HT_.out (by kernel_rfl)) (by decide) (fun K hK => ?_)
                    refine Kd.R_lit_step k65 _ 65 ?hg (N := 82) ?hd (xs := ([] : List (S65))) (inner := []) (ok := fun _ => True) (okp := fun _ => True) ?hr ?hp (fun _ hk => hk) trivial (Below.refl _ _) (Nat.le_refl _) (by simp) ?_; (case hd => rfl); (case hg => rfl); (case hr => first | (go_simp; done) | (go_simp; rfl)); (case hp => exact (Reps.none _ _))
                    intro v326 w73 ho74 hb hg_ hnew_
                    clear hg_ hnew_
                    (first | rw [← Ny325.out] at ho74 | (simp only [Int.reduceToNat] at ho74; rw [← Ny325.out] at ho74))
                    replace HO293 := ak (Kd.N_elder' (by (with_reducible repeat (first | apply Kd.N_alloc | apply Kd.N_drewN | apply Kd.N_drew)); exact HO293.out) (Kd.R_base ho74) hb)
                    replace HO321 := ak (Kd.V_elder' (by (with_reducible repeat (first | apply Kd.V_alloc | apply Kd.V_drewN | apply Kd.V_drew)); exact HO321.out) (Kd.R_base ho74) hb)
                    replace HO324 := ak (Kd.N_elder' (by (with_reducible repeat (first | apply Kd.N_alloc | apply Kd.N_drewN | apply Kd.N_drew)); exact HO324.out) (Kd.R_base ho74) hb)
                    replace HO332 := ak (Kd.V_elder' (by (with_reducible repeat (first | apply Kd.V_alloc | apply Kd.V_drewN | apply Kd.V_drew)); exact HO332.out) (Kd.R_base ho74) hb)
                    replace HO343 := ak (Kd.V_elder' (by (with_reducible repeat (first | apply Kd.V_alloc | apply Kd.V_drewN | apply Kd.V_drew)); exact HO343.out) (Kd.R_base ho74) hb)
                    have HO327 := ak (Kd.R_lower (Kd.R_new' (Kd.R_new' (Kd.R_new' (Kd.R_new' (Kd.R_newM (M := fun k_ => (w.heap.size ≤ k_)) ho74 (below_size (by exact hopb HB.out)) (fun k_ h_ => h_)) (Kd.R_lt (by (with_reducible repeat (first | apply Kd.R_alloc | apply Kd.R_drewN | apply Kd.R_drew)); exact HO302.out))) (Kd.R_lt (by (with_reducible repeat (first | apply Kd.R_alloc | apply Kd.R_drewN | apply Kd.R_drew)); exact HO306.out))) (Kd.R_lt (by (with_reducible repeat (first | apply Kd.R_alloc | apply Kd.R_drewN | apply Kd.R_drew)); exact HO312.out))) (Kd.R_lt (by (with_reducible repeat (first | apply Kd.R_alloc | apply Kd.R_drewN | apply Kd.R_drew)); exact HO338.out))) (below_size (by exact hopb HB.out)))
                    replace HO302 := ak (Kd.R_elder' (by (with_reducible repeat (first | apply Kd.R_alloc | apply Kd.R_drewN | apply Kd.R_drew)); exact HO302.out) (Kd.R_base ho74) hb)
                    replace HO306 := ak (Kd.R_elder' (by (with_reducible repeat (first | apply Kd.R_alloc | apply Kd.R_drewN | apply Kd.R_drew)); exact HO306.out) (Kd.R_base ho74) hb)
                    replace HO312 := ak (Kd.R_elder' (by (with_reducible repeat (first | apply Kd.R_alloc | apply Kd.R_drewN | apply Kd.R_drew)); exact HO312.out) (Kd.R_base ho74) hb)
                    replace HO338 := ak (Kd.R_elder' (by (with_reducible repeat (first | apply Kd.R_alloc | apply Kd.R_drewN | apply Kd.R_drew)); exact HO338.out) (Kd.R_base ho74) hb)
                    replace HB := ak (below_step (by exact hopb HB.out) hb)
                    clear hb ho74
                    refine hK.out _ _ trivial (fun hHeld => ?_)
                    clear hK K
                    refine norm_ (a' := ?_) ?_ ?_
                    rotate_left
                    ·show Act.put _ (some 82) _ = _
                     simp only [Act.put, lT, lZ, lS, i64_w, i32_w]
                     rfl
                    refine one_ (i := 4) (N := some 85) #[T,T,T,T,T,U,T,T,T,U,U,U,U,U] rfl rfl (one_of HT_.out (by kernel_rfl)) (by decide) (fun K hK => ?_)
                    refine Kd.R_append_rows_step k65 (w0 := w) w.heap.size (by rfl) (.tmp 82) (.tmp 84) 36 65 (.agg #[(.string ⟨#[]⟩), (.int .i64 0)]) 24 rfl Try.underlying36 info65 rfl (by decide) (by omega) v326 y325 y328 _ _ _ (fun k_ => (w.heap.size ≤ k_) ∧ some k_ ≠ (.slice Ao57 t300.length co57 : Value).ownBlock ∧ some k_ ≠ (v305 : Value).ownBlock ∧ some k_ ≠ (.slice Ao61 t309.length co61 : Value).ownBlock ∧ some k_ ≠ (v337 : Value).ownBlock) (fun _ => False) rfl rfl ?aO ?aR (fun _ _ h => h) (fun _ h => h.elim) ?aF ?aB ?aS ?aL ?_
                    (case aR => repeat (first | exact (Kd.V_reads' HO332.out).2.2 | (with_reducible refine Kd.C_alloc ?_ _) | (with_reducible refine Kd.C_drewN ?_ _) | (with_reducible refine Kd.C_drew ?_)))
                    (case aB => exact (by exact hopb HB.out))
                    (case aF => exact (fun k_ hk => ⟨(Nat.le_trans (below_size (by exact hopb HB.out)) hk), Kd.fresh' (Kd.R_lt (by (with_reducible repeat (first | apply Kd.R_alloc | apply Kd.R_drewN | apply Kd.R_drew)); exact HO302.out)) k_ hk, Kd.fresh' (Kd.R_lt (by (with_reducible repeat (first | apply Kd.R_alloc | apply Kd.R_drewN | apply Kd.R_drew)); exact HO306.out)) k_ hk, Kd.fresh' (Kd.R_lt (by (with_reducible repeat (first | apply Kd.R_alloc | apply Kd.R_drewN | apply Kd.R_drew)); exact HO312.out)) k_ hk, Kd.fresh' (Kd.R_lt (by (with_reducible repeat (first | apply Kd.R_alloc | apply Kd.R_drewN | apply Kd.R_drew)); exact HO338.out)) k_ hk⟩))
                    (case aO => exact (by (with_reducible repeat (first | apply Kd.R_alloc | apply Kd.R_drewN | apply Kd.R_drew)); exact Kd.R_mono HO327.out (fun _ hk => ⟨hk.1.1.1.1.1, ⟨hk.1.1.1.2, ⟨hk.1.1.2, ⟨hk.1.2, hk.2⟩⟩⟩⟩)))
                    (case aS => exact (below_size (by exact hopb HB.out)))
                    (case aL => have := LMc47.out; omega)
                    intro v334 w75 ho hb hg hat
                    rw [← Ny333.out] at ho
                    replace HO293 := ak (Kd.N_afterv (ok := (fun k_ => (w.heap.size ≤ k_) ∧ some k_ ≠ (.slice Ao57 t300.length co57 : Value).ownBlock ∧ some k_ ≠ (v305 : Value).ownBlock ∧ some k_ ≠ (.slice Ao61 t309.length co61 : Value).ownBlock ∧ some k_ ≠ (.slice Ao67 y322.length co67 : Value).ownBlock ∧ some k_ ≠ (v337 : Value).ownBlock)) (by (with_reducible repeat (first | apply Kd.N_alloc | apply Kd.N_drewN | apply Kd.N_drew)); exact Kd.N_mono HO293.out (fun _ hk => ⟨⟨hk.1.1.1.1, ⟨hk.1.1.1.2.1, ⟨hk.1.1.1.2.2.1, ⟨hk.1.1.1.2.2.2, ⟨hk.1.1.2, hk.1.2⟩⟩⟩⟩⟩, hk.2⟩)) hg hat)
                    replace HO302 := ak (Kd.R_after (ok := (fun k_ => (w.heap.size ≤ k_) ∧ some k_ ≠ (v305 : Value).ownBlock ∧ some k_ ≠ (.slice Ao61 t309.length co61 : Value).ownBlock ∧ some k_ ≠ (v337 : Value).ownBlock)) (by (with_reducible repeat (first | apply Kd.R_alloc | apply Kd.R_drewN | apply Kd.R_drew)); exact Kd.R_mono HO302.out (fun _ hk => ⟨⟨hk.1.1.1.1.1, ⟨hk.1.1.1.2, ⟨hk.1.1.2, hk.1.2⟩⟩⟩, hk.2⟩)) hg hat)
                    replace HO306 := ak (Kd.R_after (ok := (fun k_ => (w.heap.size ≤ k_) ∧ some k_ ≠ (.slice Ao57 t300.length co57 : Value).ownBlock ∧ some k_ ≠ (.slice Ao61 t309.length co61 : Value).ownBlock ∧ some k_ ≠ (v337 : Value).ownBlock)) (by (with_reducible repeat (first | apply Kd.R_alloc | apply Kd.R_drewN | apply Kd.R_drew)); exact Kd.R_mono HO306.out (fun _ hk => ⟨⟨hk.1.1.1.1.1, ⟨hk.1.1.1.2, ⟨hk.1.1.2, hk.1.2⟩⟩⟩, hk.2⟩)) hg hat)
                    replace HO312 := ak (Kd.R_after (ok := (fun k_ => (w.heap.size ≤ k_) ∧ some k_ ≠ (.slice Ao57 t300.length co57 : Value).ownBlock ∧ some k_ ≠ (v305 : Value).ownBlock ∧ some k_ ≠ (v337 : Value).ownBlock)) (by (with_reducible repeat (first | apply Kd.R_alloc | apply Kd.R_drewN | apply Kd.R_drew)); exact Kd.R_mono HO312.out (fun _ hk => ⟨⟨hk.1.1.1.1.1, ⟨hk.1.1.1.2, ⟨hk.1.1.2, hk.1.2⟩⟩⟩, hk.2⟩)) hg hat)
                    replace HO321 := ak (Kd.V_afterv (ok := (fun k_ => (w.heap.size ≤ k_) ∧ some k_ ≠ (.slice Ao57 t300.length co57 : Value).ownBlock ∧ some k_ ≠ (v305 : Value).ownBlock ∧ some k_ ≠ (.slice Ao61 t309.length co61 : Value).ownBlock ∧ some k_ ≠ (.slice Ao67 y322.length co67 : Value).ownBlock ∧ some k_ ≠ (v337 : Value).ownBlock)) (by (with_reducible repeat (first | apply Kd.V_alloc | apply Kd.V_drewN | apply Kd.V_drew)); exact Kd.V_mono HO321.out (fun _ hk => ⟨⟨hk.1.1.1.1, ⟨hk.1.1.1.2.1, ⟨hk.1.1.1.2.2.1, ⟨hk.1.1.1.2.2.2, ⟨hk.1.1.2, hk.1.2⟩⟩⟩⟩⟩, hk.2⟩)) hg hat)
                    replace HO324 := ak (Kd.N_afterv (ok := (fun k_ => (w.heap.size ≤ k_) ∧ some k_ ≠ (.slice Ao57 t300.length co57 : Value).ownBlock ∧ some k_ ≠ (v305 : Value).ownBlock ∧ some k_ ≠ (.slice Ao61 t309.length co61 : Value).ownBlock ∧ some k_ ≠ (v337 : Value).ownBlock)) (by (with_reducible repeat (first | apply Kd.N_alloc | apply Kd.N_drewN | apply Kd.N_drew)); exact Kd.N_mono HO324.out (fun _ hk => ⟨⟨hk.1.1.1, ⟨hk.1.1.2.1, ⟨hk.1.1.2.2.1, ⟨hk.1.1.2.2.2, hk.1.2⟩⟩⟩⟩, hk.2⟩)) hg hat)
                    replace HO332 := ak (Kd.V_afterv (ok := (fun k_ => (w.heap.size ≤ k_) ∧ some k_ ≠ (.slice Ao65 t291.length co65 : Value).ownBlock ∧ some k_ ≠ (.slice Ao57 t300.length co57 : Value).ownBlock ∧ some k_ ≠ (v305 : Value).ownBlock ∧ some k_ ≠ (.slice Ao67 y322.length co67 : Value).ownBlock ∧ some k_ ≠ (v337 : Value).ownBlock)) (by (with_reducible repeat (first | apply Kd.V_alloc | apply Kd.V_drewN | apply Kd.V_drew)); exact Kd.V_mono HO332.out (fun _ hk => ⟨⟨hk.1.1.1.1.1.1.1, ⟨hk.1.1.1.2, ⟨hk.1.1.1.1.1.2, ⟨hk.1.1.1.1.2, ⟨hk.1.1.2, hk.1.2⟩⟩⟩⟩⟩, hk.2⟩)) hg hat)
                    replace HO343 := ak (Kd.V_afterv (ok := (fun k_ => (w.heap.size ≤ k_) ∧ some k_ ≠ (.slice Ao65 t291.length co65 : Value).ownBlock ∧ some k_ ≠ (.slice Ao57 t300.length co57 : Value).ownBlock ∧ some k_ ≠ (v305 : Value).ownBlock ∧ some k_ ≠ (.slice Ao67 y322.length co67 : Value).ownBlock ∧ some k_ ≠ (v337 : Value).ownBlock)) (by (with_reducible repeat (first | apply Kd.V_alloc | apply Kd.V_drewN | apply Kd.V_drew)); exact Kd.V_mono HO343.out (fun _ hk => ⟨⟨hk.1.1.1.1.1.1.1, ⟨hk.1.1.1.2, ⟨hk.1.1.1.1.1.2, ⟨hk.1.1.1.1.2, ⟨hk.1.1.2, hk.1.2⟩⟩⟩⟩⟩, hk.2⟩)) hg hat)
                    replace HO338 := ak (Kd.R_after (ok := (fun k_ => (w.heap.size ≤ k_) ∧ some k_ ≠ (.slice Ao57 t300.length co57 : Value).ownBlock ∧ some k_ ≠ (v305 : Value).ownBlock ∧ some k_ ≠ (.slice Ao61 t309.length co61 : Value).ownBlock)) (by (with_reducible repeat (first | apply Kd.R_alloc | apply Kd.R_drewN | apply Kd.R_drew)); exact Kd.R_mono HO338.out (fun _ hk => ⟨⟨hk.1.1.1.1.1, ⟨hk.1.1.1.2, ⟨hk.1.1.2, hk.1.2⟩⟩⟩, hk.2⟩)) hg hat)
                    replace HB := ak (hb)
                    have HO335 := ak (ho)
                    clear HO327
                    clear ho hb hg hat
                    obtain ⟨Ao76, co76, eo76⟩ := Kd.R_slice HO335.out
                    (first | subst eo76 | (injection eo76 with f1_ f2_ f3_; have f4_ := f1_.symm; have f5_ := f3_.symm; clear f1_ f2_ f3_; subst f4_; subst f5_))
                    refine hK.out _ _ trivial (fun hHeld => ?_)
                    clear hK K
                    refine norm_ (a' := ?_) ?_ ?_
                    rotate_left
                    ·show Act.put _ (some 85) _ = _
                     simp only [Act.put, lT, lZ, lS, i64_w, i32_w]
                     rfl
                    refine pure_ (i := 5) (N := some 86) (v := ?_) (a' := ?_) #[T,T,T,T,T,T,T,T,T,U,U,U,U,U] rfl rfl (any_of HT_.out (by kernel_rfl)) (fun _ _ _ h => h) (Or.inl ⟨by rfl, ?_⟩) ?_ ?_
                    rotate_left
                    ·intro w'
                     go_simp
                     with_reducible rfl
                    rotate_left
                    ·simp only [Act.put, lT, lZ, lS, i64_w, i32_w]
                     rfl
                    exact norm_ (by simp only [putAll, Act.put, lT, lZ, lS]) (hCont (v326, .slice Ao76 y333.length co76, v337) _ ⟨(by (with_reducible repeat (first | apply Kd.N_alloc | apply Kd.N_drewN | apply Kd.N_drew)); exact Kd.N_mono HO293.out (fun _ hk => ⟨hk.1.1, ⟨hk.1.2.1, ⟨hk.1.2.2.1, ⟨hk.1.2.2.2.1, ⟨hk.1.2.2.2.2.1, ⟨hk.2, hk.1.2.2.2.2.2⟩⟩⟩⟩⟩⟩)), (by (with_reducible repeat (first | apply Kd.R_alloc | apply Kd.R_drewN | apply Kd.R_drew)); exact Kd.R_mono HO302.out (fun _ hk => ⟨hk.1.1, ⟨hk.1.2.1, ⟨hk.1.2.2.1, ⟨hk.2, hk.1.2.2.2⟩⟩⟩⟩)), (by (with_reducible repeat (first | apply Kd.R_alloc | apply Kd.R_drewN | apply Kd.R_drew)); exact Kd.R_mono HO306.out (fun _ hk => ⟨hk.1.1, ⟨hk.1.2.1, ⟨hk.1.2.2.1, ⟨hk.2, hk.1.2.2.2⟩⟩⟩⟩)), (by (with_reducible repeat (first | apply Kd.R_alloc | apply Kd.R_drewN | apply Kd.R_drew)); exact Kd.R_mono HO312.out (fun _ hk => ⟨hk.1.1, ⟨hk.1.2.1, ⟨hk.1.2.2.1, ⟨hk.2, hk.1.2.2.2⟩⟩⟩⟩)), (by (with_reducible repeat (first | apply Kd.V_alloc | apply Kd.V_drewN | apply Kd.V_drew)); exact Kd.V_mono HO321.out (fun _ hk => ⟨hk.1.1, ⟨hk.1.2.1, ⟨hk.1.2.2.1, ⟨hk.1.2.2.2.1, ⟨hk.1.2.2.2.2.1, ⟨hk.2, hk.1.2.2.2.2.2⟩⟩⟩⟩⟩⟩)), (by (with_reducible repeat (first | apply Kd.N_alloc | apply Kd.N_drewN | apply Kd.N_drew)); exact Kd.N_mono HO324.out (fun _ hk => ⟨hk.1.1, ⟨hk.1.2.1, ⟨hk.1.2.2.1, ⟨hk.1.2.2.2.1, ⟨hk.2, hk.1.2.2.2.2⟩⟩⟩⟩⟩)), (by (with_reducible repeat (first | apply Kd.V_alloc | apply Kd.V_drewN | apply Kd.V_drew)); exact Kd.V_mono HO332.out (fun _ hk => ⟨hk.1.1, ⟨hk.1.2.1, ⟨hk.1.2.2.1, ⟨hk.1.2.2.2.1, ⟨hk.1.2.2.2.2.1, ⟨hk.2, hk.1.2.2.2.2.2⟩⟩⟩⟩⟩⟩)), (by (with_reducible repeat (first | apply Kd.R_alloc | apply Kd.R_drewN | apply Kd.R_drew)); exact HO335.out), (by (with_reducible repeat (first | apply Kd.R_alloc | apply Kd.R_drewN | apply Kd.R_drew)); exact Kd.R_mono HO338.out (fun _ hk => ⟨hk.1.1, ⟨hk.1.2.1, ⟨hk.1.2.2.1, ⟨hk.1.2.2.2, hk.2⟩⟩⟩⟩)), (by (with_reducible repeat (first | apply Kd.V_alloc | apply Kd.V_drewN | apply Kd.V_drew)); exact Kd.V_mono HO343.out (fun _ hk => ⟨hk.1.1, ⟨hk.1.2.1, ⟨hk.1.2.2.1, ⟨hk.1.2.2.2.1, ⟨hk.1.2.2.2.2.1, ⟨hk.2, hk.1.2.2.2.2.2⟩⟩⟩⟩⟩⟩)), (by exact hopb HB.out)⟩)
                  rintro ⟨v326, v334, v337⟩ w77 ⟨h0_, h1_, h2_, h3_, h4_, h5_, h6_, h7_, h8_, h9_, h10_⟩
                  have n0_ : Aside0 (Kd.N k53 53 w77 w.heap.size (fun k_ => (w.heap.size ≤ k_) ∧ some k_ ≠ (.slice Ao57 t300.length co57 : Value).ownBlock ∧ some k_ ≠ (v305 : Value).ownBlock ∧ some k_ ≠ (.slice Ao61 t309.length co61 : Value).ownBlock ∧ some k_ ≠ (.slice Ao67 y322.length co67 : Value).ownBlock ∧ some k_ ≠ (v334 : Value).ownBlock ∧ some k_ ≠ (v337 : Value).ownBlock) (.slice Ao65 t291.length co65) t291) := ⟨h0_⟩
                  have n1_ : Aside0 (Kd.R k65 65 w77 w.heap.size (fun k_ => (w.heap.size ≤ k_) ∧ some k_ ≠ (v305 : Value).ownBlock ∧ some k_ ≠ (.slice Ao61 t309.length co61 : Value).ownBlock ∧ some k_ ≠ (v334 : Value).ownBlock ∧ some k_ ≠ (v337 : Value).ownBlock) (.slice Ao57 t300.length co57) t300) := ⟨h1_⟩
                  have n2_ : Aside0 (Kd.R k65 65 w77 w.heap.size (fun k_ => (w.heap.size ≤ k_) ∧ some k_ ≠ (.slice Ao57 t300.length co57 : Value).ownBlock ∧ some k_ ≠ (.slice Ao61 t309.length co61 : Value).ownBlock ∧ some k_ ≠ (v334 : Value).ownBlock ∧ some k_ ≠ (v337 : Value).ownBlock) v305 t303) := ⟨h2_⟩
                  have n3_ : Aside0 (Kd.R k65 65 w77 w.heap.size (fun k_ => (w.heap.size ≤ k_) ∧ some k_ ≠ (.slice Ao57 t300.length co57 : Value).ownBlock ∧ some k_ ≠ (v305 : Value).ownBlock ∧ some k_ ≠ (v334 : Value).ownBlock ∧ some k_ ≠ (v337 : Value).ownBlock) (.slice Ao61 t309.length co61) t309) := ⟨h3_⟩
                  have n4_ : Aside0 (Kd.V k53 53 w77 w.heap.size (fun k_ => (w.heap.size ≤ k_) ∧ some k_ ≠ (.slice Ao57 t300.length co57 : Value).ownBlock ∧ some k_ ≠ (v305 : Value).ownBlock ∧ some k_ ≠ (.slice Ao61 t309.length co61 : Value).ownBlock ∧ some k_ ≠ (.slice Ao67 y322.length co67 : Value).ownBlock ∧ some k_ ≠ (v334 : Value).ownBlock ∧ some k_ ≠ (v337 : Value).ownBlock) (.slice Ao65 y317.length co65) y317) := ⟨h4_⟩
                  have n5_ : Aside0 (Kd.N k53 53 w77 w.heap.size (fun k_ => (w.heap.size ≤ k_) ∧ some k_ ≠ (.slice Ao57 t300.length co57 : Value).ownBlock ∧ some k_ ≠ (v305 : Value).ownBlock ∧ some k_ ≠ (.slice Ao61 t309.length co61 : Value).ownBlock ∧ some k_ ≠ (v334 : Value).ownBlock ∧ some k_ ≠ (v337 : Value).ownBlock) (.slice Ao67 y322.length co67) y322) := ⟨h5_⟩
                  have n6_ : Aside0 (Kd.V k65 65 w77 w.heap.size (fun k_ => (w.heap.size ≤ k_) ∧ some k_ ≠ (.slice Ao65 t291.length co65 : Value).ownBlock ∧ some k_ ≠ (.slice Ao57 t300.length co57 : Value).ownBlock ∧ some k_ ≠ (v305 : Value).ownBlock ∧ some k_ ≠ (.slice Ao67 y322.length co67 : Value).ownBlock ∧ some k_ ≠ (v334 : Value).ownBlock ∧ some k_ ≠ (v337 : Value).ownBlock) (.slice Ao61 y328.length co61) y328) := ⟨h6_⟩
                  have n7_ : Aside0 (Kd.R k65 65 w77 w.heap.size (fun k_ => (w.heap.size ≤ k_) ∧ some k_ ≠ (.slice Ao57 t300.length co57 : Value).ownBlock ∧ some k_ ≠ (v305 : Value).ownBlock ∧ some k_ ≠ (.slice Ao61 t309.length co61 : Value).ownBlock ∧ some k_ ≠ (v337 : Value).ownBlock) v334 y333) := ⟨h7_⟩
                  have n8_ : Aside0 (Kd.R k65 65 w77 w.heap.size (fun k_ => (w.heap.size ≤ k_) ∧ some k_ ≠ (.slice Ao57 t300.length co57 : Value).ownBlock ∧ some k_ ≠ (v305 : Value).ownBlock ∧ some k_ ≠ (.slice Ao61 t309.length co61 : Value).ownBlock ∧ some k_ ≠ (v334 : Value).ownBlock) v337 y336) := ⟨h8_⟩
                  have n9_ : Aside0 (Kd.V k65 65 w77 w.heap.size (fun k_ => (w.heap.size ≤ k_) ∧ some k_ ≠ (.slice Ao65 t291.length co65 : Value).ownBlock ∧ some k_ ≠ (.slice Ao57 t300.length co57 : Value).ownBlock ∧ some k_ ≠ (v305 : Value).ownBlock ∧ some k_ ≠ (.slice Ao67 y322.length co67 : Value).ownBlock ∧ some k_ ≠ (v334 : Value).ownBlock ∧ some k_ ≠ (v337 : Value).ownBlock) (.slice A70 y339.length c70) y339) := ⟨h9_⟩
                  have n10_ : Aside0 (Below w.heap.size w w77) := ⟨h10_⟩
                  clear HO293
                  clear HO302
                  clear HO306
                  clear HO312
                  clear HO321
                  clear HO324
                  clear HB
                  clear h0_ h1_ h2_ h3_ h4_ h5_ h6_ h7_ h8_ h9_ h10_
                  have HO293 := n0_
                  have HO302 := n1_
                  have HO306 := n2_
                  have HO312 := n3_
                  have HO321 := n4_
                  have HO324 := n5_
                  have HO332 := n6_
                  have HO335 := n7_
                  have HO338 := n8_
                  have HO343 := n9_
                  have HB := n10_
                  clear n0_ n1_ n2_ n3_ n4_ n5_ n6_ n7_ n8_ n9_ n10_
                  have hHeld := trivial
                  obtain ⟨Ao78, co78, eo78⟩ := Kd.R_slice HO335.out
                  (first | subst eo78 | (injection eo78 with f1_ f2_ f3_; have f4_ := f1_.symm; have f5_ := f3_.symm; clear f1_ f2_ f3_; subst f4_; subst f5_))
                  refine norm_ (a' := ?_) ?_ ?_
                  rotate_left
                  ·simp only [putAll, Act.put, lT, lZ, lS]
                   rfl
                  refine one_ (i := 9) (N := some 90) #[T,T,T,T,T,T,T,T,T,T,U,U,U,U] rfl rfl (one_of HT_.out (by kernel_rfl)) (by decide) (fun K hK => ?_)
                  refine Kd.R_append_rows_step k65 (w0 := w) w.heap.size (by rfl) (.tmp 87) (.tmp 89) 36 65 (.agg #[(.string ⟨#[]⟩), (.int .i64 0)]) 24 rfl Try.underlying36 info65 rfl (by decide) (by omega) v337 y336 y339 _ _ _ (fun k_ => (w.heap.size ≤ k_) ∧ some k_ ≠ (.slice Ao57 t300.length co57 : Value).ownBlock ∧ some k_ ≠ (v305 : Value).ownBlock ∧ some k_ ≠ (.slice Ao61 t309.length co61 : Value).ownBlock ∧ some k_ ≠ (.slice Ao78 y333.length co78 : Value).ownBlock) (fun _ => False) rfl rfl ?aO ?aR (fun _ _ h => h) (fun _ h => h.elim) ?aF ?aB ?aS ?aL ?_
                  (case aR => repeat (first | exact (Kd.V_reads' HO343.out).2.2 | (with_reducible refine Kd.C_alloc ?_ _) | (with_reducible refine Kd.C_drewN ?_ _) | (with_reducible refine Kd.C_drew ?_)))
                  (case aB => exact (by exact hopb HB.out))
                  (case aF => exact (fun k_ hk => ⟨(Nat.le_trans (below_size (by exact hopb HB.out)) hk), Kd.fresh' (Kd.R_lt (by (with_reducible repeat (first | apply Kd.R_alloc | apply Kd.R_drewN | apply Kd.R_drew)); exact HO302.out)) k_ hk, Kd.fresh' (Kd.R_lt (by (with_reducible repeat (first | apply Kd.R_alloc | apply Kd.R_drewN | apply Kd.R_drew)); exact HO306.out)) k_ hk, Kd.fresh' (Kd.R_lt (by (with_reducible repeat (first | apply Kd.R_alloc | apply Kd.R_drewN | apply Kd.R_drew)); exact HO312.out)) k_ hk, Kd.fresh' (Kd.R_lt (by (with_reducible repeat (first | apply Kd.R_alloc | apply Kd.R_drewN | apply Kd.R_drew)); exact HO335.out)) k_ hk⟩))
                  (case aO => exact (by (with_reducible repeat (first | apply Kd.R_alloc | apply Kd.R_drewN | apply Kd.R_drew)); exact HO338.out))
                  (case aS => exact (below_size (by exact hopb HB.out)))
                  (case aL => have := LMc49.out; omega)
                  intro v345 w79 ho hb hg hat
                  rw [← Ny344.out] at ho
                  replace HO293 := ak (Kd.N_afterv (ok := (fun k_ => (w.heap.size ≤ k_) ∧ some k_ ≠ (.slice Ao57 t300.length co57 : Value).ownBlock ∧ some k_ ≠ (v305 : Value).ownBlock ∧ some k_ ≠ (.slice Ao61 t309.length co61 : Value).ownBlock ∧ some k_ ≠ (.slice Ao67 y322.length co67 : Value).ownBlock ∧ some k_ ≠ (.slice Ao78 y333.length co78 : Value).ownBlock)) (by (with_reducible repeat (first | apply Kd.N_alloc | apply Kd.N_drewN | apply Kd.N_drew)); exact Kd.N_mono HO293.out (fun _ hk => ⟨⟨hk.1, ⟨hk.2.1, ⟨hk.2.2.1, ⟨hk.2.2.2.1, ⟨hk.2.2.2.2.1, hk.2.2.2.2.2.1⟩⟩⟩⟩⟩, hk.2.2.2.2.2.2⟩)) hg hat)
                  replace HO302 := ak (Kd.R_after (ok := (fun k_ => (w.heap.size ≤ k_) ∧ some k_ ≠ (v305 : Value).ownBlock ∧ some k_ ≠ (.slice Ao61 t309.length co61 : Value).ownBlock ∧ some k_ ≠ (.slice Ao78 y333.length co78 : Value).ownBlock)) (by (with_reducible repeat (first | apply Kd.R_alloc | apply Kd.R_drewN | apply Kd.R_drew)); exact Kd.R_mono HO302.out (fun _ hk => ⟨⟨hk.1, ⟨hk.2.1, ⟨hk.2.2.1, hk.2.2.2.1⟩⟩⟩, hk.2.2.2.2⟩)) hg hat)
                  replace HO306 := ak (Kd.R_after (ok := (fun k_ => (w.heap.size ≤ k_) ∧ some k_ ≠ (.slice Ao57 t300.length co57 : Value).ownBlock ∧ some k_ ≠ (.slice Ao61 t309.length co61 : Value).ownBlock ∧ some k_ ≠ (.slice Ao78 y333.length co78 : Value).ownBlock)) (by (with_reducible repeat (first | apply Kd.R_alloc | apply Kd.R_drewN | apply Kd.R_drew)); exact Kd.R_mono HO306.out (fun _ hk => ⟨⟨hk.1, ⟨hk.2.1, ⟨hk.2.2.1, hk.2.2.2.1⟩⟩⟩, hk.2.2.2.2⟩)) hg hat)
                  replace HO312 := ak (Kd.R_after (ok := (fun k_ => (w.heap.size ≤ k_) ∧ some k_ ≠ (.slice Ao57 t300.length co57 : Value).ownBlock ∧ some k_ ≠ (v305 : Value).ownBlock ∧ some k_ ≠ (.slice Ao78 y333.length co78 : Value).ownBlock)) (by (with_reducible repeat (first | apply Kd.R_alloc | apply Kd.R_drewN | apply Kd.R_drew)); exact Kd.R_mono HO312.out (fun _ hk => ⟨⟨hk.1, ⟨hk.2.1, ⟨hk.2.2.1, hk.2.2.2.1⟩⟩⟩, hk.2.2.2.2⟩)) hg hat)
                  replace HO321 := ak (Kd.V_afterv (ok := (fun k_ => (w.heap.size ≤ k_) ∧ some k_ ≠ (.slice Ao57 t300.length co57 : Value).ownBlock ∧ some k_ ≠ (v305 : Value).ownBlock ∧ some k_ ≠ (.slice Ao61 t309.length co61 : Value).ownBlock ∧ some k_ ≠ (.slice Ao67 y322.length co67 : Value).ownBlock ∧ some k_ ≠ (.slice Ao78 y333.length co78 : Value).ownBlock)) (by (with_reducible repeat (first | apply Kd.V_alloc | apply Kd.V_drewN | apply Kd.V_drew)); exact Kd.V_mono HO321.out (fun _ hk => ⟨⟨hk.1, ⟨hk.2.1, ⟨hk.2.2.1, ⟨hk.2.2.2.1, ⟨hk.2.2.2.2.1, hk.2.2.2.2.2.1⟩⟩⟩⟩⟩, hk.2.2.2.2.2.2⟩)) hg hat)
                  replace HO324 := ak (Kd.N_afterv (ok := (fun k_ => (w.heap.size ≤ k_) ∧ some k_ ≠ (.slice Ao57 t300.length co57 : Value).ownBlock ∧ some k_ ≠ (v305 : Value).ownBlock ∧ some k_ ≠ (.slice Ao61 t309.length co61 : Value).ownBlock ∧ some k_ ≠ (.slice Ao78 y333.length co78 : Value).ownBlock)) (by (with_reducible repeat (first | apply Kd.N_alloc | apply Kd.N_drewN | apply Kd.N_drew)); exact Kd.N_mono HO324.out (fun _ hk => ⟨⟨hk.1, ⟨hk.2.1, ⟨hk.2.2.1, ⟨hk.2.2.2.1, hk.2.2.2.2.1⟩⟩⟩⟩, hk.2.2.2.2.2⟩)) hg hat)
                  replace HO332 := ak (Kd.V_afterv (ok := (fun k_ => (w.heap.size ≤ k_) ∧ some k_ ≠ (.slice Ao65 t291.length co65 : Value).ownBlock ∧ some k_ ≠ (.slice Ao57 t300.length co57 : Value).ownBlock ∧ some k_ ≠ (v305 : Value).ownBlock ∧ some k_ ≠ (.slice Ao67 y322.length co67 : Value).ownBlock ∧ some k_ ≠ (.slice Ao78 y333.length co78 : Value).ownBlock)) (by (with_reducible repeat (first | apply Kd.V_alloc | apply Kd.V_drewN | apply Kd.V_drew)); exact Kd.V_mono HO332.out (fun _ hk => ⟨⟨hk.1, ⟨hk.2.1, ⟨hk.2.2.1, ⟨hk.2.2.2.1, ⟨hk.2.2.2.2.1, hk.2.2.2.2.2.1⟩⟩⟩⟩⟩, hk.2.2.2.2.2.2⟩)) hg hat)
                  replace HO343 := ak (Kd.V_afterv (ok := (fun k_ => (w.heap.size ≤ k_) ∧ some k_ ≠ (.slice Ao65 t291.length co65 : Value).ownBlock ∧ some k_ ≠ (.slice Ao57 t300.length co57 : Value).ownBlock ∧ some k_ ≠ (v305 : Value).ownBlock ∧ some k_ ≠ (.slice Ao67 y322.length co67 : Value).ownBlock ∧ some k_ ≠ (.slice Ao78 y333.length co78 : Value).ownBlock)) (by (with_reducible repeat (first | apply Kd.V_alloc | apply Kd.V_drewN | apply Kd.V_drew)); exact Kd.V_mono HO343.out (fun _ hk => ⟨⟨hk.1, ⟨hk.2.1, ⟨hk.2.2.1, ⟨hk.2.2.2.1, ⟨hk.2.2.2.2.1, hk.2.2.2.2.2.1⟩⟩⟩⟩⟩, hk.2.2.2.2.2.2⟩)) hg hat)
                  replace HO335 := ak (Kd.R_after (ok := (fun k_ => (w.heap.size ≤ k_) ∧ some k_ ≠ (.slice Ao57 t300.length co57 : Value).ownBlock ∧ some k_ ≠ (v305 : Value).ownBlock ∧ some k_ ≠ (.slice Ao61 t309.length co61 : Value).ownBlock)) (by (with_reducible repeat (first | apply Kd.R_alloc | apply Kd.R_drewN | apply Kd.R_drew)); exact Kd.R_mono HO335.out (fun _ hk => ⟨⟨hk.1, ⟨hk.2.1, ⟨hk.2.2.1, hk.2.2.2.1⟩⟩⟩, hk.2.2.2.2⟩)) hg hat)
                  replace HB := ak (hb)
                  have HO346 := ak (ho)
                  clear HO338
                  clear ho hb hg hat
                  obtain ⟨Ao80, co80, eo80⟩ := Kd.R_slice HO346.out
                  (first | subst eo80 | (injection eo80 with f1_ f2_ f3_; have f4_ := f1_.symm; have f5_ := f3_.symm; clear f1_ f2_ f3_; subst f4_; subst f5_))
                  refine hK.out _ _ trivial (fun hHeld => ?_)
                  clear hK K
                  refine norm_ (a' := ?_) ?_ ?_
                  rotate_left
                  ·show Act.put _ (some 90) _ = _
                   simp only [Act.put, lT, lZ, lS, i64_w, i32_w]
                   rfl
                  refine pure_ (i := 10) (N := some 91) (v := ?_) (a' := ?_) #[T,T,T,T,T,T,T,T,T,T,T,U,U,U] rfl rfl (any_of HT_.out (by kernel_rfl)) (fun _ _ _ h => h) (Or.inl ⟨by rfl, ?_⟩) ?_ ?_
                  rotate_left
                  ·intro w'
                   go_simp
                   with_reducible rfl
                  rotate_left
                  ·simp only [Act.put, lT, lZ, lS, i64_w, i32_w]
                   rfl
                  refine one_ (i := 11) (N := some 92) #[T,T,T,T,T,T,T,T,T,T,T,T,U,U] rfl rfl (one_of HT_.out (by kernel_rfl)) (by decide) (fun K hK => ?_)
                  refine Kd.N_lit_step k53 _ 53 ?hg (N' := 92) ?hd (xs := ([(⟨y333⟩ : S53), (⟨y344⟩ : S53)] : List (S53))) (inner := [.slice Ao78 y333.length co78, .slice Ao80 y344.length co80]) (ok := (fun k_ => (w.heap.size ≤ k_) ∧ some k_ ≠ (.slice Ao65 t291.length co65 : Value).ownBlock ∧ some k_ ≠ (.slice Ao57 t300.length co57 : Value).ownBlock ∧ some k_ ≠ (v305 : Value).ownBlock ∧ some k_ ≠ (.slice Ao61 t309.length co61 : Value).ownBlock ∧ some k_ ≠ (.slice Ao67 y322.length co67 : Value).ownBlock)) (okp := (fun k_ => (w.heap.size ≤ k_) ∧ some k_ ≠ (.slice Ao65 t291.length co65 : Value).ownBlock ∧ some k_ ≠ (.slice Ao57 t300.length co57 : Value).ownBlock ∧ some k_ ≠ (v305 : Value).ownBlock ∧ some k_ ≠ (.slice Ao61 t309.length co61 : Value).ownBlock ∧ some k_ ≠ (.slice Ao67 y322.length co67 : Value).ownBlock)) ?hr ?hp (fun _ hk => hk) ((show ∀ k_, w79.heap.size ≤ k_ → (fun k_ => (w.heap.size ≤ k_) ∧ some k_ ≠ (.slice Ao65 t291.length co65 : Value).ownBlock ∧ some k_ ≠ (.slice Ao57 t300.length co57 : Value).ownBlock ∧ some k_ ≠ (v305 : Value).ownBlock ∧ some k_ ≠ (.slice Ao61 t309.length co61 : Value).ownBlock ∧ some k_ ≠ (.slice Ao67 y322.length co67 : Value).ownBlock) k_ from fun k_ hk => ⟨(Nat.le_trans (below_size (by exact hopb HB.out)) hk), Kd.fresh' (Kd.N_lt (by (with_reducible repeat (first | apply Kd.N_alloc | apply Kd.N_drewN | apply Kd.N_drew)); exact HO293.out)) k_ hk, Kd.fresh' (Kd.R_lt (by (with_reducible repeat (first | apply Kd.R_alloc | apply Kd.R_drewN | apply Kd.R_drew)); exact HO302.out)) k_ hk, Kd.fresh' (Kd.R_lt (by (with_reducible repeat (first | apply Kd.R_alloc | apply Kd.R_drewN | apply Kd.R_drew)); exact HO306.out)) k_ hk, Kd.fresh' (Kd.R_lt (by (with_reducible repeat (first | apply Kd.R_alloc | apply Kd.R_drewN | apply Kd.R_drew)); exact HO312.out)) k_ hk, Kd.fresh' (Kd.N_lt (by (with_reducible repeat (first | apply Kd.N_alloc | apply Kd.N_drewN | apply Kd.N_drew)); exact HO324.out)) k_ hk⟩) _ (Nat.le_refl _)) (Below.refl _ _) (Nat.le_refl _) (by simp) ?_; (case hd => rfl); (case hg => rfl); (case hr => first | (go_simp; done) | (go_simp; rfl)); (case hp => exact (Reps.one (show Kd.FK k53 _ _ (⟨y333⟩ : S53) [.slice Ao78 y333.length co78] from (k53_mkF _ _ (⟨y333⟩ : S53) (Kd.R_reads' (Kd.R_mono (ok' := (fun k_ => (w.heap.size ≤ k_) ∧ some k_ ≠ (.slice Ao65 t291.length co65 : Value).ownBlock ∧ some k_ ≠ (.slice Ao57 t300.length co57 : Value).ownBlock ∧ some k_ ≠ (v305 : Value).ownBlock ∧ some k_ ≠ (.slice Ao61 t309.length co61 : Value).ownBlock ∧ some k_ ≠ (.slice Ao67 y322.length co67 : Value).ownBlock)) (Kd.R_apart' (Kd.R_apart' (HO335.out) (Kd.N_typed HO293.out) (by decide)) (Kd.N_typed HO324.out) (by decide)) (fun k_ hk => ⟨hk.1.1.1.1, ⟨hk.1.2, ⟨hk.1.1.1.2.1, ⟨hk.1.1.1.2.2.1, ⟨hk.1.1.1.2.2.2, hk.2⟩⟩⟩⟩⟩))).2.1 (Kd.R_F (Kd.R_mono (ok' := (fun k_ => (w.heap.size ≤ k_) ∧ some k_ ≠ (.slice Ao65 t291.length co65 : Value).ownBlock ∧ some k_ ≠ (.slice Ao57 t300.length co57 : Value).ownBlock ∧ some k_ ≠ (v305 : Value).ownBlock ∧ some k_ ≠ (.slice Ao61 t309.length co61 : Value).ownBlock ∧ some k_ ≠ (.slice Ao67 y322.length co67 : Value).ownBlock)) (Kd.R_apart' (Kd.R_apart' (HO335.out) (Kd.N_typed HO293.out) (by decide)) (Kd.N_typed HO324.out) (by decide)) (fun k_ hk => ⟨hk.1.1.1.1, ⟨hk.1.2, ⟨hk.1.1.1.2.1, ⟨hk.1.1.1.2.2.1, ⟨hk.1.1.1.2.2.2, hk.2⟩⟩⟩⟩⟩))))) (Reps.one (show Kd.FK k53 _ _ (⟨y344⟩ : S53) [.slice Ao80 y344.length co80] from (k53_mkF _ _ (⟨y344⟩ : S53) (Kd.R_reads' (Kd.R_mono (ok' := (fun k_ => (w.heap.size ≤ k_) ∧ some k_ ≠ (.slice Ao65 t291.length co65 : Value).ownBlock ∧ some k_ ≠ (.slice Ao57 t300.length co57 : Value).ownBlock ∧ some k_ ≠ (v305 : Value).ownBlock ∧ some k_ ≠ (.slice Ao61 t309.length co61 : Value).ownBlock ∧ some k_ ≠ (.slice Ao67 y322.length co67 : Value).ownBlock)) (Kd.R_apart' (Kd.R_apart' (HO346.out) (Kd.N_typed HO293.out) (by decide)) (Kd.N_typed HO324.out) (by decide)) (fun k_ hk => ⟨hk.1.1.1, ⟨hk.1.2, ⟨hk.1.1.2.1, ⟨hk.1.1.2.2.1, ⟨hk.1.1.2.2.2.1, hk.2⟩⟩⟩⟩⟩))).2.1 (Kd.R_F (Kd.R_mono (ok' := (fun k_ => (w.heap.size ≤ k_) ∧ some k_ ≠ (.slice Ao65 t291.length co65 : Value).ownBlock ∧ some k_ ≠ (.slice Ao57 t300.length co57 : Value).ownBlock ∧ some k_ ≠ (v305 : Value).ownBlock ∧ some k_ ≠ (.slice Ao61 t309.length co61 : Value).ownBlock ∧ some k_ ≠ (.slice Ao67 y322.length co67 : Value).ownBlock)) (Kd.R_apart' (Kd.R_apart' (HO346.out) (Kd.N_typed HO293.out) (by decide)) (Kd.N_typed HO324.out) (by decide)) (fun k_ hk => ⟨hk.1.1.1, ⟨hk.1.2, ⟨hk.1.1.2.1, ⟨hk.1.1.2.2.1, ⟨hk.1.1.2.2.2.1, hk.2⟩⟩⟩⟩⟩))))) (Reps.none _ _))))
                  intro v348 w81 ho82 hb hg_ hnew_
                  clear hg_ hnew_
                  (first | rw [← Ny347.out] at ho82 | (simp only [Int.reduceToNat] at ho82; rw [← Ny347.out] at ho82))
                  replace HO293 := ak (Kd.N_elder' (by (with_reducible repeat (first | apply Kd.N_alloc | apply Kd.N_drewN | apply Kd.N_drew)); exact HO293.out) (Kd.N_base ho82) hb)
                  replace HO302 := ak (Kd.R_below (by (with_reducible repeat (first | apply Kd.R_alloc | apply Kd.R_drewN | apply Kd.R_drew)); exact HO302.out) hb)
                  replace HO306 := ak (Kd.R_below (by (with_reducible repeat (first | apply Kd.R_alloc | apply Kd.R_drewN | apply Kd.R_drew)); exact HO306.out) hb)
                  replace HO312 := ak (Kd.R_below (by (with_reducible repeat (first | apply Kd.R_alloc | apply Kd.R_drewN | apply Kd.R_drew)); exact HO312.out) hb)
                  replace HO321 := ak (Kd.V_elder' (by (with_reducible repeat (first | apply Kd.V_alloc | apply Kd.V_drewN | apply Kd.V_drew)); exact HO321.out) (Kd.N_base ho82) hb)
                  replace HO324 := ak (Kd.N_elder' (by (with_reducible repeat (first | apply Kd.N_alloc | apply Kd.N_drewN | apply Kd.N_drew)); exact HO324.out) (Kd.N_base ho82) hb)
                  replace HO332 := ak (Kd.V_elder' (by (with_reducible repeat (first | apply Kd.V_alloc | apply Kd.V_drewN | apply Kd.V_drew)); exact HO332.out) (Kd.N_base ho82) hb)
                  replace HO343 := ak (Kd.V_elder' (by (with_reducible repeat (first | apply Kd.V_alloc | apply Kd.V_drewN | apply Kd.V_drew)); exact HO343.out) (Kd.N_base ho82) hb)
                  have HO349 := ak (Kd.N_lower ho82 (below_size (by exact hopb HB.out)))
                  replace HB := ak (below_step (by exact hopb HB.out) hb)
                  clear HO335 HO346
                  clear hb ho82
                  obtain ⟨Ao84, co84, eo84⟩ := Kd.N_slice HO349.out
                  (first | subst eo84 | (injection eo84 with f1_ f2_ f3_; have f4_ := f1_.symm; have f5_ := f3_.symm; clear f1_ f2_ f3_; subst f4_; subst f5_))
                  refine hK.out _ _ trivial (fun hHeld => ?_)
                  clear hK K
                  refine norm_ (a' := ?_) ?_ ?_
                  rotate_left
                  ·show Act.put _ (some 92) _ = _
                   simp only [Act.put, lT, lZ, lS, i64_w, i32_w]
                   rfl
                  refine one_ (i := 12) (N := some 93) #[T,T,T,T,T,T,T,T,T,T,T,T,T,U] rfl rfl (one_of HT_.out (by kernel_rfl)) (by decide) (fun K hK => ?_)
                  refine Kd.N_append_rows_step k53 (w0 := w) w.heap.size (by rfl) (.tmp 81) (.tmp 92) 24 53 (.agg #[(.slice none 0 0)]) 24 rfl Try.underlying24 info53 rfl (by decide) (by omega) (.slice Ao67 y322.length co67) y322 y347 _ _ _ (fun k_ => (w.heap.size ≤ k_) ∧ some k_ ≠ (.slice Ao57 t300.length co57 : Value).ownBlock ∧ some k_ ≠ (v305 : Value).ownBlock ∧ some k_ ≠ (.slice Ao61 t309.length co61 : Value).ownBlock) (fun k_ => ((fun k_ => (w.heap.size ≤ k_) ∧ some k_ ≠ (.slice Ao57 t300.length co57 : Value).ownBlock ∧ some k_ ≠ (v305 : Value).ownBlock ∧ some k_ ≠ (.slice Ao61 t309.length co61 : Value).ownBlock)) k_ ∧ some k_ ≠ (.slice Ao67 y322.length co67 : Value).ownBlock) rfl rfl ?aO ?aR (fun _ hk => hk) ?aF ?aB ?aS ?aL ?_
                  (case aR => exact (by skip; exact Kd.N_F (Kd.N_mono (ok' := (fun k_ => ((fun k_ => (w.heap.size ≤ k_) ∧ some k_ ≠ (.slice Ao57 t300.length co57 : Value).ownBlock ∧ some k_ ≠ (v305 : Value).ownBlock ∧ some k_ ≠ (.slice Ao61 t309.length co61 : Value).ownBlock)) k_ ∧ some k_ ≠ (.slice Ao67 y322.length co67 : Value).ownBlock)) (HO349.out) (fun k_ hk => ⟨⟨hk.1, ⟨hk.2.2.1, ⟨hk.2.2.2.1, hk.2.2.2.2.1⟩⟩⟩, hk.2.2.2.2.2⟩))))
                  (case aB => exact (by exact hopb HB.out))
                  (case aF => exact (fun k_ hk => ⟨(Nat.le_trans (below_size (by exact hopb HB.out)) hk), Kd.fresh' (Kd.R_lt (by (with_reducible repeat (first | apply Kd.R_alloc | apply Kd.R_drewN | apply Kd.R_drew)); exact HO302.out)) k_ hk, Kd.fresh' (Kd.R_lt (by (with_reducible repeat (first | apply Kd.R_alloc | apply Kd.R_drewN | apply Kd.R_drew)); exact HO306.out)) k_ hk, Kd.fresh' (Kd.R_lt (by (with_reducible repeat (first | apply Kd.R_alloc | apply Kd.R_drewN | apply Kd.R_drew)); exact HO312.out)) k_ hk⟩))
                  (case aO => exact (by (with_reducible repeat (first | apply Kd.N_alloc | apply Kd.N_drewN | apply Kd.N_drew)); exact Kd.N_mono HO324.out (fun _ hk => ⟨hk.1.1.1, ⟨hk.1.1.2.1, ⟨hk.1.1.2.2.1, hk.1.1.2.2.2.1⟩⟩⟩)))
                  (case aS => exact (below_size (by exact hopb HB.out)))
                  (case aL => have := LMc50.out; omega)
                  intro v351 w83 ho hb hg hat
                  rw [← Ny350.out] at ho
                  replace HO293 := ak (Kd.N_afterv (ok := (fun k_ => (w.heap.size ≤ k_) ∧ some k_ ≠ (.slice Ao57 t300.length co57 : Value).ownBlock ∧ some k_ ≠ (v305 : Value).ownBlock ∧ some k_ ≠ (.slice Ao61 t309.length co61 : Value).ownBlock ∧ some k_ ≠ (.slice Ao84 y347.length co84 : Value).ownBlock)) (by (with_reducible repeat (first | apply Kd.N_alloc | apply Kd.N_drewN | apply Kd.N_drew)); exact Kd.N_mono HO293.out (fun _ hk => ⟨⟨hk.1.1.1, ⟨hk.1.1.2.1, ⟨hk.1.1.2.2.1, ⟨hk.1.1.2.2.2.1, hk.2⟩⟩⟩⟩, hk.1.1.2.2.2.2.1⟩)) hg hat)
                  replace HO302 := ak (Kd.R_over' (by (with_reducible repeat (first | apply Kd.R_alloc | apply Kd.R_drewN | apply Kd.R_drew)); exact HO302.out) (Kd.N_typed (by (with_reducible repeat (first | apply Kd.N_alloc | apply Kd.N_drewN | apply Kd.N_drew)); exact HO324.out)) (by decide) hg)
                  replace HO306 := ak (Kd.R_over' (by (with_reducible repeat (first | apply Kd.R_alloc | apply Kd.R_drewN | apply Kd.R_drew)); exact HO306.out) (Kd.N_typed (by (with_reducible repeat (first | apply Kd.N_alloc | apply Kd.N_drewN | apply Kd.N_drew)); exact HO324.out)) (by decide) hg)
                  replace HO312 := ak (Kd.R_over' (by (with_reducible repeat (first | apply Kd.R_alloc | apply Kd.R_drewN | apply Kd.R_drew)); exact HO312.out) (Kd.N_typed (by (with_reducible repeat (first | apply Kd.N_alloc | apply Kd.N_drewN | apply Kd.N_drew)); exact HO324.out)) (by decide) hg)
                  replace HO321 := ak (Kd.V_afterv (ok := (fun k_ => (w.heap.size ≤ k_) ∧ some k_ ≠ (.slice Ao57 t300.length co57 : Value).ownBlock ∧ some k_ ≠ (v305 : Value).ownBlock ∧ some k_ ≠ (.slice Ao61 t309.length co61 : Value).ownBlock ∧ some k_ ≠ (.slice Ao84 y347.length co84 : Value).ownBlock)) (by (with_reducible repeat (first | apply Kd.V_alloc | apply Kd.V_drewN | apply Kd.V_drew)); exact Kd.V_mono HO321.out (fun _ hk => ⟨⟨hk.1.1.1, ⟨hk.1.1.2.1, ⟨hk.1.1.2.2.1, ⟨hk.1.1.2.2.2.1, hk.2⟩⟩⟩⟩, hk.1.1.2.2.2.2.1⟩)) hg hat)
                  replace HO332 := ak (Kd.V_afterv (ok := (fun k_ => (w.heap.size ≤ k_) ∧ some k_ ≠ (.slice Ao65 t291.length co65 : Value).ownBlock ∧ some k_ ≠ (.slice Ao57 t300.length co57 : Value).ownBlock ∧ some k_ ≠ (v305 : Value).ownBlock ∧ some k_ ≠ (.slice Ao84 y347.length co84 : Value).ownBlock)) (by (with_reducible repeat (first | apply Kd.V_alloc | apply Kd.V_drewN | apply Kd.V_drew)); exact Kd.V_mono HO332.out (fun _ hk => ⟨⟨hk.1.1.1, ⟨hk.1.1.2.1, ⟨hk.1.1.2.2.1, ⟨hk.1.1.2.2.2.1, hk.2⟩⟩⟩⟩, hk.1.1.2.2.2.2.1⟩)) hg hat)
                  replace HO343 := ak (Kd.V_afterv (ok := (fun k_ => (w.heap.size ≤ k_) ∧ some k_ ≠ (.slice Ao65 t291.length co65 : Value).ownBlock ∧ some k_ ≠ (.slice Ao57 t300.length co57 : Value).ownBlock ∧ some k_ ≠ (v305 : Value).ownBlock ∧ some k_ ≠ (.slice Ao84 y347.length co84 : Value).ownBlock)) (by (with_reducible repeat (first | apply Kd.V_alloc | apply Kd.V_drewN | apply Kd.V_drew)); exact Kd.V_mono HO343.out (fun _ hk => ⟨⟨hk.1.1.1, ⟨hk.1.1.2.1, ⟨hk.1.1.2.2.1, ⟨hk.1.1.2.2.2.1, hk.2⟩⟩⟩⟩, hk.1.1.2.2.2.2.1⟩)) hg hat)
                  replace HO349 := ak (Kd.N_afterv (ok := (fun k_ => (w.heap.size ≤ k_) ∧ some k_ ≠ (.slice Ao65 t291.length co65 : Value).ownBlock ∧ some k_ ≠ (.slice Ao57 t300.length co57 : Value).ownBlock ∧ some k_ ≠ (v305 : Value).ownBlock ∧ some k_ ≠ (.slice Ao61 t309.length co61 : Value).ownBlock)) (by (with_reducible repeat (first | apply Kd.N_alloc | apply Kd.N_drewN | apply Kd.N_drew)); exact Kd.N_mono HO349.out (fun _ hk => ⟨⟨hk.1, ⟨hk.2.1, ⟨hk.2.2.1, ⟨hk.2.2.2.1, hk.2.2.2.2.1⟩⟩⟩⟩, hk.2.2.2.2.2⟩)) hg hat)
                  replace HB := ak (hb)
                  have HO352 := ak (ho)
                  clear HO324
                  clear ho hb hg hat
                  refine hK.out _ _ trivial (fun hHeld => ?_)
                  clear hK K
                  refine norm_ (a' := ?_) ?_ ?_
                  rotate_left
                  ·show Act.put _ (some 93) _ = _
                   simp only [Act.put, lT, lZ, lS, i64_w, i32_w]
                   rfl
                  refine pure_ (i := 13) (N := some 14) (v := ?_) (a' := ?_) #[T,T,T,T,T,T,T,T,T,T,T,T,T,T] rfl rfl (any_of HT_.out (by kernel_rfl)) (fun _ _ _ h => h) (Or.inl ⟨by rfl, ?_⟩) ?_ ?_
                  rotate_left
                  ·intro w'
                   go_simp
                   with_reducible rfl
                  rotate_left
                  ·simp only [Act.put, lT, lZ, lS, i64_w, i32_w]
                   rfl
                  refine done_ (done_of HT_.out (by kernel_rfl)) ?_
                  have q85 : ((ji51) : Int) ≤ ((t291.length : Int) : Int) := of_decide_eq_true (by assumption)
                  obtain ⟨i085, hi085, _, hsz85, _⟩ := info_parts info53
                  have hroom85 : t291.length ≤ co65 := (Kd.N_reads' HO293.out).2.1
                  have hC85 : Kd.F k53 _ _ Ao65 t291.length t291 := (Kd.V_at (base := w.heap.size) (Kd.N_V HO293.out)).2.2
                  have q085 : (0 : Int) ≤ ((ji51) : Int) := of_decide_eq_true (by assumption)
                  have hcut85 := cut_from (P := Try.prog) 24 53 .i64 Try.underlying24 hi085 1 hsz85 Ao65 t291.length co65 (ji51) q085 q85
                  have hr85 := Kd.F_cut (m := ((ji51) : Int).toNat) (c := co65) hC85 (by omega) hroom85
                  obtain ⟨A85, hA85⟩ : ∃ A1, A1 = (if co65 = ((ji51) : Int).toNat then Ao65 else (Ao65 : Option Addr).map (·.add (((ji51) : Int).toNat * 1))) := ⟨_, rfl⟩
                  obtain ⟨c85, hc85⟩ : ∃ c1, c1 = co65 - ((ji51) : Int).toNat := ⟨_, rfl⟩
                  have hy85 : y353.length = t291.length - ((ji51) : Int).toNat := (by rw [Ny353.out, List.length_drop] <;> omega)
                  rw [show (t291).drop ((ji51) : Int).toNat = y353 from Ny353.out.symm] at hr85
                  replace hr85 : Kd.F k53 _ _ A85 y353.length y353 := (by rw [hA85]; exact hr85)
                  rw [← hy85, ← hA85, ← hc85] at hcut85
                  have HO357 := ak (show Kd.V k53 53 _ w.heap.size _ (.slice A85 y353.length c85) y353 from Kd.V_mk (by rw [hy85, hc85]; exact Nat.sub_le_sub_right hroom85 _) hr85)
                  have HC357 := ak (show y353.length ≤ c85 from by rw [hy85, hc85]; exact Nat.sub_le_sub_right hroom85 _)
                  clear hr85 hC85 hroom85 hi085 hsz85 hc85
                  have KY85 := ak hy85
                  have KA85 := ak hA85
                  clear hy85 hA85
                  replace q85 := eq_true q85
                  try go_wp2_with (first | ((with_reducible refine gate_builtin (b := .append) (xs := #[.tmp 94, .tmp 98]) rfl ?_); at_builtin; refine Kd.N_append_rows k53 (w0 := w) w.heap.size rfl (.tmp 94) (.tmp 98) 24 53 (.agg #[(.slice none 0 0)]) 24 rfl Try.underlying24 info53 rfl (by decide) (by omega) v351 y350 y353 _ _ _ (fun k_ => (w.heap.size ≤ k_) ∧ some k_ ≠ (.slice Ao57 t300.length co57 : Value).ownBlock ∧ some k_ ≠ (v305 : Value).ownBlock ∧ some k_ ≠ (.slice Ao61 t309.length co61 : Value).ownBlock) (fun k_ => ((fun k_ => (w.heap.size ≤ k_) ∧ some k_ ≠ (.slice Ao57 t300.length co57 : Value).ownBlock ∧ some k_ ≠ (v305 : Value).ownBlock ∧ some k_ ≠ (.slice Ao61 t309.length co61 : Value).ownBlock)) k_ ∧ some k_ ≠ (v351 : Value).ownBlock) rfl rfl ?aO ?aR (fun _ hk => hk) ?aF ?aB ?aS ?aL ?_; (case aR => exact (by skip; exact Kd.V_F (Kd.V_mono (ok' := (fun k_ => ((fun k_ => (w.heap.size ≤ k_) ∧ some k_ ≠ (.slice Ao57 t300.length co57 : Value).ownBlock ∧ some k_ ≠ (v305 : Value).ownBlock ∧ some k_ ≠ (.slice Ao61 t309.length co61 : Value).ownBlock)) k_ ∧ some k_ ≠ (v351 : Value).ownBlock)) (HO357.out) (fun k_ hk => ⟨⟨hk.1.1, ⟨hk.1.2.1, ⟨hk.1.2.2.1, hk.1.2.2.2.1⟩⟩⟩, hk.2⟩)))); (case aB => exact (by exact hopb HB.out)); (case aF => exact (fun k_ hk => ⟨(Nat.le_trans (below_size (by exact hopb HB.out)) hk), Kd.fresh' (Kd.R_lt (by (with_reducible repeat (first | apply Kd.R_alloc | apply Kd.R_drewN | apply Kd.R_drew)); exact HO302.out)) k_ hk, Kd.fresh' (Kd.R_lt (by (with_reducible repeat (first | apply Kd.R_alloc | apply Kd.R_drewN | apply Kd.R_drew)); exact HO306.out)) k_ hk, Kd.fresh' (Kd.R_lt (by (with_reducible repeat (first | apply Kd.R_alloc | apply Kd.R_drewN | apply Kd.R_drew)); exact HO312.out)) k_ hk⟩)); (case aO => exact (by (with_reducible repeat (first | apply Kd.N_alloc | apply Kd.N_drewN | apply Kd.N_drew)); exact HO352.out)); (case aS => exact (below_size (by exact hopb HB.out))); (case aL => have := LMc54.out; omega); intro v359 w86 ho hb hg hat; rw [← Ny358.out] at ho; replace HO293 := ak (Kd.N_afterv (ok := (fun k_ => (w.heap.size ≤ k_) ∧ some k_ ≠ (.slice Ao57 t300.length co57 : Value).ownBlock ∧ some k_ ≠ (v305 : Value).ownBlock ∧ some k_ ≠ (.slice Ao61 t309.length co61 : Value).ownBlock ∧ some k_ ≠ (.slice Ao84 y347.length co84 : Value).ownBlock)) (by (with_reducible repeat (first | apply Kd.N_alloc | apply Kd.N_drewN | apply Kd.N_drew)); exact HO293.out) hg hat); replace HO302 := ak (Kd.R_over' (by (with_reducible repeat (first | apply Kd.R_alloc | apply Kd.R_drewN | apply Kd.R_drew)); exact HO302.out) (Kd.N_typed (by (with_reducible repeat (first | apply Kd.N_alloc | apply Kd.N_drewN | apply Kd.N_drew)); exact HO352.out)) (by decide) hg); replace HO306 := ak (Kd.R_over' (by (with_reducible repeat (first | apply Kd.R_alloc | apply Kd.R_drewN | apply Kd.R_drew)); exact HO306.out) (Kd.N_typed (by (with_reducible repeat (first | apply Kd.N_alloc | apply Kd.N_drewN | apply Kd.N_drew)); exact HO352.out)) (by decide) hg); replace HO312 := ak (Kd.R_over' (by (with_reducible repeat (first | apply Kd.R_alloc | apply Kd.R_drewN | apply Kd.R_drew)); exact HO312.out) (Kd.N_typed (by (with_reducible repeat (first | apply Kd.N_alloc | apply Kd.N_drewN | apply Kd.N_drew)); exact HO352.out)) (by decide) hg); replace HO321 := ak (Kd.V_afterv (ok := (fun k_ => (w.heap.size ≤ k_) ∧ some k_ ≠ (.slice Ao57 t300.length co57 : Value).ownBlock ∧ some k_ ≠ (v305 : Value).ownBlock ∧ some k_ ≠ (.slice Ao61 t309.length co61 : Value).ownBlock ∧ some k_ ≠ (.slice Ao84 y347.length co84 : Value).ownBlock)) (by (with_reducible repeat (first | apply Kd.V_alloc | apply Kd.V_drewN | apply Kd.V_drew)); exact HO321.out) hg hat); replace HO332 := ak (Kd.V_afterv (ok := (fun k_ => (w.heap.size ≤ k_) ∧ some k_ ≠ (.slice Ao65 t291.length co65 : Value).ownBlock ∧ some k_ ≠ (.slice Ao57 t300.length co57 : Value).ownBlock ∧ some k_ ≠ (v305 : Value).ownBlock ∧ some k_ ≠ (.slice Ao84 y347.length co84 : Value).ownBlock)) (by (with_reducible repeat (first | apply Kd.V_alloc | apply Kd.V_drewN | apply Kd.V_drew)); exact HO332.out) hg hat); replace HO343 := ak (Kd.V_afterv (ok := (fun k_ => (w.heap.size ≤ k_) ∧ some k_ ≠ (.slice Ao65 t291.length co65 : Value).ownBlock ∧ some k_ ≠ (.slice Ao57 t300.length co57 : Value).ownBlock ∧ some k_ ≠ (v305 : Value).ownBlock ∧ some k_ ≠ (.slice Ao84 y347.length co84 : Value).ownBlock)) (by (with_reducible repeat (first | apply Kd.V_alloc | apply Kd.V_drewN | apply Kd.V_drew)); exact HO343.out) hg hat); replace HO349 := ak (Kd.N_afterv (ok := (fun k_ => (w.heap.size ≤ k_) ∧ some k_ ≠ (.slice Ao65 t291.length co65 : Value).ownBlock ∧ some k_ ≠ (.slice Ao57 t300.length co57 : Value).ownBlock ∧ some k_ ≠ (v305 : Value).ownBlock ∧ some k_ ≠ (.slice Ao61 t309.length co61 : Value).ownBlock)) (by (with_reducible repeat (first | apply Kd.N_alloc | apply Kd.N_drewN | apply Kd.N_drew)); exact HO349.out) hg hat); replace HO357 := ak (Kd.V_afterv (ok := (fun k_ => (w.heap.size ≤ k_) ∧ some k_ ≠ (.slice Ao57 t300.length co57 : Value).ownBlock ∧ some k_ ≠ (v305 : Value).ownBlock ∧ some k_ ≠ (.slice Ao61 t309.length co61 : Value).ownBlock ∧ some k_ ≠ (.slice Ao84 y347.length co84 : Value).ownBlock)) (by (with_reducible repeat (first | apply Kd.V_alloc | apply Kd.V_drewN | apply Kd.V_drew)); exact HO357.out) hg hat); replace HB := ak (hb); have HO360 := ak (ho); clear HO352; clear ho hb hg hat))
                  go_ret2
                  exact ⟨_, by first | rfl | (simp only [u8_w_, w64_u8_] <;> rfl) | (simp [errW_none, errW_some] <;> rfl) | (simp only [← hji51]; first | rfl | (simp [errW_none, errW_some] <;> rfl)) | (simp [*, errW_none, errW_some] <;> rfl), by (with_reducible repeat (first | apply Kd.N_alloc | apply Kd.N_drewN | apply Kd.N_drew)); exact Kd.N_mono HO360.out (fun _ hk => hk.1), by exact hopb HB.out⟩
                 ·rw [if_neg c54] at H
                  exact absurd H (by simp)
                ·rw [if_neg c53] at H
                 exact absurd H (by simp)
               ·rw [if_neg c52] at H
                exact absurd H (by simp)
              ·rw [if_neg c50] at H
               exact absurd H (by simp)
             ·rw [if_neg c49] at H
              exact absurd H (by simp)
            ·rw [if_neg c47] at H
             exact absurd H (by simp)
           ·rw [if_neg c46] at H
            exact absurd H (by simp)
          ·rw [if_neg c45] at H
           exact absurd H (by simp)
         ·rw [if_neg c44] at H
          exact absurd H (by simp)
       ·rw [if_neg c29] at H
        exact absurd H (by simp)
      ·rw [if_neg c28] at H
       exact absurd H (by simp)
     ·replace c26 := Bool.eq_false_iff.mpr c26
      subst c26
      rw [if_neg (show ¬ (false = true) by decide)] at H
      simp only [Option.some.injEq, Prod.mk.injEq] at H
      obtain ⟨rfl, rfl⟩ := H
      go_wp2_with (first | ((with_reducible refine gate_callee (f := 25) rfl ?_); refine goesL_ (some 30) rfl rfl Try.func25 (by kernel_rfl) rfl #[.slice A0 l0.length c0] rfl (by (try simp only [List.map_toArray, List.map_cons, List.map_nil]); first | done | rfl | (simp only [List.length_drop, List.length_take]; rfl)) ?_; (with_reducible refine (spec_l6Copy.calls kj3 _ _ l0 t291 _ ?side1 ?side2 A16.out).mono ?_); (case side1 => repeat (first | exact (Kd.C_below HR0.out HB.out) | (with_reducible refine Kd.C_alloc ?_ _) | (with_reducible refine Kd.C_drewN ?_ _) | (with_reducible refine Kd.C_drew ?_))); (case side2 => exact HC0.out); rintro e w87 ⟨v292, rfl, ho0, hb⟩; refine ⟨_, rfl, ?_⟩; have HO293 := ak (Kd.N_lower (Kd.N_mono (ok' := fun k_ => (w.heap.size ≤ k_)) (Kd.S_N (Kd.S_bound ho0)) (fun k_ hk_ => (Nat.le_trans (below_size (by exact hopb HB.out)) hk_.2.1))) (below_size (by exact hopb HB.out))); replace HB := ak (below_step (by exact hopb HB.out) hb); (try clear hb); (try clear ho0)) | ((with_reducible refine gate_callee (f := 41) rfl ?_); refine goesL_ (some 44) rfl rfl Try.func41 (by kernel_rfl) rfl #[.slice A0 l0.length c0] rfl (by (try simp only [List.map_toArray, List.map_cons, List.map_nil]); first | done | rfl | (simp only [List.length_drop, List.length_take]; rfl)) ?_; (with_reducible refine (spec_PagesList.calls kj3 _ _ l0 t300 _ ?side1 ?side2 A24.out).mono ?_); (case side1 => repeat (first | exact (Kd.C_below HR0.out HB.out) | (with_reducible refine Kd.C_alloc ?_ _) | (with_reducible refine Kd.C_drewN ?_ _) | (with_reducible refine Kd.C_drew ?_))); (case side2 => exact HC0.out); rintro e w88 ⟨v301, rfl, ho0, hb⟩; refine ⟨_, rfl, ?_⟩; replace HO293 := ak (Kd.N_elder' (by (with_reducible repeat (first | apply Kd.N_alloc | apply Kd.N_drewN | apply Kd.N_drew)); exact HO293.out) (Kd.R_base ho0) hb); have HO302 := ak (Kd.R_lower (Kd.R_newM (M := fun k_ => (w.heap.size ≤ k_)) ho0 (below_size (by exact hopb HB.out)) (fun k_ h_ => h_)) (below_size (by exact hopb HB.out))); replace HB := ak (below_step (by exact hopb HB.out) hb); (try clear hb); (try clear ho0); obtain ⟨Ao89, co89, eo89⟩ := Kd.R_slice HO302.out; subst eo89) | ((with_reducible refine gate_callee (f := 49) rfl ?_); refine goesL_ (some 47) rfl rfl Try.func49 (by kernel_rfl) rfl #[.slice Ao89 t300.length co89, .string a1, .int .i64 a2] rfl (by (try simp only [List.map_toArray, List.map_cons, List.map_nil]); first | done | rfl | (simp only [List.length_drop, List.length_take]; rfl)) ?_; (with_reducible refine (spec_PairPut.calls kj3 _ _ t300 a1 a2 t303 false _ ?side1 ?side2 A25.out).mono ?_); (case side1 => repeat (first | exact (Kd.R_reads' HO302.out).2.2 | (with_reducible refine Kd.C_alloc ?_ _) | (with_reducible refine Kd.C_drewN ?_ _) | (with_reducible refine Kd.C_drew ?_))); (case side2 => exact (Kd.R_reads' HO302.out).2.1); rintro e w90 ⟨v305, rfl, ho0, hb⟩; refine ⟨_, rfl, ?_⟩; replace HO293 := ak (Kd.N_elder' (by (with_reducible repeat (first | apply Kd.N_alloc | apply Kd.N_drewN | apply Kd.N_drew)); exact HO293.out) (Kd.R_base ho0) hb); have HO306 := ak (Kd.R_lower (Kd.R_new' (Kd.R_newM (M := fun k_ => (w.heap.size ≤ k_)) ho0 (below_size (by exact hopb HB.out)) (fun k_ h_ => h_)) (Kd.R_lt (by (with_reducible repeat (first | apply Kd.R_alloc | apply Kd.R_drewN | apply Kd.R_drew)); exact HO302.out))) (below_size (by exact hopb HB.out))); replace HO302 := ak (Kd.R_elder' (by (with_reducible repeat (first | apply Kd.R_alloc | apply Kd.R_drewN | apply Kd.R_drew)); exact HO302.out) (Kd.R_base ho0) hb); replace HB := ak (below_step (by exact hopb HB.out) hb); (try clear hb); (try clear ho0)))
      go_ret2
      exact ⟨_, by first | rfl | (simp [*, errW_none, errW_some] <;> rfl), by (with_reducible repeat (first | apply Kd.N_alloc | apply Kd.N_drewN | apply Kd.N_drew)); exact Kd.N_mono HO293.out (fun _ hk => hk.1.1), by exact hopb HB.out⟩

end Go.Proofs.Ytengnnhehjcfhaa.PFnExactPagesPut
