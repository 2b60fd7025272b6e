-- Written for this claim by a program of this session (wip/myprint in the proofs' repo)
import Derived.Test.YtebgpbcbbjpbfaaPFnPageFindx0
import Derived.Test.YtebgpbcbbjpbfaaPFnPageFindx2
import Derived.Test.YtebgpbcbbjpbfaaPFnPageFindx3
import Derived.Test.YtebgpbcbbjpbfaaPFnPageFindx5
import Derived.Test.YtebgpbcbbjpbfaaPFnPageFindx6
import Derived.Test.YtebgpbcbbjpbfaaPFnPageFindx7
import Derived.Test.YtebgpbcbbjpbfaaWZip
-- slim3
namespace Go.Proofs.Ytebgpbcbbjpbfaa.PFnPageFind
open Go.RowKit Go.Proofs.YtebgpbcbbjpbfaaW.PrintWords Go.Proofs.YtebgpbcbbjpbfaaW.PrintLast Go.Proofs.YtebgpbcbbjpbfaaW.PrintMore
attribute [local go_sem] max2_int min2_int max_two min_two max_three min_three max_four min_four max2_strs min2_strs   -- for this text's walks alone
set_option linter.unusedVariables false
set_option linter.unusedSimpArgs false

/-! ### spec_PagesPut: function 45 -/
def spec_PagesPut.j0 : Nat → List (S64) → ByteArray → Int → Bool → Option ((List (S64)) × Bool)
 | 0, _, _, _, _ => none
 | k + 1, x0, x1, x2, x27 => if x27 = true then (some ((([] : List (S64))), false)) else ((spec_l6Copy.f k x0).bind fun t279 => (if (x0.length : Int) = 0 then (if t279.length < 5864062014805 then (some ((t279 ++ [(⟨(([(⟨x1, x2⟩ : S71)] : List (S71)))⟩ : S64)]), true)) else (none)) else ((spec_PagesList.f k x0).bind fun t288 => ((spec_PairPut.f k t288 x1 x2).bind fun bt291 => (if bt291.2 = true then ((spec_PageFind.f k x0 x1).bind fun t295 => (if 0 ≤ t295 then (if t295 < (x0.length : Int) then ((spec_PairPut.f k ((rd_T64 x0 t295).f0) x1 x2).bind fun bt297 => (if (bt297.1.length : Int) ≤ 4 then (if t295 < (t279.length : Int) then (some ((t279.set (t295 : Int).toNat (⟨bt297.1⟩ : S64)), true)) else (none)) else ((some (([] : List (S64)) : List (S64))).bind fun y302 => (if t295 ≤ (t279.length : Int) then ((some (t279.take (t295 : Int).toNat : List (S64))).bind fun y305 => (if y302.length + y305.length < 5864062014805 then ((some (y302 ++ y305 : List (S64))).bind fun y310 => ((some (([] : List (S71)) : List (S71))).bind fun y313 => (if 2 ≤ (bt297.1.length : Int) then ((some (bt297.1.take 2 : List (S71))).bind fun y316 => (if y313.length + y316.length < 5864062014805 then ((some (([] : List (S71)) : List (S71))).bind fun y324 => ((some (bt297.1.drop 2 : List (S71))).bind fun y327 => (if y324.length + y327.length < 5864062014805 then ((some (([(⟨(y313 ++ y316)⟩ : S64), (⟨(y324 ++ y327)⟩ : S64)] : List (S64)) : List (S64))).bind fun y335 => (if y310.length + y335.length < 5864062014805 then ((some (y310 ++ y335 : List (S64))).bind fun y338 => (if 0 ≤ (wrap64 (t295 + 1)) then (if (wrap64 (t295 + 1)) ≤ (t279.length : Int) then ((some (t279.drop ((wrap64 (t295 + 1)) : Int).toNat : List (S64))).bind fun y341 => (if y338.length + y341.length < 5864062014805 then (some ((y338 ++ y341), true)) else (none))) else (none)) else (none))) else (none))) else (none)))) else (none))) else (none)))) else (none))) else (none))))) else (none)) else (none))) else (some (t279, false)))))))
def spec_PagesPut.f (k : Nat) (l0 : List (S64)) (a1 : ByteArray) (a2 : Int) : Option ((List (S64)) × Bool) := (spec_PagesValid.f k l0).bind fun t273 => (if t273 = true then ((spec_KeyValid.f k a1).bind fun t274 => (if t274 = true then ((spec_l1In.f a2 0 999).bind fun t275 => (spec_PagesPut.j0 k l0 a1 a2 (!t275))) else (spec_PagesPut.j0 k l0 a1 a2 true))) else (spec_PagesPut.j0 k l0 a1 a2 true))
theorem spec_PagesPut.mono_l : ∀ k, (∀ y0 y1 y2 y3, LeO (spec_PagesPut.j0 k y0 y1 y2 y3) (spec_PagesPut.j0 (k + 1) y0 y1 y2 y3))
 | 0 => fun _ _ _ _ r h => by simp [spec_PagesPut.j0] at h
 | k + 1 => by
  have ih0 := spec_PagesPut.mono_l k
  ·intro y0 y1 y2 y3
   unfold spec_PagesPut.j0
   repeat' first
   | (with_reducible exact ih0 _ _ _ _)
   | (with_reducible exact spec_KeyValid.mono _ _)
   | (with_reducible exact spec_PageFind.mono _ _ _)
   | (with_reducible exact spec_PagesList.mono _ _)
   | (with_reducible exact spec_PagesValid.mono _ _)
   | (with_reducible exact spec_PairPut.mono _ _ _ _)
   | (with_reducible exact spec_l6Copy.mono _ _)
   | (with_reducible exact LeO.refl _)
   | (with_reducible exact LeO.none _)
   | (with_reducible refine LeO.ite ?_ ?_)
   | (with_reducible refine LeO.bind ?_ (fun _ => ?_))
   | exact ih0 _ _ _ _
   | exact LeO.none _
   | refine LeO.ite ?_ ?_
   | refine LeO.bind ?_ (fun _ => ?_)
theorem spec_PagesPut.mono : ∀ a0 a1 a2 k, LeO (spec_PagesPut.f k a0 a1 a2) (spec_PagesPut.f (k + 1) a0 a1 a2) := by
 intro a0 a1 a2 k
 have ih0 := spec_PagesPut.mono_l k
 unfold spec_PagesPut.f
 repeat' first
   | (with_reducible exact ih0 _ _ _ _)
   | (with_reducible exact spec_KeyValid.mono _ _)
   | (with_reducible exact spec_PageFind.mono _ _ _)
   | (with_reducible exact spec_PagesList.mono _ _)
   | (with_reducible exact spec_PagesValid.mono _ _)
   | (with_reducible exact spec_PairPut.mono _ _ _ _)
   | (with_reducible exact spec_l6Copy.mono _ _)
   | (with_reducible exact LeO.refl _)
   | (with_reducible exact LeO.none _)
   | (with_reducible refine LeO.ite ?_ ?_)
   | (with_reducible refine LeO.bind ?_ (fun _ => ?_))
   | exact ih0 _ _ _ _
   | exact LeO.none _
   | refine LeO.ite ?_ ?_
   | refine LeO.bind ?_ (fun _ => ?_)
def spec_PagesPut.T15 : Bool × List (List Nat × List Nat) := (true, [([], []), ([], []), ([], []), ([2], [2]), ([1, 3], [1, 3]), ([4], [4]), ([], []), ([], []), ([7], [7]), ([6, 8, 4], [6, 8]), ([9], [9]), ([5, 10], [5, 10]), ([0, 11, 9], [0, 11]), ([12, 12, 0, 1, 2, 3, 4, 5, 6, 7, 8, 9, 10, 11, 12], [0, 12])])
def spec_PagesPut.B15 : List Nat := [0, 0, 0, 4, 14, 30, 0, 0, 128, 478, 990, 2046, 4095, 8191]
theorem spec_PagesPut.tab15 : rtab .any (opsOf Try.f45 15) = spec_PagesPut.T15 := by kernel_rfl
theorem spec_PagesPut.bits15 : waitsOk spec_PagesPut.T15.2 spec_PagesPut.B15 = true := by kernel_rfl
set_option maxHeartbeats 8000000 in
set_option maxRecDepth 100000 in
theorem spec_PagesPut.calls (k : Nat) (A0 : Option Addr) (c0 : Nat) (l0 : List (S64)) (a1 : ByteArray) (a2 : Int) (r1 : List (S64)) (r2 : Bool) (w : World) (hr0 : Kd.C k64 w A0 l0.length l0) (hc0 : l0.length ≤ c0) (h : spec_PagesPut.f k l0 a1 a2 = some (r1, r2)) :
  Calls Try.prog 45 #[.slice A0 l0.length c0, .string a1, .int .i64 a2] w fun e w' => ∃ v0_ : Value, e = .returned (.tuple #[v0_, .bool r2]) ∧ Kd.N k64 64 w' w.heap.size (fun k_ => (w.heap.size ≤ k_)) v0_ r1 ∧ Below w.heap.size w w' := by
 have hu71 := Try.underlying71
 have hu64 := Try.underlying64
 have HR0 := ak hr0
 have HC0 := ak hc0
 clear hr0 hc0
 have HB := ak (Below.refl w.heap.size w)
 have H : ((spec_PagesValid.f k l0).bind fun t273 => (if t273 = true then ((spec_KeyValid.f k a1).bind fun t274 => (if t274 = true then ((spec_l1In.f a2 0 999).bind fun t275 => (spec_PagesPut.j0 k l0 a1 a2 (!t275))) else (spec_PagesPut.j0 k l0 a1 a2 true))) else (spec_PagesPut.j0 k l0 a1 a2 true))) = some (r1, r2) := h
 clear h
 have HC4 := ak H
 clear H
 go_enter Try.func45, Try.ntmps45
 go_upto_region 1 with (fail)
 go_cut [27] (fun v27 wc => ∃ (kq : Nat) (x27_3 : Bool), v27 = .bool x27_3 ∧ Aside0 (spec_PagesPut.j0 kq l0 a1 a2 x27_3 = some (r1, r2)) ∧ Aside0 (kq ≤ k) ∧ Aside0 (Below w.heap.size w wc))
 case first =>
  have H := HC4.out
  clear HC4
  replace H := Option.bind_eq_some_iff.mp H
  obtain ⟨t273, A50, H⟩ := H
  try dsimp only at H
  have A5 := ak A50
  clear A50
  by_cases c6 : t273 = true
  ·subst c6
   rw [if_pos rfl] at H
   replace H := Option.bind_eq_some_iff.mp H
   obtain ⟨t274, A70, H⟩ := H
   try dsimp only at H
   have A7 := ak A70
   clear A70
   by_cases c8 : t274 = true
   ·subst c8
    rw [if_pos rfl] at H
    replace H := Option.bind_eq_some_iff.mp H
    obtain ⟨t275, A90, H⟩ := H
    try dsimp only at H
    have A9 := ak A90
    clear A90
    have H' := ak H
    clear H
    go_wp2_with (first | ((with_reducible refine gate_callee (f := 32) rfl ?_); refine goesL_ (some 16) rfl rfl Try.func32 (by kernel_rfl) rfl #[.slice A0 l0.length c0] rfl (by (try simp only [List.map_toArray, List.map_cons, List.map_nil]); first | done | rfl | (simp only [List.length_drop, List.length_take]; rfl)) ?_; (with_reducible refine (spec_PagesValid.calls k _ _ l0 true _ ?side1 ?side2 A5.out).mono ?_); (case side1 => repeat (first | exact (Kd.C_below HR0.out HB.out) | (with_reducible refine Kd.C_alloc ?_ _) | (with_reducible refine Kd.C_drewN ?_ _) | (with_reducible refine Kd.C_drew ?_))); (case side2 => exact HC0.out); rintro e w10 ⟨rfl, hb⟩; refine ⟨_, rfl, ?_⟩; replace HB := ak (below_step (by exact hopb HB.out) hb); (try clear hb)) | (go_at_call 76; (with_reducible refine (spec_KeyValid.calls k a1 true _ A7.out).mono ?_); rintro e w' ⟨rfl, ⟨nd, rfl⟩⟩) | (go_at_call 81; (with_reducible refine (spec_l1In.calls a2 0 999 t275 _ A9.out).mono ?_); rintro e w' ⟨rfl, ⟨nd, rfl⟩⟩))
    go_meet
    case rel => exact ⟨_, (!t275), (by first | rfl | (simp; done) | (simp [bne]; done) | (simp [*]; done)), H', ⟨by first | omega | exact Nat.le_refl _⟩, ⟨by exact hopb HB.out⟩⟩
   ·replace c8 := Bool.eq_false_iff.mpr c8
    subst c8
    rw [if_neg (show ¬ (false = true) by decide)] at H
    have H' := ak H
    clear H
    go_wp2_with (first | ((with_reducible refine gate_callee (f := 32) rfl ?_); refine goesL_ (some 16) rfl rfl Try.func32 (by kernel_rfl) rfl #[.slice A0 l0.length c0] rfl (by (try simp only [List.map_toArray, List.map_cons, List.map_nil]); first | done | rfl | (simp only [List.length_drop, List.length_take]; rfl)) ?_; (with_reducible refine (spec_PagesValid.calls k _ _ l0 true _ ?side1 ?side2 A5.out).mono ?_); (case side1 => repeat (first | exact (Kd.C_below HR0.out HB.out) | (with_reducible refine Kd.C_alloc ?_ _) | (with_reducible refine Kd.C_drewN ?_ _) | (with_reducible refine Kd.C_drew ?_))); (case side2 => exact HC0.out); rintro e w11 ⟨rfl, hb⟩; refine ⟨_, rfl, ?_⟩; replace HB := ak (below_step (by exact hopb HB.out) hb); (try clear hb)) | (go_at_call 76; (with_reducible refine (spec_KeyValid.calls k a1 false _ A7.out).mono ?_); rintro e w' ⟨rfl, ⟨nd, rfl⟩⟩))
    go_meet
    case rel => exact ⟨_, (true), (by first | rfl | (simp; done) | (simp [bne]; done) | (simp [*]; done)), H', ⟨by first | omega | exact Nat.le_refl _⟩, ⟨by exact hopb HB.out⟩⟩
  ·replace c6 := Bool.eq_false_iff.mpr c6
   subst c6
   rw [if_neg (show ¬ (false = true) by decide)] at H
   have H' := ak H
   clear H
   go_wp2_with (first | ((with_reducible refine gate_callee (f := 32) rfl ?_); refine goesL_ (some 16) rfl rfl Try.func32 (by kernel_rfl) rfl #[.slice A0 l0.length c0] rfl (by (try simp only [List.map_toArray, List.map_cons, List.map_nil]); first | done | rfl | (simp only [List.length_drop, List.length_take]; rfl)) ?_; (with_reducible refine (spec_PagesValid.calls k _ _ l0 false _ ?side1 ?side2 A5.out).mono ?_); (case side1 => repeat (first | exact (Kd.C_below HR0.out HB.out) | (with_reducible refine Kd.C_alloc ?_ _) | (with_reducible refine Kd.C_drewN ?_ _) | (with_reducible refine Kd.C_drew ?_))); (case side2 => exact HC0.out); rintro e w12 ⟨rfl, hb⟩; refine ⟨_, rfl, ?_⟩; replace HB := ak (below_step (by exact hopb HB.out) hb); (try clear hb)))
   go_meet
   case rel => exact ⟨_, (true), (by first | rfl | (simp; done) | (simp [bne]; done) | (simp [*]; done)), H', ⟨by first | omega | exact Nat.le_refl _⟩, ⟨by exact hopb HB.out⟩⟩
 case rest =>
  clear HC4
  try clear p2
  try clear c3
  try clear c4
  try clear c6
  try clear c8
  obtain ⟨kq, x27_3, rfl, HA, HJ3, HB⟩ := hcut
  cases kq with
  | zero => exact absurd HA.out (by simp [spec_PagesPut.j0])
  | succ kj3 =>
   have H := HA.out
   clear HA
   simp only [spec_PagesPut.j0] at H
   by_cases c13 : x27_3 = true
   ·subst c13
    rw [if_pos rfl] at H
    obtain ⟨y276, hy276⟩ : ∃ y_ : List (S64), y_ = (([] : List (S64))) := ⟨_, rfl⟩
    replace H : (some (y276, false)) = some (r1, r2) := by first | (rw [hy276]; exact H) | exact H
    have Ny276 := ak hy276
    clear hy276
    simp only [Option.some.injEq, Prod.mk.injEq] at H
    obtain ⟨rfl, rfl⟩ := H
    go_wp2_with (first | ((with_reducible refine gate_dst (N := 28) rfl ?_); refine Kd.N_lit k64 _ 64 ?hg (N' := 28) ?hd (xs := ([] : List (S64))) (inner := []) (ok := (fun k_ => (w.heap.size ≤ k_))) (okp := (fun k_ => (w.heap.size ≤ k_))) ?hr ?hp (fun _ hk => hk) ((show ∀ k_, wc.heap.size ≤ k_ → (fun k_ => (w.heap.size ≤ k_)) k_ from fun k_ hk => (Nat.le_trans (below_size (by exact hopb HB.out)) hk)) _ (Nat.le_refl _)) (Below.refl _ _) (Nat.le_refl _) (by simp) ?_; (case hd => rfl); (case hg => rfl); (case hr => first | (go_simp; done) | (go_simp; rfl)); (case hp => exact (Reps.none _ _)); intro v277 w14 ho15 hb hg_ hnew_; clear hg_ hnew_; (first | rw [← Ny276.out] at ho15 | (simp only [Int.reduceToNat] at ho15; rw [← Ny276.out] at ho15)); have HO278 := ak (Kd.N_lower ho15 (below_size (by exact hopb HB.out))); replace HB := ak (below_step (by exact hopb HB.out) hb); clear hb ho15))
    go_ret2
    exact ⟨_, by first | rfl | (simp only [u8_w_, w64_u8_] <;> rfl) | (simp [errW_none, errW_some] <;> rfl) | (simp [*, errW_none, errW_some] <;> rfl), by (with_reducible repeat (first | apply Kd.N_alloc | apply Kd.N_drewN | apply Kd.N_drew)); exact HO278.out, by exact hopb HB.out⟩
   ·replace c13 := Bool.eq_false_iff.mpr c13
    subst c13
    rw [if_neg (show ¬ (false = true) by decide)] at H
    replace H := Option.bind_eq_some_iff.mp H
    obtain ⟨t279, A160, H⟩ := H
    try dsimp only at H
    have A16 := ak A160
    clear A160
    by_cases c17 : (l0.length : Int) = 0
    ·rw [if_pos c17] at H
     have c17b0 : ((l0.length : Int) == 0) = true := beq_iff_eq.mpr c17
     have c17b1 : ((l0.length : Int) != 0) = false := bne_eq_false_iff_eq.mpr c17
     clear c17
     obtain ⟨y282, hy282⟩ : ∃ y_ : List (S71), y_ = (([(⟨a1, a2⟩ : S71)] : List (S71))) := ⟨_, rfl⟩
     replace H : (if t279.length < 5864062014805 then (some ((t279 ++ [(⟨y282⟩ : S64)]), true)) else (none)) = some (r1, r2) := by first | (rw [hy282]; exact H) | exact H
     have Ny282 := ak hy282
     clear hy282
     by_cases c18 : t279.length < 5864062014805
     ·rw [if_pos c18] at H
      have LMc18 := ak c18
      clear c18
      obtain ⟨y285, hy285⟩ : ∃ y_ : List (S64), y_ = (t279 ++ [(⟨y282⟩ : S64)]) := ⟨_, rfl⟩
      replace H : (some (y285, true)) = some (r1, r2) := by first | (rw [hy285]; exact H) | exact H
      have Ny285 := ak hy285
      clear hy285
      simp only [Option.some.injEq, Prod.mk.injEq] at H
      obtain ⟨rfl, rfl⟩ := H
      go_wp2_with (first | ((with_reducible refine gate_callee (f := 82) rfl ?_); refine goesL_ (some 30) rfl rfl Try.func82 (by kernel_rfl) rfl #[.slice A0 l0.length c0] rfl (by (try simp only [List.map_toArray, List.map_cons, List.map_nil]); first | done | rfl | (simp only [List.length_drop, List.length_take]; rfl)) ?_; (with_reducible refine (spec_l6Copy.calls kj3 _ _ l0 t279 _ ?side1 ?side2 A16.out).mono ?_); (case side1 => repeat (first | exact (Kd.C_below HR0.out HB.out) | (with_reducible refine Kd.C_alloc ?_ _) | (with_reducible refine Kd.C_drewN ?_ _) | (with_reducible refine Kd.C_drew ?_))); (case side2 => exact HC0.out); rintro e w19 ⟨v280, rfl, ho0, hb⟩; refine ⟨_, rfl, ?_⟩; have HO281 := ak (Kd.N_lower (Kd.N_mono (ok' := fun k_ => (w.heap.size ≤ k_)) (Kd.S_N (Kd.S_bound ho0)) (fun k_ hk_ => (Nat.le_trans (below_size (by exact hopb HB.out)) hk_.2.1))) (below_size (by exact hopb HB.out))); replace HB := ak (below_step (by exact hopb HB.out) hb); (try clear hb); (try clear ho0)) | ((with_reducible refine gate_dst (N := 38) rfl ?_); refine Kd.R_lit k71 _ 71 ?hg (N := 38) ?hd (xs := ([(⟨a1, a2⟩ : S71)] : List (S71))) (inner := [.string a1, .int .i64 a2]) (ok := fun _ => True) (okp := fun _ => True) ?hr ?hp (fun _ hk => hk) trivial (Below.refl _ _) (Nat.le_refl _) (by simp) ?_; (case hd => rfl); (case hg => rfl); (case hr => first | (go_simp; done) | (go_simp; rfl)); (case hp => exact (Reps.c2 (show Kd.M k71 _ _ _ (⟨a1, a2⟩ : S71) [.string a1, .int .i64 a2] from (k71_mkM _ _ _ (⟨a1, a2⟩ : S71) )) (Reps.none _ _))); intro v283 w20 ho21 hb hg_ hnew_; clear hg_ hnew_; (first | rw [← Ny282.out] at ho21 | (simp only [Int.reduceToNat] at ho21; rw [← Ny282.out] at ho21)); replace HO281 := ak (Kd.N_elder' (by (with_reducible repeat (first | apply Kd.N_alloc | apply Kd.N_drewN | apply Kd.N_drew)); exact HO281.out) (Kd.R_base ho21) hb); have HO284 := ak (Kd.R_lower (Kd.R_newM (M := fun k_ => (w.heap.size ≤ k_)) ho21 (below_size (by exact hopb HB.out)) (fun k_ h_ => h_)) (below_size (by exact hopb HB.out))); replace HB := ak (below_step (by exact hopb HB.out) hb); clear hb ho21; obtain ⟨Ao22, co22, eo22⟩ := Kd.R_slice HO284.out; subst eo22) | ((with_reducible refine gate_builtin (b := .append) (xs := #[.tmp 34, .tmp 40]) rfl ?_); at_builtin; refine Kd.N_append k64 (w0 := w) w.heap.size rfl (.tmp 34) (.tmp 40) 34 64 (.agg #[(.slice none 0 0)]) 24 rfl Try.underlying34 info64 rfl (by decide) (by omega) v280 t279 (⟨y282⟩ : S64) [.slice Ao22 y282.length co22] (fun k_ => (w.heap.size ≤ k_)) (fun k_ => ((fun k_ => (w.heap.size ≤ k_))) k_ ∧ some k_ ≠ (v280 : Value).ownBlock) rfl rfl ?aP (fun _ hk => hk) ?aF ?aO ?aB ?aS ?aL ?_; (case aP => exact (k64_mkF _ _ (⟨y282⟩ : S64) (Kd.R_reads' (Kd.R_mono (ok' := (fun k_ => ((fun k_ => (w.heap.size ≤ k_))) k_ ∧ some k_ ≠ (v280 : Value).ownBlock)) (Kd.R_apart' (HO284.out) (Kd.N_typed HO281.out) (by decide)) (fun k_ hk => ⟨hk.1.1, hk.2⟩))).2.1 (Kd.R_F (Kd.R_mono (ok' := (fun k_ => ((fun k_ => (w.heap.size ≤ k_))) k_ ∧ some k_ ≠ (v280 : Value).ownBlock)) (Kd.R_apart' (HO284.out) (Kd.N_typed HO281.out) (by decide)) (fun k_ hk => ⟨hk.1.1, hk.2⟩))))); (case aB => exact (by exact hopb HB.out)); (case aF => exact (fun k_ hk => (Nat.le_trans (below_size (by exact hopb HB.out)) hk))); (case aO => exact (by (with_reducible repeat (first | apply Kd.N_alloc | apply Kd.N_drewN | apply Kd.N_drew)); exact Kd.N_mono HO281.out (fun _ hk => hk.1))); (case aS => exact (below_size (by exact hopb HB.out))); (case aL => have := LMc18.out; omega); intro v286 w23 ho hb hg hat; rw [← Ny285.out] at ho; replace HB := ak (hb); have HO287 := ak (ho); clear HO281 HO284; clear ho hb hg hat))
      go_ret2
      exact ⟨_, by first | rfl | (simp only [u8_w_, w64_u8_] <;> rfl) | (simp [errW_none, errW_some] <;> rfl) | (simp [*, errW_none, errW_some] <;> rfl), by (with_reducible repeat (first | apply Kd.N_alloc | apply Kd.N_drewN | apply Kd.N_drew)); exact HO287.out, by exact hopb HB.out⟩
     ·rw [if_neg c18] at H
      exact absurd H (by simp)
    ·rw [if_neg c17] at H
     have c17b0 : ((l0.length : Int) == 0) = false := beq_eq_false_iff_ne.mpr c17
     have c17b1 : ((l0.length : Int) != 0) = true := bne_iff_ne.mpr c17
     have c17b2 : ¬ (l0 = []) := fun h_ => c17 (by rw [h_]; rfl)
     replace H := Option.bind_eq_some_iff.mp H
     obtain ⟨t288, A240, H⟩ := H
     try dsimp only at H
     have A24 := ak A240
     clear A240
     replace H := Option.bind_eq_some_iff.mp H
     obtain ⟨⟨t291, t292⟩, A250, H⟩ := H
     try dsimp only at H
     have A25 := ak A250
     clear A250
     by_cases c26 : t292 = true
     ·subst c26
      rw [if_pos rfl] at H
      replace H := Option.bind_eq_some_iff.mp H
      obtain ⟨t295, A270, H⟩ := H
      try dsimp only at H
      have A27 := ak A270
      clear A270
      by_cases c28 : 0 ≤ t295
      ·rw [if_pos c28] at H
       have c28b0 : decide (0 ≤ t295) = true := decide_eq_true c28
       clear c28
       by_cases c29 : t295 < (l0.length : Int)
       ·rw [if_pos c29] at H
        have c29b0 : decide (t295 < (l0.length : Int)) = true := decide_eq_true c29
        clear c29
        replace H := Option.bind_eq_some_iff.mp H
        obtain ⟨⟨t297, t298⟩, A300, H⟩ := H
        try dsimp only at H
        have A30 := ak A300
        clear A300
        by_cases c31 : (t297.length : Int) ≤ 4
        ·rw [if_pos c31] at H
         have c31b0 : decide ((t297.length : Int) ≤ 4) = true := decide_eq_true c31
         have c31b1 : decide (t297.length ≤ 4) = true := decide_eq_true (by omega)
         clear c31
         by_cases c32 : t295 < (t279.length : Int)
         ·rw [if_pos c32] at H
          have c32b0 : decide (t295 < (t279.length : Int)) = true := decide_eq_true c32
          clear c32
          obtain ⟨y301, hy301⟩ : ∃ y_ : List (S64), y_ = (t279.set (t295 : Int).toNat (⟨t297⟩ : S64)) := ⟨_, rfl⟩
          replace H : (some (y301, true)) = some (r1, r2) := by first | (rw [hy301]; exact H) | exact H
          have Ny301 := ak hy301
          clear hy301
          simp only [Option.some.injEq, Prod.mk.injEq] at H
          obtain ⟨rfl, rfl⟩ := H
          go_wp2_with (first | ((with_reducible refine gate_callee (f := 82) rfl ?_); refine goesL_ (some 30) rfl rfl Try.func82 (by kernel_rfl) rfl #[.slice A0 l0.length c0] rfl (by (try simp only [List.map_toArray, List.map_cons, List.map_nil]); first | done | rfl | (simp only [List.length_drop, List.length_take]; rfl)) ?_; (with_reducible refine (spec_l6Copy.calls kj3 _ _ l0 t279 _ ?side1 ?side2 A16.out).mono ?_); (case side1 => repeat (first | exact (Kd.C_below HR0.out HB.out) | (with_reducible refine Kd.C_alloc ?_ _) | (with_reducible refine Kd.C_drewN ?_ _) | (with_reducible refine Kd.C_drew ?_))); (case side2 => exact HC0.out); rintro e w34 ⟨v280, rfl, ho0, hb⟩; refine ⟨_, rfl, ?_⟩; have HO281 := ak (Kd.N_lower (Kd.N_mono (ok' := fun k_ => (w.heap.size ≤ k_)) (Kd.S_N (Kd.S_bound ho0)) (fun k_ hk_ => (Nat.le_trans (below_size (by exact hopb HB.out)) hk_.2.1))) (below_size (by exact hopb HB.out))); replace HB := ak (below_step (by exact hopb HB.out) hb); (try clear hb); (try clear ho0)) | ((with_reducible refine gate_callee (f := 43) rfl ?_); refine goesL_ (some 44) rfl rfl Try.func43 (by kernel_rfl) rfl #[.slice A0 l0.length c0] rfl (by (try simp only [List.map_toArray, List.map_cons, List.map_nil]); first | done | rfl | (simp only [List.length_drop, List.length_take]; rfl)) ?_; (with_reducible refine (spec_PagesList.calls kj3 _ _ l0 t288 _ ?side1 ?side2 A24.out).mono ?_); (case side1 => repeat (first | exact (Kd.C_below HR0.out HB.out) | (with_reducible refine Kd.C_alloc ?_ _) | (with_reducible refine Kd.C_drewN ?_ _) | (with_reducible refine Kd.C_drew ?_))); (case side2 => exact HC0.out); rintro e w35 ⟨v289, rfl, ho0, hb⟩; refine ⟨_, rfl, ?_⟩; replace HO281 := ak (Kd.N_elder' (by (with_reducible repeat (first | apply Kd.N_alloc | apply Kd.N_drewN | apply Kd.N_drew)); exact HO281.out) (Kd.R_base ho0) hb); have HO290 := ak (Kd.R_lower (Kd.R_newM (M := fun k_ => (w.heap.size ≤ k_)) ho0 (below_size (by exact hopb HB.out)) (fun k_ h_ => h_)) (below_size (by exact hopb HB.out))); replace HB := ak (below_step (by exact hopb HB.out) hb); (try clear hb); (try clear ho0); obtain ⟨Ao36, co36, eo36⟩ := Kd.R_slice HO290.out; subst eo36) | ((with_reducible refine gate_callee (f := 83) rfl ?_); refine goesL_ (some 47) rfl rfl Try.func83 (by kernel_rfl) rfl #[.slice Ao36 t288.length co36, .string a1, .int .i64 a2] rfl (by (try simp only [List.map_toArray, List.map_cons, List.map_nil]); first | done | rfl | (simp only [List.length_drop, List.length_take]; rfl)) ?_; (with_reducible refine (spec_PairPut.calls kj3 _ _ t288 a1 a2 t291 true _ ?side1 ?side2 A25.out).mono ?_); (case side1 => repeat (first | exact (Kd.R_reads' HO290.out).2.2 | (with_reducible refine Kd.C_alloc ?_ _) | (with_reducible refine Kd.C_drewN ?_ _) | (with_reducible refine Kd.C_drew ?_))); (case side2 => exact (Kd.R_reads' HO290.out).2.1); rintro e w37 ⟨v293, rfl, ho0, hb⟩; refine ⟨_, rfl, ?_⟩; replace HO281 := ak (Kd.N_elder' (by (with_reducible repeat (first | apply Kd.N_alloc | apply Kd.N_drewN | apply Kd.N_drew)); exact HO281.out) (Kd.R_base ho0) hb); have HO294 := ak (Kd.R_lower (Kd.R_new' (Kd.R_newM (M := fun k_ => (w.heap.size ≤ k_)) ho0 (below_size (by exact hopb HB.out)) (fun k_ h_ => h_)) (Kd.R_lt (by (with_reducible repeat (first | apply Kd.R_alloc | apply Kd.R_drewN | apply Kd.R_drew)); exact HO290.out))) (below_size (by exact hopb HB.out))); replace HO290 := ak (Kd.R_elder' (by (with_reducible repeat (first | apply Kd.R_alloc | apply Kd.R_drewN | apply Kd.R_drew)); exact HO290.out) (Kd.R_base ho0) hb); replace HB := ak (below_step (by exact hopb HB.out) hb); (try clear hb); (try clear ho0)) | ((with_reducible refine gate_callee (f := 35) rfl ?_); refine goesL_ (some 55) rfl rfl Try.func35 (by kernel_rfl) rfl #[.slice A0 l0.length c0, .string a1] rfl (by (try simp only [List.map_toArray, List.map_cons, List.map_nil]); first | done | rfl | (simp only [List.length_drop, List.length_take]; rfl)) ?_; (with_reducible refine (spec_PageFind.calls kj3 _ _ l0 a1 t295 _ ?side1 ?side2 A27.out).mono ?_); (case side1 => repeat (first | exact (Kd.C_below HR0.out HB.out) | (with_reducible refine Kd.C_alloc ?_ _) | (with_reducible refine Kd.C_drewN ?_ _) | (with_reducible refine Kd.C_drew ?_))); (case side2 => exact HC0.out); rintro e w38 ⟨rfl, hb⟩; refine ⟨_, rfl, ?_⟩; replace HO281 := ak (Kd.N_below (by (with_reducible repeat (first | apply Kd.N_alloc | apply Kd.N_drewN | apply Kd.N_drew)); exact HO281.out) hb); replace HO290 := ak (Kd.R_below (by (with_reducible repeat (first | apply Kd.R_alloc | apply Kd.R_drewN | apply Kd.R_drew)); exact HO290.out) hb); replace HO294 := ak (Kd.R_below (by (with_reducible repeat (first | apply Kd.R_alloc | apply Kd.R_drewN | apply Kd.R_drew)); exact HO294.out) hb); replace HB := ak (below_step (by exact hopb HB.out) hb); (try clear hb); have p296 : 0 ≤ (t295 : Int) := of_decide_eq_true (by assumption); have q296 : t295 < (l0.length : Int) := of_decide_eq_true (by assumption); obtain ⟨ad296, A296_0, c296_0, e296, hx296_0, hl296_0, hi296_0⟩ := at_T64 HR0.out t295 p296 q296; cases e296; replace hx296_0 := (HB.out.cell (World.block_lt_of_cell? w _ hx296_0)).trans hx296_0; have HR296_0 := ak hi296_0; have HC296_0 := ak hl296_0; clear hi296_0 hl296_0; replace p296 := eq_true p296; replace q296 := eq_true q296) | ((with_reducible refine gate_callee (f := 83) rfl ?_); refine goesL_ (some 64) rfl rfl Try.func83 (by kernel_rfl) rfl #[.slice A296_0 ((rd_T64 l0 t295).f0).length c296_0, .string a1, .int .i64 a2] rfl (by (try simp only [List.map_toArray, List.map_cons, List.map_nil]); first | done | rfl | (simp only [List.length_drop, List.length_take]; rfl)) ?_; (with_reducible refine (spec_PairPut.calls kj3 _ _ ((rd_T64 l0 t295).f0) a1 a2 t297 t298 _ ?side1 ?side2 A30.out).mono ?_); (case side1 => repeat (first | exact (Kd.C_below HR296_0.out HB.out) | (with_reducible refine Kd.C_alloc ?_ _) | (with_reducible refine Kd.C_drewN ?_ _) | (with_reducible refine Kd.C_drew ?_))); (case side2 => exact HC296_0.out); rintro e w39 ⟨v299, rfl, ho0, hb⟩; refine ⟨_, rfl, ?_⟩; replace HO281 := ak (Kd.N_elder' (by (with_reducible repeat (first | apply Kd.N_alloc | apply Kd.N_drewN | apply Kd.N_drew)); exact HO281.out) (Kd.R_base ho0) hb); have HO300 := ak (Kd.R_lower (Kd.R_new' (Kd.R_new' (Kd.R_newM (M := fun k_ => (w.heap.size ≤ k_)) ho0 (below_size (by exact hopb HB.out)) (fun k_ h_ => h_)) (Kd.R_lt (by (with_reducible repeat (first | apply Kd.R_alloc | apply Kd.R_drewN | apply Kd.R_drew)); exact HO290.out))) (Kd.R_lt (by (with_reducible repeat (first | apply Kd.R_alloc | apply Kd.R_drewN | apply Kd.R_drew)); exact HO294.out))) (below_size (by exact hopb HB.out))); replace HO290 := ak (Kd.R_elder' (by (with_reducible repeat (first | apply Kd.R_alloc | apply Kd.R_drewN | apply Kd.R_drew)); exact HO290.out) (Kd.R_base ho0) hb); replace HO294 := ak (Kd.R_elder' (by (with_reducible repeat (first | apply Kd.R_alloc | apply Kd.R_drewN | apply Kd.R_drew)); exact HO294.out) (Kd.R_base ho0) hb); replace HB := ak (below_step (by exact hopb HB.out) hb); (try clear hb); (try clear ho0); obtain ⟨Ao40, co40, eo40⟩ := Kd.R_slice HO300.out; subst eo40; have p33 : 0 ≤ (t295 : Int) := of_decide_eq_true (by assumption); have q33 : (t295 : Int) < ((t279.length : Int) : Int) := of_decide_eq_true (by assumption); obtain ⟨go33, co33, eo33, gb33, gl33, cl33, HG33⟩ := Kd.N_form HO281.out (by omega); (first | cases eo33 | (injection eo33 with ea_ en_ ec_; (first | subst ea_ | (injection ea_ with ea_; subst ea_)); subst ec_; clear en_)); have GB33 := ak gb33; have GG33 := ak HG33; clear gb33 gl33 HG33; obtain ⟨ce33, hcl33, hM33, hcc33, hfr33⟩ := Kd.N_elem HO281.out z64 (t295 : Int) p33 q33; obtain ⟨ua33_0, uc33_0, rfl, ul33_0, ge33_0⟩ := k64_openF hM33; have hx33_0 := hcc33 0 _ rfl; have hf33_0 := hfr33 0; (try simp only [show (k64).sz = 1 from rfl, Nat.mul_one, Nat.add_zero] at hx33_0); (try simp only [show (k64).sz = 1 from rfl, Nat.mul_one, Nat.add_zero] at hf33_0); clear hcl33 hcc33 hfr33 hM33; replace p33 := eq_true p33; replace q33 := eq_true q33; have n_ := ak (Kd.N_mono (ok' := (fun k_ => (w.heap.size ≤ k_) ∧ some k_ ≠ (.slice Ao36 t288.length co36 : Value).ownBlock ∧ some k_ ≠ (v293 : Value).ownBlock ∧ some k_ ≠ (.slice Ao40 t297.length co40 : Value).ownBlock)) HO281.out (fun k_ hk => ⟨hk.1.1.1, ⟨hk.1.1.2, ⟨hk.1.2, hk.2⟩⟩⟩)); clear HO281; have HO281 := n_; clear n_; have HX41 := ak (show Kd.N k64 64 w39 w.heap.size (fun k_ => (w.heap.size ≤ k_) ∧ some k_ ≠ (.slice Ao36 t288.length co36 : Value).ownBlock ∧ some k_ ≠ (v293 : Value).ownBlock) (.slice (some ⟨go33, 0, none⟩) t279.length co33) t279 from (by (with_reducible repeat (first | apply Kd.N_alloc | apply Kd.N_drewN | apply Kd.N_drew)); exact Kd.N_mono HO281.out (fun _ hk => ⟨hk.1, ⟨hk.2.1, hk.2.2.1⟩⟩))); obtain ⟨ce41, hcl41, hM41, hcc41, hfr41⟩ := Kd.N_elem HX41.out z64 (t295 : Int) (of_decide_eq_true (by assumption)) (by have h_ : (t295 : Int) < ((t279.length : Int) : Int) := of_decide_eq_true (by assumption); first | exact h_ | (have e_ := (Kd.N_reads' HO281.out).1; omega) | simpa using h_); obtain ⟨ua41_0, uc41_0, rfl, ul41_0, ge41_0⟩ := k64_openF hM41; have HP41 := Kd.N_seg HX41.out (t295 : Int) (of_decide_eq_true (by assumption)) (by have h_ : (t295 : Int) < ((t279.length : Int) : Int) := of_decide_eq_true (by assumption); first | exact h_ | (have e_ := (Kd.N_reads' HO281.out).1; omega) | simpa using h_) (seg := [.slice Ao40 t297.length co40]) (j := 0) hcl41 hcc41 (show 1 ≤ 1 from by decide) (x' := (⟨t297⟩ : S64)) (k64_mkF _ _ (⟨t297⟩ : S64) (Kd.R_reads' (Kd.R_mono (ok' := (fun k_ => ((fun k_ => (w.heap.size ≤ k_) ∧ some k_ ≠ (.slice Ao36 t288.length co36 : Value).ownBlock ∧ some k_ ≠ (v293 : Value).ownBlock)) k_ ∧ k_ ≠ go33)) (Kd.R_apart' (HO300.out) (Kd.N_typed HO281.out) (by decide)) (fun k_ hk => ⟨⟨hk.1.1.1.1, ⟨hk.1.1.2, hk.1.2⟩⟩, fun e_ => (hk.2) (by rw [e_]; rfl)⟩))).2.1 (Kd.R_F (Kd.R_mono (ok' := (fun k_ => ((fun k_ => (w.heap.size ≤ k_) ∧ some k_ ≠ (.slice Ao36 t288.length co36 : Value).ownBlock ∧ some k_ ≠ (v293 : Value).ownBlock)) k_ ∧ k_ ≠ go33)) (Kd.R_apart' (HO300.out) (Kd.N_typed HO281.out) (by decide)) (fun k_ hk => ⟨⟨hk.1.1.1.1, ⟨hk.1.1.2, hk.1.2⟩⟩, fun e_ => (hk.2) (by rw [e_]; rfl)⟩)))) (fun _ hk => hk); have hx41_0 := hcc41 0 _ rfl; (try simp only [show (k64).sz = 1 from rfl, Nat.mul_one, Nat.add_zero] at hx41_0); have hf41_0 := hfr41 0; (try simp only [show (k64).sz = 1 from rfl, Nat.mul_one, Nat.add_zero] at hf41_0); clear hcl41 hcc41 hfr41 hM41; (try simp only [show (k64).sz = 1 from rfl, Nat.mul_one, Nat.add_zero] at HP41); (try simp only [show (k64).sz = 1 from rfl, Nat.mul_one, Nat.add_zero] at HP41)) | ((with_reducible refine gate_store (t := 32) (p := 74) rfl ?_); refine store_event (t := 32) (p := 74) (v := ?vo_w42) (w1 := (w39.setCell ⟨go33, (t295 : Int).toNat, none⟩ (.slice Ao40 t297.length co40))) ?hg ?ho ?hn ?hr ?_; (case ho => rfl); (case hg => rfl); (case hn => rfl); (case hr => first | (go_simp; done) | (go_simp; rfl)); intro w42 hw; have hg : w39.grownBy w42 (some go33) := (by rw [hw]; exact HP41.2); have hp_ : Kd.N k64 64 w42 w.heap.size (fun k_ => (w.heap.size ≤ k_) ∧ some k_ ≠ (.slice Ao36 t288.length co36 : Value).ownBlock ∧ some k_ ≠ (v293 : Value).ownBlock) (.slice (some ⟨go33, 0, none⟩) t279.length co33) y301 := (by rw [hw, Ny301.out]; exact HP41.1); clear HP41; replace HO290 := ak (Kd.R_over' (v := (.slice (some ⟨go33, 0, none⟩) t279.length co33)) (by (with_reducible repeat (first | apply Kd.R_alloc | apply Kd.R_drewN | apply Kd.R_drew)); exact HO290.out) (Kd.N_typed HO281.out) (by decide) hg); replace HO294 := ak (Kd.R_over' (v := (.slice (some ⟨go33, 0, none⟩) t279.length co33)) (by (with_reducible repeat (first | apply Kd.R_alloc | apply Kd.R_drewN | apply Kd.R_drew)); exact HO294.out) (Kd.N_typed HO281.out) (by decide) hg); replace HO281 := ak (hp_); replace HB := ak ((by rw [hw]; exact below_set (HB.out) GB33.out : Below w.heap.size w w42)); clear HO300; clear hg hw hp_))
          go_ret2
          exact ⟨_, by first | rfl | (simp only [u8_w_, w64_u8_] <;> rfl) | (simp [errW_none, errW_some] <;> rfl) | (simp [*, errW_none, errW_some] <;> rfl), by (with_reducible repeat (first | apply Kd.N_alloc | apply Kd.N_drewN | apply Kd.N_drew)); exact Kd.N_mono HO281.out (fun _ hk => hk.1), by exact hopb HB.out⟩
         ·rw [if_neg c32] at H
          exact absurd H (by simp)
        ·rw [if_neg c31] at H
         have c31b0 : decide ((t297.length : Int) ≤ 4) = false := decide_eq_false c31
         have c31b1 : decide (t297.length ≤ 4) = false := decide_eq_false (by omega)
         clear c31
         obtain ⟨y302, hy302⟩ : ∃ y_ : List (S64), y_ = (([] : List (S64))) := ⟨_, rfl⟩
         replace H : (if t295 ≤ (t279.length : Int) then ((some (t279.take (t295 : Int).toNat : List (S64))).bind fun y305 => (if y302.length + y305.length < 5864062014805 then ((some (y302 ++ y305 : List (S64))).bind fun y310 => ((some (([] : List (S71)) : List (S71))).bind fun y313 => (if 2 ≤ (t297.length : Int) then ((some (t297.take 2 : List (S71))).bind fun y316 => (if y313.length + y316.length < 5864062014805 then ((some (([] : List (S71)) : List (S71))).bind fun y324 => ((some (t297.drop 2 : List (S71))).bind fun y327 => (if y324.length + y327.length < 5864062014805 then ((some (([(⟨(y313 ++ y316)⟩ : S64), (⟨(y324 ++ y327)⟩ : S64)] : List (S64)) : List (S64))).bind fun y335 => (if y310.length + y335.length < 5864062014805 then ((some (y310 ++ y335 : List (S64))).bind fun y338 => (if 0 ≤ (wrap64 (t295 + 1)) then (if (wrap64 (t295 + 1)) ≤ (t279.length : Int) then ((some (t279.drop ((wrap64 (t295 + 1)) : Int).toNat : List (S64))).bind fun y341 => (if y338.length + y341.length < 5864062014805 then (some ((y338 ++ y341), true)) else (none))) else (none)) else (none))) else (none))) else (none)))) else (none))) else (none)))) else (none))) else (none)) = some (r1, r2) := by first | (rw [hy302]; exact H) | exact H
         have Ny302 := ak hy302
         clear hy302
         have c43b0 := eq_true (of_decide_eq_true (by assumption) : 0 ≤ t295)
         by_cases c44 : t295 ≤ (t279.length : Int)
         ·rw [if_pos c44] at H
          have c44b0 := eq_true c44
          have c44b1 : decide (t295 ≤ (t279.length : Int)) = true := decide_eq_true c44
          clear c44
          obtain ⟨y305, hy305⟩ : ∃ y_ : List (S64), y_ = (t279.take (t295 : Int).toNat) := ⟨_, rfl⟩
          replace H : (if y302.length + y305.length < 5864062014805 then ((some (y302 ++ y305 : List (S64))).bind fun y310 => ((some (([] : List (S71)) : List (S71))).bind fun y313 => (if 2 ≤ (t297.length : Int) then ((some (t297.take 2 : List (S71))).bind fun y316 => (if y313.length + y316.length < 5864062014805 then ((some (([] : List (S71)) : List (S71))).bind fun y324 => ((some (t297.drop 2 : List (S71))).bind fun y327 => (if y324.length + y327.length < 5864062014805 then ((some (([(⟨(y313 ++ y316)⟩ : S64), (⟨(y324 ++ y327)⟩ : S64)] : List (S64)) : List (S64))).bind fun y335 => (if y310.length + y335.length < 5864062014805 then ((some (y310 ++ y335 : List (S64))).bind fun y338 => (if 0 ≤ (wrap64 (t295 + 1)) then (if (wrap64 (t295 + 1)) ≤ (t279.length : Int) then ((some (t279.drop ((wrap64 (t295 + 1)) : Int).toNat : List (S64))).bind fun y341 => (if y338.length + y341.length < 5864062014805 then (some ((y338 ++ y341), true)) else (none))) else (none)) else (none))) else (none))) else (none)))) else (none))) else (none)))) else (none)) = some (r1, r2) := by first | (rw [hy305]; exact H) | exact H
          have Ny305 := ak hy305
          clear hy305
          by_cases c45 : y302.length + y305.length < 5864062014805
          ·rw [if_pos c45] at H
           have LMc45 := ak c45
           clear c45
           obtain ⟨y310, hy310⟩ : ∃ y_ : List (S64), y_ = (y302 ++ y305) := ⟨_, rfl⟩
           replace H : ((some (([] : List (S71)) : List (S71))).bind fun y313 => (if 2 ≤ (t297.length : Int) then ((some (t297.take 2 : List (S71))).bind fun y316 => (if y313.length + y316.length < 5864062014805 then ((some (([] : List (S71)) : List (S71))).bind fun y324 => ((some (t297.drop 2 : List (S71))).bind fun y327 => (if y324.length + y327.length < 5864062014805 then ((some (([(⟨(y313 ++ y316)⟩ : S64), (⟨(y324 ++ y327)⟩ : S64)] : List (S64)) : List (S64))).bind fun y335 => (if y310.length + y335.length < 5864062014805 then ((some (y310 ++ y335 : List (S64))).bind fun y338 => (if 0 ≤ (wrap64 (t295 + 1)) then (if (wrap64 (t295 + 1)) ≤ (t279.length : Int) then ((some (t279.drop ((wrap64 (t295 + 1)) : Int).toNat : List (S64))).bind fun y341 => (if y338.length + y341.length < 5864062014805 then (some ((y338 ++ y341), true)) else (none))) else (none)) else (none))) else (none))) else (none)))) else (none))) else (none))) = some (r1, r2) := by first | (rw [hy310]; exact H) | exact H
           have Ny310 := ak hy310
           clear hy310
           obtain ⟨y313, hy313⟩ : ∃ y_ : List (S71), y_ = (([] : List (S71))) := ⟨_, rfl⟩
           replace H : (if 2 ≤ (t297.length : Int) then ((some (t297.take 2 : List (S71))).bind fun y316 => (if y313.length + y316.length < 5864062014805 then ((some (([] : List (S71)) : List (S71))).bind fun y324 => ((some (t297.drop 2 : List (S71))).bind fun y327 => (if y324.length + y327.length < 5864062014805 then ((some (([(⟨(y313 ++ y316)⟩ : S64), (⟨(y324 ++ y327)⟩ : S64)] : List (S64)) : List (S64))).bind fun y335 => (if y310.length + y335.length < 5864062014805 then ((some (y310 ++ y335 : List (S64))).bind fun y338 => (if 0 ≤ (wrap64 (t295 + 1)) then (if (wrap64 (t295 + 1)) ≤ (t279.length : Int) then ((some (t279.drop ((wrap64 (t295 + 1)) : Int).toNat : List (S64))).bind fun y341 => (if y338.length + y341.length < 5864062014805 then (some ((y338 ++ y341), true)) else (none))) else (none)) else (none))) else (none))) else (none)))) else (none))) else (none)) = some (r1, r2) := by first | (rw [hy313]; exact H) | exact H
           have Ny313 := ak hy313
           clear hy313
           by_cases c46 : 2 ≤ (t297.length : Int)
           ·rw [if_pos c46] at H
            have c46b0 := eq_true c46
            have c46b1 : decide (2 ≤ (t297.length : Int)) = true := decide_eq_true c46
            clear c46
            obtain ⟨y316, hy316⟩ : ∃ y_ : List (S71), y_ = (t297.take 2) := ⟨_, rfl⟩
            replace H : (if y313.length + y316.length < 5864062014805 then ((some (([] : List (S71)) : List (S71))).bind fun y324 => ((some (t297.drop 2 : List (S71))).bind fun y327 => (if y324.length + y327.length < 5864062014805 then ((some (([(⟨(y313 ++ y316)⟩ : S64), (⟨(y324 ++ y327)⟩ : S64)] : List (S64)) : List (S64))).bind fun y335 => (if y310.length + y335.length < 5864062014805 then ((some (y310 ++ y335 : List (S64))).bind fun y338 => (if 0 ≤ (wrap64 (t295 + 1)) then (if (wrap64 (t295 + 1)) ≤ (t279.length : Int) then ((some (t279.drop ((wrap64 (t295 + 1)) : Int).toNat : List (S64))).bind fun y341 => (if y338.length + y341.length < 5864062014805 then (some ((y338 ++ y341), true)) else (none))) else (none)) else (none))) else (none))) else (none)))) else (none)) = some (r1, r2) := by first | (rw [hy316]; exact H) | exact H
            have Ny316 := ak hy316
            clear hy316
            by_cases c47 : y313.length + y316.length < 5864062014805
            ·rw [if_pos c47] at H
             have LMc47 := ak c47
             clear c47
             obtain ⟨y321, hy321⟩ : ∃ y_ : List (S71), y_ = (y313 ++ y316) := ⟨_, rfl⟩
             replace H : ((some (([] : List (S71)) : List (S71))).bind fun y324 => ((some (t297.drop 2 : List (S71))).bind fun y327 => (if y324.length + y327.length < 5864062014805 then ((some (([(⟨y321⟩ : S64), (⟨(y324 ++ y327)⟩ : S64)] : List (S64)) : List (S64))).bind fun y335 => (if y310.length + y335.length < 5864062014805 then ((some (y310 ++ y335 : List (S64))).bind fun y338 => (if 0 ≤ (wrap64 (t295 + 1)) then (if (wrap64 (t295 + 1)) ≤ (t279.length : Int) then ((some (t279.drop ((wrap64 (t295 + 1)) : Int).toNat : List (S64))).bind fun y341 => (if y338.length + y341.length < 5864062014805 then (some ((y338 ++ y341), true)) else (none))) else (none)) else (none))) else (none))) else (none)))) = some (r1, r2) := by first | (rw [hy321]; exact H) | exact H
             have Ny321 := ak hy321
             clear hy321
             obtain ⟨y324, hy324⟩ : ∃ y_ : List (S71), y_ = (([] : List (S71))) := ⟨_, rfl⟩
             replace H : ((some (t297.drop 2 : List (S71))).bind fun y327 => (if y324.length + y327.length < 5864062014805 then ((some (([(⟨y321⟩ : S64), (⟨(y324 ++ y327)⟩ : S64)] : List (S64)) : List (S64))).bind fun y335 => (if y310.length + y335.length < 5864062014805 then ((some (y310 ++ y335 : List (S64))).bind fun y338 => (if 0 ≤ (wrap64 (t295 + 1)) then (if (wrap64 (t295 + 1)) ≤ (t279.length : Int) then ((some (t279.drop ((wrap64 (t295 + 1)) : Int).toNat : List (S64))).bind fun y341 => (if y338.length + y341.length < 5864062014805 then (some ((y338 ++ y341), true)) else (none))) else (none)) else (none))) else (none))) else (none))) = some (r1, r2) := by first | (rw [hy324]; exact H) | exact H
             have Ny324 := ak hy324
             clear hy324
             have c48b0 := eq_true (of_decide_eq_true (by assumption) : 2 ≤ (t297.length : Int))
             obtain ⟨y327, hy327⟩ : ∃ y_ : List (S71), y_ = (t297.drop 2) := ⟨_, rfl⟩
             replace H : (if y324.length + y327.length < 5864062014805 then ((some (([(⟨y321⟩ : S64), (⟨(y324 ++ y327)⟩ : S64)] : List (S64)) : List (S64))).bind fun y335 => (if y310.length + y335.length < 5864062014805 then ((some (y310 ++ y335 : List (S64))).bind fun y338 => (if 0 ≤ (wrap64 (t295 + 1)) then (if (wrap64 (t295 + 1)) ≤ (t279.length : Int) then ((some (t279.drop ((wrap64 (t295 + 1)) : Int).toNat : List (S64))).bind fun y341 => (if y338.length + y341.length < 5864062014805 then (some ((y338 ++ y341), true)) else (none))) else (none)) else (none))) else (none))) else (none)) = some (r1, r2) := by first | (rw [hy327]; exact H) | exact H
             have Ny327 := ak hy327
             clear hy327
             by_cases c49 : y324.length + y327.length < 5864062014805
             ·rw [if_pos c49] at H
              have LMc49 := ak c49
              clear c49
              obtain ⟨y332, hy332⟩ : ∃ y_ : List (S71), y_ = (y324 ++ y327) := ⟨_, rfl⟩
              replace H : ((some (([(⟨y321⟩ : S64), (⟨y332⟩ : S64)] : List (S64)) : List (S64))).bind fun y335 => (if y310.length + y335.length < 5864062014805 then ((some (y310 ++ y335 : List (S64))).bind fun y338 => (if 0 ≤ (wrap64 (t295 + 1)) then (if (wrap64 (t295 + 1)) ≤ (t279.length : Int) then ((some (t279.drop ((wrap64 (t295 + 1)) : Int).toNat : List (S64))).bind fun y341 => (if y338.length + y341.length < 5864062014805 then (some ((y338 ++ y341), true)) else (none))) else (none)) else (none))) else (none))) = some (r1, r2) := by first | (rw [hy332]; exact H) | exact H
              have Ny332 := ak hy332
              clear hy332
              obtain ⟨y335, hy335⟩ : ∃ y_ : List (S64), y_ = (([(⟨y321⟩ : S64), (⟨y332⟩ : S64)] : List (S64))) := ⟨_, rfl⟩
              replace H : (if y310.length + y335.length < 5864062014805 then ((some (y310 ++ y335 : List (S64))).bind fun y338 => (if 0 ≤ (wrap64 (t295 + 1)) then (if (wrap64 (t295 + 1)) ≤ (t279.length : Int) then ((some (t279.drop ((wrap64 (t295 + 1)) : Int).toNat : List (S64))).bind fun y341 => (if y338.length + y341.length < 5864062014805 then (some ((y338 ++ y341), true)) else (none))) else (none)) else (none))) else (none)) = some (r1, r2) := by first | (rw [hy335]; exact H) | exact H
              have Ny335 := ak hy335
              clear hy335
              by_cases c50 : y310.length + y335.length < 5864062014805
              ·rw [if_pos c50] at H
               have LMc50 := ak c50
               clear c50
               obtain ⟨y338, hy338⟩ : ∃ y_ : List (S64), y_ = (y310 ++ y335) := ⟨_, rfl⟩
               replace H : (if 0 ≤ (wrap64 (t295 + 1)) then (if (wrap64 (t295 + 1)) ≤ (t279.length : Int) then ((some (t279.drop ((wrap64 (t295 + 1)) : Int).toNat : List (S64))).bind fun y341 => (if y338.length + y341.length < 5864062014805 then (some ((y338 ++ y341), true)) else (none))) else (none)) else (none)) = some (r1, r2) := by first | (rw [hy338]; exact H) | exact H
               have Ny338 := ak hy338
               clear hy338
               obtain ⟨ji51, hji51⟩ : ∃ j_ : Int, (wrap64 (t295 + 1)) = j_ := ⟨_, rfl⟩
               replace H : (if 0 ≤ (ji51) then (if (ji51) ≤ (t279.length : Int) then ((some (t279.drop ((ji51) : Int).toNat : List (S64))).bind fun y341 => (if y338.length + y341.length < 5864062014805 then (some ((y338 ++ y341), true)) else (none))) else (none)) else (none)) = some (r1, r2) := by first | (rw [hji51] at H; exact H) | (simp only [hji51] at H ⊢; exact H)
               (try rw [hji51] at A16)
               (try rw [hji51] at A24)
               (try rw [hji51] at A25)
               (try rw [hji51] at A27)
               (try rw [hji51] at A30)
               have hji51w : (IntKind.i64.wrap (t295 + 1)) = ji51 := (i64_w _).trans hji51
               by_cases c52 : 0 ≤ (ji51)
               ·rw [if_pos c52] at H
                have c52b0 := eq_true c52
                have c52b1 : decide (0 ≤ (ji51)) = true := decide_eq_true c52
                clear c52
                by_cases c53 : (ji51) ≤ (t279.length : Int)
                ·rw [if_pos c53] at H
                 have c53b0 := eq_true c53
                 have c53b1 : decide ((ji51) ≤ (t279.length : Int)) = true := decide_eq_true c53
                 clear c53
                 obtain ⟨y341, hy341⟩ : ∃ y_ : List (S64), y_ = (t279.drop ((ji51) : Int).toNat) := ⟨_, rfl⟩
                 replace H : (if y338.length + y341.length < 5864062014805 then (some ((y338 ++ y341), true)) else (none)) = some (r1, r2) := by first | (rw [hy341]; exact H) | exact H
                 have Ny341 := ak hy341
                 clear hy341
                 by_cases c54 : y338.length + y341.length < 5864062014805
                 ·rw [if_pos c54] at H
                  have LMc54 := ak c54
                  clear c54
                  obtain ⟨y346, hy346⟩ : ∃ y_ : List (S64), y_ = (y338 ++ y341) := ⟨_, rfl⟩
                  replace H : (some (y346, true)) = some (r1, r2) := by first | (rw [hy346]; exact H) | exact H
                  have Ny346 := ak hy346
                  clear hy346
                  simp only [Option.some.injEq, Prod.mk.injEq] at H
                  obtain ⟨rfl, rfl⟩ := H
                  try go_wp2_with (first | ((with_reducible refine gate_callee (f := 82) rfl ?_); refine goesL_ (some 30) rfl rfl Try.func82 (by kernel_rfl) rfl #[.slice A0 l0.length c0] rfl (by (try simp only [List.map_toArray, List.map_cons, List.map_nil]); first | done | rfl | (simp only [List.length_drop, List.length_take]; rfl)) ?_; (with_reducible refine (spec_l6Copy.calls kj3 _ _ l0 t279 _ ?side1 ?side2 A16.out).mono ?_); (case side1 => repeat (first | exact (Kd.C_below HR0.out HB.out) | (with_reducible refine Kd.C_alloc ?_ _) | (with_reducible refine Kd.C_drewN ?_ _) | (with_reducible refine Kd.C_drew ?_))); (case side2 => exact HC0.out); rintro e w55 ⟨v280, rfl, ho0, hb⟩; refine ⟨_, rfl, ?_⟩; have HO281 := ak (Kd.N_lower (Kd.N_mono (ok' := fun k_ => (w.heap.size ≤ k_)) (Kd.S_N (Kd.S_bound ho0)) (fun k_ hk_ => (Nat.le_trans (below_size (by exact hopb HB.out)) hk_.2.1))) (below_size (by exact hopb HB.out))); replace HB := ak (below_step (by exact hopb HB.out) hb); (try clear hb); (try clear ho0)) | ((with_reducible refine gate_callee (f := 43) rfl ?_); refine goesL_ (some 44) rfl rfl Try.func43 (by kernel_rfl) rfl #[.slice A0 l0.length c0] rfl (by (try simp only [List.map_toArray, List.map_cons, List.map_nil]); first | done | rfl | (simp only [List.length_drop, List.length_take]; rfl)) ?_; (with_reducible refine (spec_PagesList.calls kj3 _ _ l0 t288 _ ?side1 ?side2 A24.out).mono ?_); (case side1 => repeat (first | exact (Kd.C_below HR0.out HB.out) | (with_reducible refine Kd.C_alloc ?_ _) | (with_reducible refine Kd.C_drewN ?_ _) | (with_reducible refine Kd.C_drew ?_))); (case side2 => exact HC0.out); rintro e w56 ⟨v289, rfl, ho0, hb⟩; refine ⟨_, rfl, ?_⟩; replace HO281 := ak (Kd.N_elder' (by (with_reducible repeat (first | apply Kd.N_alloc | apply Kd.N_drewN | apply Kd.N_drew)); exact HO281.out) (Kd.R_base ho0) hb); have HO290 := ak (Kd.R_lower (Kd.R_newM (M := fun k_ => (w.heap.size ≤ k_)) ho0 (below_size (by exact hopb HB.out)) (fun k_ h_ => h_)) (below_size (by exact hopb HB.out))); replace HB := ak (below_step (by exact hopb HB.out) hb); (try clear hb); (try clear ho0); obtain ⟨Ao57, co57, eo57⟩ := Kd.R_slice HO290.out; subst eo57) | ((with_reducible refine gate_callee (f := 83) rfl ?_); refine goesL_ (some 47) rfl rfl Try.func83 (by kernel_rfl) rfl #[.slice Ao57 t288.length co57, .string a1, .int .i64 a2] rfl (by (try simp only [List.map_toArray, List.map_cons, List.map_nil]); first | done | rfl | (simp only [List.length_drop, List.length_take]; rfl)) ?_; (with_reducible refine (spec_PairPut.calls kj3 _ _ t288 a1 a2 t291 true _ ?side1 ?side2 A25.out).mono ?_); (case side1 => repeat (first | exact (Kd.R_reads' HO290.out).2.2 | (with_reducible refine Kd.C_alloc ?_ _) | (with_reducible refine Kd.C_drewN ?_ _) | (with_reducible refine Kd.C_drew ?_))); (case side2 => exact (Kd.R_reads' HO290.out).2.1); rintro e w58 ⟨v293, rfl, ho0, hb⟩; refine ⟨_, rfl, ?_⟩; replace HO281 := ak (Kd.N_elder' (by (with_reducible repeat (first | apply Kd.N_alloc | apply Kd.N_drewN | apply Kd.N_drew)); exact HO281.out) (Kd.R_base ho0) hb); have HO294 := ak (Kd.R_lower (Kd.R_new' (Kd.R_newM (M := fun k_ => (w.heap.size ≤ k_)) ho0 (below_size (by exact hopb HB.out)) (fun k_ h_ => h_)) (Kd.R_lt (by (with_reducible repeat (first | apply Kd.R_alloc | apply Kd.R_drewN | apply Kd.R_drew)); exact HO290.out))) (below_size (by exact hopb HB.out))); replace HO290 := ak (Kd.R_elder' (by (with_reducible repeat (first | apply Kd.R_alloc | apply Kd.R_drewN | apply Kd.R_drew)); exact HO290.out) (Kd.R_base ho0) hb); replace HB := ak (below_step (by exact hopb HB.out) hb); (try clear hb); (try clear ho0)) | ((with_reducible refine gate_callee (f := 35) rfl ?_); refine goesL_ (some 55) rfl rfl Try.func35 (by kernel_rfl) rfl #[.slice A0 l0.length c0, .string a1] rfl (by (try simp only [List.map_toArray, List.map_cons, List.map_nil]); first | done | rfl | (simp only [List.length_drop, List.length_take]; rfl)) ?_; (with_reducible refine (spec_PageFind.calls kj3 _ _ l0 a1 t295 _ ?side1 ?side2 A27.out).mono ?_); (case side1 => repeat (first | exact (Kd.C_below HR0.out HB.out) | (with_reducible refine Kd.C_alloc ?_ _) | (with_reducible refine Kd.C_drewN ?_ _) | (with_reducible refine Kd.C_drew ?_))); (case side2 => exact HC0.out); rintro e w59 ⟨rfl, hb⟩; refine ⟨_, rfl, ?_⟩; replace HO281 := ak (Kd.N_below (by (with_reducible repeat (first | apply Kd.N_alloc | apply Kd.N_drewN | apply Kd.N_drew)); exact HO281.out) hb); replace HO290 := ak (Kd.R_below (by (with_reducible repeat (first | apply Kd.R_alloc | apply Kd.R_drewN | apply Kd.R_drew)); exact HO290.out) hb); replace HO294 := ak (Kd.R_below (by (with_reducible repeat (first | apply Kd.R_alloc | apply Kd.R_drewN | apply Kd.R_drew)); exact HO294.out) hb); replace HB := ak (below_step (by exact hopb HB.out) hb); (try clear hb); have p296 : 0 ≤ (t295 : Int) := of_decide_eq_true (by assumption); have q296 : t295 < (l0.length : Int) := of_decide_eq_true (by assumption); obtain ⟨ad296, A296_0, c296_0, e296, hx296_0, hl296_0, hi296_0⟩ := at_T64 HR0.out t295 p296 q296; cases e296; replace hx296_0 := (HB.out.cell (World.block_lt_of_cell? w _ hx296_0)).trans hx296_0; have HR296_0 := ak hi296_0; have HC296_0 := ak hl296_0; clear hi296_0 hl296_0; replace p296 := eq_true p296; replace q296 := eq_true q296) | ((with_reducible refine gate_callee (f := 83) rfl ?_); refine goesL_ (some 64) rfl rfl Try.func83 (by kernel_rfl) rfl #[.slice A296_0 ((rd_T64 l0 t295).f0).length c296_0, .string a1, .int .i64 a2] rfl (by (try simp only [List.map_toArray, List.map_cons, List.map_nil]); first | done | rfl | (simp only [List.length_drop, List.length_take]; rfl)) ?_; (with_reducible refine (spec_PairPut.calls kj3 _ _ ((rd_T64 l0 t295).f0) a1 a2 t297 t298 _ ?side1 ?side2 A30.out).mono ?_); (case side1 => repeat (first | exact (Kd.C_below HR296_0.out HB.out) | (with_reducible refine Kd.C_alloc ?_ _) | (with_reducible refine Kd.C_drewN ?_ _) | (with_reducible refine Kd.C_drew ?_))); (case side2 => exact HC296_0.out); rintro e w60 ⟨v299, rfl, ho0, hb⟩; refine ⟨_, rfl, ?_⟩; replace HO281 := ak (Kd.N_elder' (by (with_reducible repeat (first | apply Kd.N_alloc | apply Kd.N_drewN | apply Kd.N_drew)); exact HO281.out) (Kd.R_base ho0) hb); have HO300 := ak (Kd.R_lower (Kd.R_new' (Kd.R_new' (Kd.R_newM (M := fun k_ => (w.heap.size ≤ k_)) ho0 (below_size (by exact hopb HB.out)) (fun k_ h_ => h_)) (Kd.R_lt (by (with_reducible repeat (first | apply Kd.R_alloc | apply Kd.R_drewN | apply Kd.R_drew)); exact HO290.out))) (Kd.R_lt (by (with_reducible repeat (first | apply Kd.R_alloc | apply Kd.R_drewN | apply Kd.R_drew)); exact HO294.out))) (below_size (by exact hopb HB.out))); replace HO290 := ak (Kd.R_elder' (by (with_reducible repeat (first | apply Kd.R_alloc | apply Kd.R_drewN | apply Kd.R_drew)); exact HO290.out) (Kd.R_base ho0) hb); replace HO294 := ak (Kd.R_elder' (by (with_reducible repeat (first | apply Kd.R_alloc | apply Kd.R_drewN | apply Kd.R_drew)); exact HO294.out) (Kd.R_base ho0) hb); replace HB := ak (below_step (by exact hopb HB.out) hb); (try clear hb); (try clear ho0); obtain ⟨Ao61, co61, eo61⟩ := Kd.R_slice HO300.out; subst eo61) | ((with_reducible refine gate_dst (N := 76) rfl ?_); refine Kd.N_lit k64 _ 64 ?hg (N' := 76) ?hd (xs := ([] : List (S64))) (inner := []) (ok := (fun k_ => (w.heap.size ≤ k_) ∧ some k_ ≠ (v280 : Value).ownBlock ∧ some k_ ≠ (.slice Ao57 t288.length co57 : Value).ownBlock ∧ some k_ ≠ (v293 : Value).ownBlock ∧ some k_ ≠ (.slice Ao61 t297.length co61 : Value).ownBlock)) (okp := (fun k_ => (w.heap.size ≤ k_) ∧ some k_ ≠ (v280 : Value).ownBlock ∧ some k_ ≠ (.slice Ao57 t288.length co57 : Value).ownBlock ∧ some k_ ≠ (v293 : Value).ownBlock ∧ some k_ ≠ (.slice Ao61 t297.length co61 : Value).ownBlock)) ?hr ?hp (fun _ hk => hk) ((show ∀ k_, w60.heap.size ≤ k_ → (fun k_ => (w.heap.size ≤ k_) ∧ some k_ ≠ (v280 : Value).ownBlock ∧ some k_ ≠ (.slice Ao57 t288.length co57 : Value).ownBlock ∧ some k_ ≠ (v293 : Value).ownBlock ∧ some k_ ≠ (.slice Ao61 t297.length co61 : Value).ownBlock) k_ from fun k_ hk => ⟨(Nat.le_trans (below_size (by exact hopb HB.out)) hk), Kd.fresh' (Kd.N_lt (by (with_reducible repeat (first | apply Kd.N_alloc | apply Kd.N_drewN | apply Kd.N_drew)); exact HO281.out)) k_ hk, Kd.fresh' (Kd.R_lt (by (with_reducible repeat (first | apply Kd.R_alloc | apply Kd.R_drewN | apply Kd.R_drew)); exact HO290.out)) k_ hk, Kd.fresh' (Kd.R_lt (by (with_reducible repeat (first | apply Kd.R_alloc | apply Kd.R_drewN | apply Kd.R_drew)); exact HO294.out)) k_ hk, Kd.fresh' (Kd.R_lt (by (with_reducible repeat (first | apply Kd.R_alloc | apply Kd.R_drewN | apply Kd.R_drew)); exact HO300.out)) k_ hk⟩) _ (Nat.le_refl _)) (Below.refl _ _) (Nat.le_refl _) (by simp) ?_; (case hd => rfl); (case hg => rfl); (case hr => first | (go_simp; done) | (go_simp; rfl)); (case hp => exact (Reps.none _ _)); intro v303 w62 ho63 hb hg_ hnew_; clear hg_ hnew_; (first | rw [← Ny302.out] at ho63 | (simp only [Int.reduceToNat] at ho63; rw [← Ny302.out] at ho63)); replace HO281 := ak (Kd.N_elder' (by (with_reducible repeat (first | apply Kd.N_alloc | apply Kd.N_drewN | apply Kd.N_drew)); exact HO281.out) (Kd.N_base ho63) hb); replace HO290 := ak (Kd.R_below (by (with_reducible repeat (first | apply Kd.R_alloc | apply Kd.R_drewN | apply Kd.R_drew)); exact HO290.out) hb); replace HO294 := ak (Kd.R_below (by (with_reducible repeat (first | apply Kd.R_alloc | apply Kd.R_drewN | apply Kd.R_drew)); exact HO294.out) hb); replace HO300 := ak (Kd.R_below (by (with_reducible repeat (first | apply Kd.R_alloc | apply Kd.R_drewN | apply Kd.R_drew)); exact HO300.out) hb); have HO304 := ak (Kd.N_lower ho63 (below_size (by exact hopb HB.out))); replace HB := ak (below_step (by exact hopb HB.out) hb); clear hb ho63; obtain ⟨Ao65, co65, eo65⟩ := Kd.N_slice HO281.out; subst eo65; have q64 : (t295 : Int) ≤ ((t279.length : Int) : Int) := of_decide_eq_true (by assumption); obtain ⟨i064, hi064, _, hsz64, _⟩ := info_parts info64; have hroom64 : t279.length ≤ co65 := (Kd.N_reads' HO281.out).2.1; have hC64 : Kd.F k64 _ _ Ao65 t279.length t279 := (Kd.V_at (base := w.heap.size) (Kd.N_V HO281.out)).2.2; have hcut64 := cut_to (P := Try.prog) 34 64 .i64 Try.underlying34 hi064 Ao65 t279.length co65 t295 (of_decide_eq_true (by assumption)) q64 hroom64; have hr64 := Kd.F_take (m := (t295 : Int).toNat) hC64 (by omega); have hy64 : y305.length = (t295 : Int).toNat := (by rw [Ny305.out, List.length_take]; omega); rw [← Ny305.out] at hr64; rw [← hy64] at hcut64; have HO309 := ak (show Kd.V k64 64 _ w.heap.size _ (.slice Ao65 y305.length co65) y305 from Kd.V_mk (by omega) hr64); have HC309 := ak (show y305.length ≤ co65 from by omega); clear hr64 hC64 hroom64 hi064 hsz64; have KY64 := ak hy64; clear hy64; replace q64 := eq_true q64) | ((with_reducible refine gate_builtin (b := .append) (xs := #[.tmp 76, .tmp 79]) rfl ?_); at_builtin; refine Kd.N_append_rows k64 (w0 := w) w.heap.size rfl (.tmp 76) (.tmp 79) 34 64 (.agg #[(.slice none 0 0)]) 24 rfl Try.underlying34 info64 rfl (by decide) (by omega) v303 y302 y305 _ _ _ (fun k_ => (w.heap.size ≤ k_) ∧ some k_ ≠ (.slice Ao57 t288.length co57 : Value).ownBlock ∧ some k_ ≠ (v293 : Value).ownBlock ∧ some k_ ≠ (.slice Ao61 t297.length co61 : Value).ownBlock) (fun k_ => ((fun k_ => (w.heap.size ≤ k_) ∧ some k_ ≠ (.slice Ao57 t288.length co57 : Value).ownBlock ∧ some k_ ≠ (v293 : Value).ownBlock ∧ some k_ ≠ (.slice Ao61 t297.length co61 : Value).ownBlock)) k_ ∧ some k_ ≠ (v303 : Value).ownBlock) rfl rfl ?aO ?aR (fun _ hk => hk) ?aF ?aB ?aS ?aL ?_; (case aR => exact (by skip; exact Kd.V_F (Kd.V_mono (ok' := (fun k_ => ((fun k_ => (w.heap.size ≤ k_) ∧ some k_ ≠ (.slice Ao57 t288.length co57 : Value).ownBlock ∧ some k_ ≠ (v293 : Value).ownBlock ∧ some k_ ≠ (.slice Ao61 t297.length co61 : Value).ownBlock)) k_ ∧ some k_ ≠ (v303 : Value).ownBlock)) (HO309.out) (fun k_ hk => ⟨⟨hk.1.1.1.1, ⟨hk.1.1.1.2, ⟨hk.1.1.2, hk.1.2⟩⟩⟩, hk.2⟩)))); (case aB => exact (by exact hopb HB.out)); (case aF => exact (fun k_ hk => ⟨(Nat.le_trans (below_size (by exact hopb HB.out)) hk), Kd.fresh' (Kd.R_lt (by (with_reducible repeat (first | apply Kd.R_alloc | apply Kd.R_drewN | apply Kd.R_drew)); exact HO290.out)) k_ hk, Kd.fresh' (Kd.R_lt (by (with_reducible repeat (first | apply Kd.R_alloc | apply Kd.R_drewN | apply Kd.R_drew)); exact HO294.out)) k_ hk, Kd.fresh' (Kd.R_lt (by (with_reducible repeat (first | apply Kd.R_alloc | apply Kd.R_drewN | apply Kd.R_drew)); exact HO300.out)) k_ hk⟩)); (case aO => exact (by (with_reducible repeat (first | apply Kd.N_alloc | apply Kd.N_drewN | apply Kd.N_drew)); exact Kd.N_mono HO304.out (fun _ hk => ⟨hk.1, ⟨hk.2.2.1, ⟨hk.2.2.2.1, hk.2.2.2.2⟩⟩⟩))); (case aS => exact (below_size (by exact hopb HB.out))); (case aL => have := LMc45.out; omega); intro v311 w66 ho hb hg hat; rw [← Ny310.out] at ho; replace HO281 := ak (Kd.N_afterv (ok := (fun k_ => (w.heap.size ≤ k_) ∧ some k_ ≠ (.slice Ao57 t288.length co57 : Value).ownBlock ∧ some k_ ≠ (v293 : Value).ownBlock ∧ some k_ ≠ (.slice Ao61 t297.length co61 : Value).ownBlock)) (by (with_reducible repeat (first | apply Kd.N_alloc | apply Kd.N_drewN | apply Kd.N_drew)); exact Kd.N_mono HO281.out (fun _ hk => ⟨⟨hk.1.1.1.1, ⟨hk.1.1.1.2, ⟨hk.1.1.2, hk.1.2⟩⟩⟩, hk.2⟩)) hg hat); replace HO290 := ak (Kd.R_over' (by (with_reducible repeat (first | apply Kd.R_alloc | apply Kd.R_drewN | apply Kd.R_drew)); exact HO290.out) (Kd.N_typed (by (with_reducible repeat (first | apply Kd.N_alloc | apply Kd.N_drewN | apply Kd.N_drew)); exact HO304.out)) (by decide) hg); replace HO294 := ak (Kd.R_over' (by (with_reducible repeat (first | apply Kd.R_alloc | apply Kd.R_drewN | apply Kd.R_drew)); exact HO294.out) (Kd.N_typed (by (with_reducible repeat (first | apply Kd.N_alloc | apply Kd.N_drewN | apply Kd.N_drew)); exact HO304.out)) (by decide) hg); replace HO300 := ak (Kd.R_over' (by (with_reducible repeat (first | apply Kd.R_alloc | apply Kd.R_drewN | apply Kd.R_drew)); exact HO300.out) (Kd.N_typed (by (with_reducible repeat (first | apply Kd.N_alloc | apply Kd.N_drewN | apply Kd.N_drew)); exact HO304.out)) (by decide) hg); replace HO309 := ak (Kd.V_afterv (ok := (fun k_ => (w.heap.size ≤ k_) ∧ some k_ ≠ (.slice Ao57 t288.length co57 : Value).ownBlock ∧ some k_ ≠ (v293 : Value).ownBlock ∧ some k_ ≠ (.slice Ao61 t297.length co61 : Value).ownBlock)) (by (with_reducible repeat (first | apply Kd.V_alloc | apply Kd.V_drewN | apply Kd.V_drew)); exact Kd.V_mono HO309.out (fun _ hk => ⟨⟨hk.1.1.1.1, ⟨hk.1.1.1.2, ⟨hk.1.1.2, hk.1.2⟩⟩⟩, hk.2⟩)) hg hat); replace HB := ak (hb); have HO312 := ak (ho); clear HO304; clear ho hb hg hat; obtain ⟨Ao67, co67, eo67⟩ := Kd.N_slice HO312.out; subst eo67))
                  replace HO281 := ak (Kd.N_drew HO281.out)
                  replace HO290 := ak (Kd.R_drew HO290.out)
                  replace HO294 := ak (Kd.R_drew HO294.out)
                  replace HO300 := ak (Kd.R_drew HO300.out)
                  replace HO309 := ak (Kd.V_drew HO309.out)
                  replace HO312 := ak (Kd.N_drew HO312.out)
                  replace HB := ak (below_drew1 HB.out)
                  have q69 : (2 : Int) ≤ ((t297.length : Int) : Int) := of_decide_eq_true (by assumption)
                  obtain ⟨i069, hi069, _, hsz69, _⟩ := info_parts info71
                  have hroom69 : t297.length ≤ co61 := (Kd.R_reads' HO300.out).2.1
                  have hC69 : Kd.F k71 _ _ Ao61 t297.length t297 := (Kd.V_at (base := w.heap.size) (Kd.R_V (Kd.R_apart' (Kd.R_apart' (HO300.out) (Kd.N_typed HO281.out) (by decide)) (Kd.N_typed HO312.out) (by decide)))).2.2
                  have hcut69 := cut_to (P := Try.prog) 32 71 .i64 Try.underlying32 hi069 Ao61 t297.length co61 2 (by omega) q69 hroom69
                  have hr69 := Kd.F_take (m := 2) hC69 (by omega)
                  have hy69 : y316.length = (2 : Int).toNat := (by rw [Ny316.out, List.length_take]; omega)
                  rw [← Ny316.out] at hr69
                  rw [← hy69] at hcut69
                  have HO320 := ak (show Kd.V k71 71 _ w.heap.size _ (.slice Ao61 y316.length co61) y316 from Kd.V_mk (by omega) hr69)
                  have HC320 := ak (show y316.length ≤ co61 from by omega)
                  clear hr69 hC69 hroom69 hi069 hsz69
                  have KY69 := ak hy69
                  clear hy69
                  replace q69 := eq_true q69
                  have q70 : (2 : Int) ≤ ((t297.length : Int) : Int) := of_decide_eq_true (by assumption)
                  obtain ⟨i070, hi070, _, hsz70, _⟩ := info_parts info71
                  have hroom70 : t297.length ≤ co61 := (Kd.R_reads' HO300.out).2.1
                  have hC70 : Kd.F k71 _ _ Ao61 t297.length t297 := (Kd.V_at (base := w.heap.size) (Kd.R_V (Kd.R_apart' (Kd.R_apart' (HO300.out) (Kd.N_typed HO281.out) (by decide)) (Kd.N_typed HO312.out) (by decide)))).2.2
                  have hcut70 := cut_from (P := Try.prog) 32 71 .i64 Try.underlying32 hi070 2 hsz70 Ao61 t297.length co61 2 (by omega) q70
                  have hr70 := Kd.F_cut (m := (2 : Int).toNat) (c := co61) hC70 (by omega) hroom70
                  obtain ⟨A70, hA70⟩ : ∃ A1, A1 = (if co61 = (2 : Int).toNat then Ao61 else (Ao61 : Option Addr).map (·.add ((2 : Int).toNat * 2))) := ⟨_, rfl⟩
                  obtain ⟨c70, hc70⟩ : ∃ c1, c1 = co61 - (2 : Int).toNat := ⟨_, rfl⟩
                  have hy70 : y327.length = t297.length - (2 : Int).toNat := (by rw [Ny327.out, List.length_drop] <;> omega)
                  rw [show (t297).drop (2 : Int).toNat = y327 from Ny327.out.symm] at hr70
                  replace hr70 : Kd.F k71 _ _ A70 y327.length y327 := (by rw [hA70]; exact hr70)
                  rw [← hy70, ← hA70, ← hc70] at hcut70
                  have HO331 := ak (show Kd.V k71 71 _ w.heap.size _ (.slice A70 y327.length c70) y327 from Kd.V_mk (by rw [hy70, hc70]; exact Nat.sub_le_sub_right hroom70 _) hr70)
                  have HC331 := ak (show y327.length ≤ c70 from by rw [hy70, hc70]; exact Nat.sub_le_sub_right hroom70 _)
                  clear hr70 hC70 hroom70 hi070 hsz70 hc70
                  have KY70 := ak hy70
                  have KA70 := ak hA70
                  clear hy70 hA70
                  replace q70 := eq_true q70
                  refine start_ (n := 14) (S := fun w' => True) (ds := []) #[U,U,U,U,U,U,U,U,U,U,U,U,U,U] (by kernel_rfl) rfl rfl trivial (fun hHeld => ?_); refine with_tabW spec_PagesPut.tab15 spec_PagesPut.bits15 (fun HT_ HW_ => ?_)
                  generalize w66.drew = w68 at HO281 HO290 HO294 HO300 HO309 HO312 HB HO320 HO331 hHeld ⊢
                  refine pure_ (i := 0) (N := some 81) (v := ?_) (a' := ?_) #[T,U,U,U,U,U,U,U,U,U,U,U,U,U] rfl rfl (any_of HT_.out (by kernel_rfl)) (fun _ _ _ h => h) (Or.inl ⟨by rfl, ?_⟩) ?_ ?_
                  rotate_left
                  ·intro w'
                   go_simp
                   with_reducible rfl
                  rotate_left
                  ·simp only [Act.put, lT, lZ, lS, i64_w, i32_w]
                   rfl
                  refine pure_ (i := 2) (N := some 83) (v := ?_) (a' := ?_) #[T,U,T,U,U,U,U,U,U,U,U,U,U,U] rfl rfl (any_of HT_.out (by kernel_rfl)) (fun _ _ _ h => h) (Or.inl ⟨by rfl, ?_⟩) ?_ ?_
                  rotate_left
                  ·intro w'
                   go_simp
                   with_reducible rfl
                  rotate_left
                  ·simp only [Act.put, lT, lZ, lS, i64_w, i32_w]
                   rfl
                  refine pure_ (i := 3) (N := some 84) (v := ?_) (a' := ?_) #[T,U,T,T,U,U,U,U,U,U,U,U,U,U] rfl rfl (any_of HT_.out (by kernel_rfl)) (fun _ _ _ h => h) (Or.inl ⟨by rfl, ?_⟩) ?_ ?_
                  rotate_left
                  ·intro w'
                   go_simp
                   with_reducible rfl
                  rotate_left
                  ·simp only [Act.put, lT, lZ, lS, i64_w, i32_w]
                   rfl
                  refine pure_ (i := 7) (N := some 88) (v := ?_) (a' := ?_) #[T,U,T,T,U,U,U,T,U,U,U,U,U,U] rfl rfl (any_of HT_.out (by kernel_rfl)) (fun _ _ _ h => h) (Or.inl ⟨by rfl, ?_⟩) ?_ ?_
                  rotate_left
                  ·intro w'
                   go_simp
                   with_reducible rfl
                  rotate_left
                  ·simp only [Act.put, lT, lZ, lS, i64_w, i32_w]
                   rfl
                  refine pure_ (i := 8) (N := some 89) (v := ?_) (a' := ?_) #[T,U,T,T,U,U,U,T,T,U,U,U,U,U] rfl rfl (any_of HT_.out (by kernel_rfl)) (fun _ _ _ h => h) (Or.inl ⟨by rfl, ?_⟩) ?_ ?_
                  rotate_left
                  ·intro w'
                   go_simp
                   with_reducible rfl
                  rotate_left
                  ·simp only [Act.put, lT, lZ, lS, i64_w, i32_w]
                   rfl
                  refine join_ (σ := Value × Value × Value) 5 #[T,T,T,T,T,T,T,T,T,U,U,U,U,U] (fun s_ => [(82, s_.1), (85, s_.2.1), (87, s_.2.2), (86, .agg #[s_.2.1])]) (fun s_ w' => (Kd.N k64 64 w' w.heap.size (fun k_ => (w.heap.size ≤ k_) ∧ some k_ ≠ (.slice Ao57 t288.length co57 : Value).ownBlock ∧ some k_ ≠ (v293 : Value).ownBlock ∧ some k_ ≠ (.slice Ao61 t297.length co61 : Value).ownBlock ∧ some k_ ≠ (.slice Ao67 y310.length co67 : Value).ownBlock ∧ some k_ ≠ (s_.2.1 : Value).ownBlock ∧ some k_ ≠ (s_.2.2 : Value).ownBlock) (.slice Ao65 t279.length co65) t279) ∧ (Kd.R k71 71 w' w.heap.size (fun k_ => (w.heap.size ≤ k_) ∧ some k_ ≠ (v293 : Value).ownBlock ∧ some k_ ≠ (.slice Ao61 t297.length co61 : Value).ownBlock ∧ some k_ ≠ (s_.2.1 : Value).ownBlock ∧ some k_ ≠ (s_.2.2 : Value).ownBlock) (.slice Ao57 t288.length co57) t288) ∧ (Kd.R k71 71 w' w.heap.size (fun k_ => (w.heap.size ≤ k_) ∧ some k_ ≠ (.slice Ao57 t288.length co57 : Value).ownBlock ∧ some k_ ≠ (.slice Ao61 t297.length co61 : Value).ownBlock ∧ some k_ ≠ (s_.2.1 : Value).ownBlock ∧ some k_ ≠ (s_.2.2 : Value).ownBlock) v293 t291) ∧ (Kd.R k71 71 w' w.heap.size (fun k_ => (w.heap.size ≤ k_) ∧ some k_ ≠ (.slice Ao57 t288.length co57 : Value).ownBlock ∧ some k_ ≠ (v293 : Value).ownBlock ∧ some k_ ≠ (s_.2.1 : Value).ownBlock ∧ some k_ ≠ (s_.2.2 : Value).ownBlock) (.slice Ao61 t297.length co61) t297) ∧ (Kd.V k64 64 w' w.heap.size (fun k_ => (w.heap.size ≤ k_) ∧ some k_ ≠ (.slice Ao57 t288.length co57 : Value).ownBlock ∧ some k_ ≠ (v293 : Value).ownBlock ∧ some k_ ≠ (.slice Ao61 t297.length co61 : Value).ownBlock ∧ some k_ ≠ (.slice Ao67 y310.length co67 : Value).ownBlock ∧ some k_ ≠ (s_.2.1 : Value).ownBlock ∧ some k_ ≠ (s_.2.2 : Value).ownBlock) (.slice Ao65 y305.length co65) y305) ∧ (Kd.N k64 64 w' w.heap.size (fun k_ => (w.heap.size ≤ k_) ∧ some k_ ≠ (.slice Ao57 t288.length co57 : Value).ownBlock ∧ some k_ ≠ (v293 : Value).ownBlock ∧ some k_ ≠ (.slice Ao61 t297.length co61 : Value).ownBlock ∧ some k_ ≠ (s_.2.1 : Value).ownBlock ∧ some k_ ≠ (s_.2.2 : Value).ownBlock) (.slice Ao67 y310.length co67) y310) ∧ (Kd.V k71 71 w' w.heap.size (fun k_ => (w.heap.size ≤ k_) ∧ some k_ ≠ (.slice Ao65 t279.length co65 : Value).ownBlock ∧ some k_ ≠ (.slice Ao57 t288.length co57 : Value).ownBlock ∧ some k_ ≠ (v293 : Value).ownBlock ∧ some k_ ≠ (.slice Ao67 y310.length co67 : Value).ownBlock ∧ some k_ ≠ (s_.2.1 : Value).ownBlock ∧ some k_ ≠ (s_.2.2 : Value).ownBlock) (.slice Ao61 y316.length co61) y316) ∧ (Kd.R k71 71 w' w.heap.size (fun k_ => (w.heap.size ≤ k_) ∧ some k_ ≠ (.slice Ao57 t288.length co57 : Value).ownBlock ∧ some k_ ≠ (v293 : Value).ownBlock ∧ some k_ ≠ (.slice Ao61 t297.length co61 : Value).ownBlock ∧ some k_ ≠ (s_.2.2 : Value).ownBlock) s_.2.1 y321) ∧ (Kd.R k71 71 w' w.heap.size (fun k_ => (w.heap.size ≤ k_) ∧ some k_ ≠ (.slice Ao57 t288.length co57 : Value).ownBlock ∧ some k_ ≠ (v293 : Value).ownBlock ∧ some k_ ≠ (.slice Ao61 t297.length co61 : Value).ownBlock ∧ some k_ ≠ (s_.2.1 : Value).ownBlock) s_.2.2 y324) ∧ (Kd.V k71 71 w' w.heap.size (fun k_ => (w.heap.size ≤ k_) ∧ some k_ ≠ (.slice Ao65 t279.length co65 : Value).ownBlock ∧ some k_ ≠ (.slice Ao57 t288.length co57 : Value).ownBlock ∧ some k_ ≠ (v293 : Value).ownBlock ∧ some k_ ≠ (.slice Ao67 y310.length co67 : Value).ownBlock ∧ some k_ ≠ (s_.2.1 : Value).ownBlock ∧ some k_ ≠ (s_.2.2 : Value).ownBlock) (.slice A70 y327.length c70) y327) ∧ (Below w.heap.size w w')) ?_ ?_
                  rotate_left
                  ·intro hCont
                   refine two_ (i := 1) (j := 6) (Ni := some 82) (Nj := some 87) #[T,T,T,T,U,U,U,T,T,U,U,U,U,U] #[T,U,T,T,U,U,T,T,T,U,U,U,U,U] rfl rfl rfl rfl (two_of HT_.out (by kernel_rfl)) (by decide) (by decide) (fun K hK => ?_) (fun K hK => ?_)
                   ·skip
                    refine Kd.R_lit_step k71 _ 71 ?hg (N := 82) ?hd (xs := ([] : List (S71))) (inner := []) (ok := fun _ => True) (okp := fun _ => True) ?hr ?hp (fun _ hk => hk) trivial (Below.refl _ _) (Nat.le_refl _) (by simp) ?_; (case hd => rfl); (case hg => rfl); (case hr => first | (go_simp; done) | (go_simp; rfl)); (case hp => exact (Reps.none _ _))
                    intro v314 w71 ho72 hb hg_ hnew_
                    clear hg_ hnew_
                    (first | rw [← Ny313.out] at ho72 | (simp only [Int.reduceToNat] at ho72; rw [← Ny313.out] at ho72))
                    replace HO281 := ak (Kd.N_elder' (by (with_reducible repeat (first | apply Kd.N_alloc | apply Kd.N_drewN | apply Kd.N_drew)); exact HO281.out) (Kd.R_base ho72) hb)
                    replace HO309 := ak (Kd.V_elder' (by (with_reducible repeat (first | apply Kd.V_alloc | apply Kd.V_drewN | apply Kd.V_drew)); exact HO309.out) (Kd.R_base ho72) hb)
                    replace HO312 := ak (Kd.N_elder' (by (with_reducible repeat (first | apply Kd.N_alloc | apply Kd.N_drewN | apply Kd.N_drew)); exact HO312.out) (Kd.R_base ho72) hb)
                    replace HO320 := ak (Kd.V_elder' (by (with_reducible repeat (first | apply Kd.V_alloc | apply Kd.V_drewN | apply Kd.V_drew)); exact HO320.out) (Kd.R_base ho72) hb)
                    replace HO331 := ak (Kd.V_elder' (by (with_reducible repeat (first | apply Kd.V_alloc | apply Kd.V_drewN | apply Kd.V_drew)); exact HO331.out) (Kd.R_base ho72) hb)
                    have HO315 := ak (Kd.R_lower (Kd.R_new' (Kd.R_new' (Kd.R_new' (Kd.R_newM (M := fun k_ => (w.heap.size ≤ k_)) ho72 (below_size (by exact hopb HB.out)) (fun k_ h_ => h_)) (Kd.R_lt (by (with_reducible repeat (first | apply Kd.R_alloc | apply Kd.R_drewN | apply Kd.R_drew)); exact HO290.out))) (Kd.R_lt (by (with_reducible repeat (first | apply Kd.R_alloc | apply Kd.R_drewN | apply Kd.R_drew)); exact HO294.out))) (Kd.R_lt (by (with_reducible repeat (first | apply Kd.R_alloc | apply Kd.R_drewN | apply Kd.R_drew)); exact HO300.out))) (below_size (by exact hopb HB.out)))
                    replace HO290 := ak (Kd.R_elder' (by (with_reducible repeat (first | apply Kd.R_alloc | apply Kd.R_drewN | apply Kd.R_drew)); exact HO290.out) (Kd.R_base ho72) hb)
                    replace HO294 := ak (Kd.R_elder' (by (with_reducible repeat (first | apply Kd.R_alloc | apply Kd.R_drewN | apply Kd.R_drew)); exact HO294.out) (Kd.R_base ho72) hb)
                    replace HO300 := ak (Kd.R_elder' (by (with_reducible repeat (first | apply Kd.R_alloc | apply Kd.R_drewN | apply Kd.R_drew)); exact HO300.out) (Kd.R_base ho72) hb)
                    replace HB := ak (below_step (by exact hopb HB.out) hb)
                    clear hb ho72
                    refine hK.out _ _ trivial (fun hHeld => ?_)
                    clear hK K
                    refine norm_ (a' := ?_) ?_ ?_
                    rotate_left
                    ·show Act.put _ (some 82) _ = _
                     simp only [Act.put, lT, lZ, lS, i64_w, i32_w]
                     rfl
                    refine two_ (i := 4) (j := 6) (Ni := some 85) (Nj := some 87) #[T,T,T,T,T,U,U,T,T,U,U,U,U,U] #[T,T,T,T,U,U,T,T,T,U,U,U,U,U] rfl rfl rfl rfl (two_of HT_.out (by kernel_rfl)) (by decide) (by decide) (fun K hK => ?_) (fun K hK => ?_)
                    ·skip
                     refine Kd.R_append_rows_step k71 (w0 := w) w.heap.size (by rfl) (.tmp 82) (.tmp 84) 32 71 (.agg #[(.string ⟨#[]⟩), (.int .i64 0)]) 24 rfl Try.underlying32 info71 rfl (by decide) (by omega) v314 y313 y316 _ _ _ (fun k_ => (w.heap.size ≤ k_) ∧ some k_ ≠ (.slice Ao57 t288.length co57 : Value).ownBlock ∧ some k_ ≠ (v293 : Value).ownBlock ∧ some k_ ≠ (.slice Ao61 t297.length co61 : Value).ownBlock) (fun _ => False) rfl rfl ?aO ?aR (fun _ _ h => h) (fun _ h => h.elim) ?aF ?aB ?aS ?aL ?_
                     (case aR => repeat (first | exact (Kd.V_reads' HO320.out).2.2 | (with_reducible refine Kd.C_alloc ?_ _) | (with_reducible refine Kd.C_drewN ?_ _) | (with_reducible refine Kd.C_drew ?_)))
                     (case aB => exact (by exact hopb HB.out))
                     (case aF => exact (fun k_ hk => ⟨(Nat.le_trans (below_size (by exact hopb HB.out)) hk), Kd.fresh' (Kd.R_lt (by (with_reducible repeat (first | apply Kd.R_alloc | apply Kd.R_drewN | apply Kd.R_drew)); exact HO290.out)) k_ hk, Kd.fresh' (Kd.R_lt (by (with_reducible repeat (first | apply Kd.R_alloc | apply Kd.R_drewN | apply Kd.R_drew)); exact HO294.out)) k_ hk, Kd.fresh' (Kd.R_lt (by (with_reducible repeat (first | apply Kd.R_alloc | apply Kd.R_drewN | apply Kd.R_drew)); exact HO300.out)) k_ hk⟩))
                     (case aO => exact (by (with_reducible repeat (first | apply Kd.R_alloc | apply Kd.R_drewN | apply Kd.R_drew)); exact Kd.R_mono HO315.out (fun _ hk => ⟨hk.1.1.1.1, ⟨hk.1.1.2, ⟨hk.1.2, hk.2⟩⟩⟩)))
                     (case aS => exact (below_size (by exact hopb HB.out)))
                     (case aL => have := LMc47.out; omega)
                     intro v322 w73 ho hb hg hat
                     rw [← Ny321.out] at ho
                     replace HO281 := ak (Kd.N_afterv (ok := (fun k_ => (w.heap.size ≤ k_) ∧ some k_ ≠ (.slice Ao57 t288.length co57 : Value).ownBlock ∧ some k_ ≠ (v293 : Value).ownBlock ∧ some k_ ≠ (.slice Ao61 t297.length co61 : Value).ownBlock ∧ some k_ ≠ (.slice Ao67 y310.length co67 : Value).ownBlock)) (by (with_reducible repeat (first | apply Kd.N_alloc | apply Kd.N_drewN | apply Kd.N_drew)); exact Kd.N_mono HO281.out (fun _ hk => ⟨⟨hk.1.1.1, ⟨hk.1.1.2.1, ⟨hk.1.1.2.2.1, ⟨hk.1.1.2.2.2, hk.1.2⟩⟩⟩⟩, hk.2⟩)) hg hat)
                     replace HO290 := ak (Kd.R_after (ok := (fun k_ => (w.heap.size ≤ k_) ∧ some k_ ≠ (v293 : Value).ownBlock ∧ some k_ ≠ (.slice Ao61 t297.length co61 : Value).ownBlock)) (by (with_reducible repeat (first | apply Kd.R_alloc | apply Kd.R_drewN | apply Kd.R_drew)); exact Kd.R_mono HO290.out (fun _ hk => ⟨⟨hk.1.1.1.1, ⟨hk.1.1.2, hk.1.2⟩⟩, hk.2⟩)) hg hat)
                     replace HO294 := ak (Kd.R_after (ok := (fun k_ => (w.heap.size ≤ k_) ∧ some k_ ≠ (.slice Ao57 t288.length co57 : Value).ownBlock ∧ some k_ ≠ (.slice Ao61 t297.length co61 : Value).ownBlock)) (by (with_reducible repeat (first | apply Kd.R_alloc | apply Kd.R_drewN | apply Kd.R_drew)); exact Kd.R_mono HO294.out (fun _ hk => ⟨⟨hk.1.1.1.1, ⟨hk.1.1.2, hk.1.2⟩⟩, hk.2⟩)) hg hat)
                     replace HO300 := ak (Kd.R_after (ok := (fun k_ => (w.heap.size ≤ k_) ∧ some k_ ≠ (.slice Ao57 t288.length co57 : Value).ownBlock ∧ some k_ ≠ (v293 : Value).ownBlock)) (by (with_reducible repeat (first | apply Kd.R_alloc | apply Kd.R_drewN | apply Kd.R_drew)); exact Kd.R_mono HO300.out (fun _ hk => ⟨⟨hk.1.1.1.1, ⟨hk.1.1.2, hk.1.2⟩⟩, hk.2⟩)) hg hat)
                     replace HO309 := ak (Kd.V_afterv (ok := (fun k_ => (w.heap.size ≤ k_) ∧ some k_ ≠ (.slice Ao57 t288.length co57 : Value).ownBlock ∧ some k_ ≠ (v293 : Value).ownBlock ∧ some k_ ≠ (.slice Ao61 t297.length co61 : Value).ownBlock ∧ some k_ ≠ (.slice Ao67 y310.length co67 : Value).ownBlock)) (by (with_reducible repeat (first | apply Kd.V_alloc | apply Kd.V_drewN | apply Kd.V_drew)); exact Kd.V_mono HO309.out (fun _ hk => ⟨⟨hk.1.1.1, ⟨hk.1.1.2.1, ⟨hk.1.1.2.2.1, ⟨hk.1.1.2.2.2, hk.1.2⟩⟩⟩⟩, hk.2⟩)) hg hat)
                     replace HO312 := ak (Kd.N_afterv (ok := (fun k_ => (w.heap.size ≤ k_) ∧ some k_ ≠ (.slice Ao57 t288.length co57 : Value).ownBlock ∧ some k_ ≠ (v293 : Value).ownBlock ∧ some k_ ≠ (.slice Ao61 t297.length co61 : Value).ownBlock)) (by (with_reducible repeat (first | apply Kd.N_alloc | apply Kd.N_drewN | apply Kd.N_drew)); exact HO312.out) hg hat)
                     replace HO320 := ak (Kd.V_afterv (ok := (fun k_ => (w.heap.size ≤ k_) ∧ some k_ ≠ (.slice Ao65 t279.length co65 : Value).ownBlock ∧ some k_ ≠ (.slice Ao57 t288.length co57 : Value).ownBlock ∧ some k_ ≠ (v293 : Value).ownBlock ∧ some k_ ≠ (.slice Ao67 y310.length co67 : Value).ownBlock)) (by (with_reducible repeat (first | apply Kd.V_alloc | apply Kd.V_drewN | apply Kd.V_drew)); exact Kd.V_mono HO320.out (fun _ hk => ⟨⟨hk.1.1.1.1.1.1, ⟨hk.1.1.2, ⟨hk.1.1.1.1.2, ⟨hk.1.1.1.2, hk.1.2⟩⟩⟩⟩, hk.2⟩)) hg hat)
                     replace HO331 := ak (Kd.V_afterv (ok := (fun k_ => (w.heap.size ≤ k_) ∧ some k_ ≠ (.slice Ao65 t279.length co65 : Value).ownBlock ∧ some k_ ≠ (.slice Ao57 t288.length co57 : Value).ownBlock ∧ some k_ ≠ (v293 : Value).ownBlock ∧ some k_ ≠ (.slice Ao67 y310.length co67 : Value).ownBlock)) (by (with_reducible repeat (first | apply Kd.V_alloc | apply Kd.V_drewN | apply Kd.V_drew)); exact Kd.V_mono HO331.out (fun _ hk => ⟨⟨hk.1.1.1.1.1.1, ⟨hk.1.1.2, ⟨hk.1.1.1.1.2, ⟨hk.1.1.1.2, hk.1.2⟩⟩⟩⟩, hk.2⟩)) hg hat)
                     replace HB := ak (hb)
                     have HO323 := ak (ho)
                     clear HO315
                     clear ho hb hg hat
                     obtain ⟨Ao74, co74, eo74⟩ := Kd.R_slice HO323.out
                     (first | subst eo74 | (injection eo74 with f1_ f2_ f3_; have f4_ := f1_.symm; have f5_ := f3_.symm; clear f1_ f2_ f3_; subst f4_; subst f5_))
                     refine hK.out _ _ trivial (fun hHeld => ?_)
                     clear hK K
                     refine norm_ (a' := ?_) ?_ ?_
                     rotate_left
                     ·show Act.put _ (some 85) _ = _
                      simp only [Act.put, lT, lZ, lS, i64_w, i32_w]
                      rfl
                     refine pure_ (i := 5) (N := some 86) (v := ?_) (a' := ?_) #[T,T,T,T,T,T,U,T,T,U,U,U,U,U] rfl rfl (any_of HT_.out (by kernel_rfl)) (fun _ _ _ h => h) (Or.inl ⟨by rfl, ?_⟩) ?_ ?_
                     rotate_left
                     ·intro w'
                      go_simp
                      with_reducible rfl
                     rotate_left
                     ·simp only [Act.put, lT, lZ, lS, i64_w, i32_w]
                      rfl
                     refine one_ (i := 6) (N := some 87) #[T,T,T,T,T,T,T,T,T,U,U,U,U,U] rfl rfl (one_of HT_.out (by kernel_rfl)) (by decide) (fun K hK => ?_)
                     refine Kd.R_lit_step k71 _ 71 ?hg (N := 87) ?hd (xs := ([] : List (S71))) (inner := []) (ok := fun _ => True) (okp := fun _ => True) ?hr ?hp (fun _ hk => hk) trivial (Below.refl _ _) (Nat.le_refl _) (by simp) ?_; (case hd => rfl); (case hg => rfl); (case hr => first | (go_simp; done) | (go_simp; rfl)); (case hp => exact (Reps.none _ _))
                     intro v325 w75 ho76 hb hg_ hnew_
                     clear hg_ hnew_
                     (first | rw [← Ny324.out] at ho76 | (simp only [Int.reduceToNat] at ho76; rw [← Ny324.out] at ho76))
                     replace HO281 := ak (Kd.N_elder' (by (with_reducible repeat (first | apply Kd.N_alloc | apply Kd.N_drewN | apply Kd.N_drew)); exact HO281.out) (Kd.R_base ho76) hb)
                     replace HO309 := ak (Kd.V_elder' (by (with_reducible repeat (first | apply Kd.V_alloc | apply Kd.V_drewN | apply Kd.V_drew)); exact HO309.out) (Kd.R_base ho76) hb)
                     replace HO312 := ak (Kd.N_elder' (by (with_reducible repeat (first | apply Kd.N_alloc | apply Kd.N_drewN | apply Kd.N_drew)); exact HO312.out) (Kd.R_base ho76) hb)
                     replace HO320 := ak (Kd.V_elder' (by (with_reducible repeat (first | apply Kd.V_alloc | apply Kd.V_drewN | apply Kd.V_drew)); exact HO320.out) (Kd.R_base ho76) hb)
                     replace HO331 := ak (Kd.V_elder' (by (with_reducible repeat (first | apply Kd.V_alloc | apply Kd.V_drewN | apply Kd.V_drew)); exact HO331.out) (Kd.R_base ho76) hb)
                     have HO326 := ak (Kd.R_lower (Kd.R_new' (Kd.R_new' (Kd.R_new' (Kd.R_new' (Kd.R_newM (M := fun k_ => (w.heap.size ≤ k_)) ho76 (below_size (by exact hopb HB.out)) (fun k_ h_ => h_)) (Kd.R_lt (by (with_reducible repeat (first | apply Kd.R_alloc | apply Kd.R_drewN | apply Kd.R_drew)); exact HO290.out))) (Kd.R_lt (by (with_reducible repeat (first | apply Kd.R_alloc | apply Kd.R_drewN | apply Kd.R_drew)); exact HO294.out))) (Kd.R_lt (by (with_reducible repeat (first | apply Kd.R_alloc | apply Kd.R_drewN | apply Kd.R_drew)); exact HO300.out))) (Kd.R_lt (by (with_reducible repeat (first | apply Kd.R_alloc | apply Kd.R_drewN | apply Kd.R_drew)); exact HO323.out))) (below_size (by exact hopb HB.out)))
                     replace HO290 := ak (Kd.R_elder' (by (with_reducible repeat (first | apply Kd.R_alloc | apply Kd.R_drewN | apply Kd.R_drew)); exact HO290.out) (Kd.R_base ho76) hb)
                     replace HO294 := ak (Kd.R_elder' (by (with_reducible repeat (first | apply Kd.R_alloc | apply Kd.R_drewN | apply Kd.R_drew)); exact HO294.out) (Kd.R_base ho76) hb)
                     replace HO300 := ak (Kd.R_elder' (by (with_reducible repeat (first | apply Kd.R_alloc | apply Kd.R_drewN | apply Kd.R_drew)); exact HO300.out) (Kd.R_base ho76) hb)
                     replace HO323 := ak (Kd.R_elder' (by (with_reducible repeat (first | apply Kd.R_alloc | apply Kd.R_drewN | apply Kd.R_drew)); exact HO323.out) (Kd.R_base ho76) hb)
                     replace HB := ak (below_step (by exact hopb HB.out) hb)
                     clear hb ho76
                     refine hK.out _ _ trivial (fun hHeld => ?_)
                     clear hK K
                     refine norm_ (a' := ?_) ?_ ?_
                     rotate_left
                     ·show Act.put _ (some 87) _ = _
                      simp only [Act.put, lT, lZ, lS, i64_w, i32_w]
                      rfl
                     exact norm_ (by simp only [putAll, Act.put, lT, lZ, lS]) (hCont (v314, .slice Ao74 y321.length co74, v325) _ ⟨(by (with_reducible repeat (first | apply Kd.N_alloc | apply Kd.N_drewN | apply Kd.N_drew)); exact Kd.N_mono HO281.out (fun _ hk => ⟨hk.1.1.1, ⟨hk.1.1.2.1, ⟨hk.1.1.2.2.1, ⟨hk.1.1.2.2.2.1, ⟨hk.1.1.2.2.2.2, ⟨hk.1.2, hk.2⟩⟩⟩⟩⟩⟩)), (by (with_reducible repeat (first | apply Kd.R_alloc | apply Kd.R_drewN | apply Kd.R_drew)); exact Kd.R_mono HO290.out (fun _ hk => ⟨hk.1.1.1, ⟨hk.1.1.2.1, ⟨hk.1.1.2.2, ⟨hk.1.2, hk.2⟩⟩⟩⟩)), (by (with_reducible repeat (first | apply Kd.R_alloc | apply Kd.R_drewN | apply Kd.R_drew)); exact Kd.R_mono HO294.out (fun _ hk => ⟨hk.1.1.1, ⟨hk.1.1.2.1, ⟨hk.1.1.2.2, ⟨hk.1.2, hk.2⟩⟩⟩⟩)), (by (with_reducible repeat (first | apply Kd.R_alloc | apply Kd.R_drewN | apply Kd.R_drew)); exact Kd.R_mono HO300.out (fun _ hk => ⟨hk.1.1.1, ⟨hk.1.1.2.1, ⟨hk.1.1.2.2, ⟨hk.1.2, hk.2⟩⟩⟩⟩)), (by (with_reducible repeat (first | apply Kd.V_alloc | apply Kd.V_drewN | apply Kd.V_drew)); exact Kd.V_mono HO309.out (fun _ hk => ⟨hk.1.1.1, ⟨hk.1.1.2.1, ⟨hk.1.1.2.2.1, ⟨hk.1.1.2.2.2.1, ⟨hk.1.1.2.2.2.2, ⟨hk.1.2, hk.2⟩⟩⟩⟩⟩⟩)), (by (with_reducible repeat (first | apply Kd.N_alloc | apply Kd.N_drewN | apply Kd.N_drew)); exact Kd.N_mono HO312.out (fun _ hk => ⟨hk.1.1.1, ⟨hk.1.1.2.1, ⟨hk.1.1.2.2.1, ⟨hk.1.1.2.2.2, ⟨hk.1.2, hk.2⟩⟩⟩⟩⟩)), (by (with_reducible repeat (first | apply Kd.V_alloc | apply Kd.V_drewN | apply Kd.V_drew)); exact Kd.V_mono HO320.out (fun _ hk => ⟨hk.1.1.1, ⟨hk.1.1.2.1, ⟨hk.1.1.2.2.1, ⟨hk.1.1.2.2.2.1, ⟨hk.1.1.2.2.2.2, ⟨hk.1.2, hk.2⟩⟩⟩⟩⟩⟩)), (by (with_reducible repeat (first | apply Kd.R_alloc | apply Kd.R_drewN | apply Kd.R_drew)); exact Kd.R_mono HO323.out (fun _ hk => ⟨hk.1.1, ⟨hk.1.2.1, ⟨hk.1.2.2.1, ⟨hk.1.2.2.2, hk.2⟩⟩⟩⟩)), (by (with_reducible repeat (first | apply Kd.R_alloc | apply Kd.R_drewN | apply Kd.R_drew)); exact Kd.R_mono HO326.out (fun _ hk => ⟨hk.1.1.1.1.1, ⟨hk.1.1.1.2, ⟨hk.1.1.2, ⟨hk.1.2, hk.2⟩⟩⟩⟩)), (by (with_reducible repeat (first | apply Kd.V_alloc | apply Kd.V_drewN | apply Kd.V_drew)); exact Kd.V_mono HO331.out (fun _ hk => ⟨hk.1.1.1, ⟨hk.1.1.2.1, ⟨hk.1.1.2.2.1, ⟨hk.1.1.2.2.2.1, ⟨hk.1.1.2.2.2.2, ⟨hk.1.2, hk.2⟩⟩⟩⟩⟩⟩)), (by exact hopb HB.out)⟩)
                    ·skip
                     refine Kd.R_lit_step k71 _ 71 ?hg (N := 87) ?hd (xs := ([] : List (S71))) (inner := []) (ok := fun _ => True) (okp := fun _ => True) ?hr ?hp (fun _ hk => hk) trivial (Below.refl _ _) (Nat.le_refl _) (by simp) ?_; (case hd => rfl); (case hg => rfl); (case hr => first | (go_simp; done) | (go_simp; rfl)); (case hp => exact (Reps.none _ _))
                     intro v325 w73 ho74 hb hg_ hnew_
                     clear hg_ hnew_
                     (first | rw [← Ny324.out] at ho74 | (simp only [Int.reduceToNat] at ho74; rw [← Ny324.out] at ho74))
                     replace HO281 := ak (Kd.N_elder' (by (with_reducible repeat (first | apply Kd.N_alloc | apply Kd.N_drewN | apply Kd.N_drew)); exact HO281.out) (Kd.R_base ho74) hb)
                     replace HO309 := ak (Kd.V_elder' (by (with_reducible repeat (first | apply Kd.V_alloc | apply Kd.V_drewN | apply Kd.V_drew)); exact HO309.out) (Kd.R_base ho74) hb)
                     replace HO312 := ak (Kd.N_elder' (by (with_reducible repeat (first | apply Kd.N_alloc | apply Kd.N_drewN | apply Kd.N_drew)); exact HO312.out) (Kd.R_base ho74) hb)
                     replace HO320 := ak (Kd.V_elder' (by (with_reducible repeat (first | apply Kd.V_alloc | apply Kd.V_drewN | apply Kd.V_drew)); exact HO320.out) (Kd.R_base ho74) hb)
                     replace HO331 := ak (Kd.V_elder' (by (with_reducible repeat (first | apply Kd.V_alloc | apply Kd.V_drewN | apply Kd.V_drew)); exact HO331.out) (Kd.R_base ho74) hb)
                     have HO326 := ak (Kd.R_lower (Kd.R_new' (Kd.R_new' (Kd.R_new' (Kd.R_new' (Kd.R_newM (M := fun k_ => (w.heap.size ≤ k_)) ho74 (below_size (by exact hopb HB.out)) (fun k_ h_ => h_)) (Kd.R_lt (by (with_reducible repeat (first | apply Kd.R_alloc | apply Kd.R_drewN | apply Kd.R_drew)); exact HO290.out))) (Kd.R_lt (by (with_reducible repeat (first | apply Kd.R_alloc | apply Kd.R_drewN | apply Kd.R_drew)); exact HO294.out))) (Kd.R_lt (by (with_reducible repeat (first | apply Kd.R_alloc | apply Kd.R_drewN | apply Kd.R_drew)); exact HO300.out))) (Kd.R_lt (by (with_reducible repeat (first | apply Kd.R_alloc | apply Kd.R_drewN | apply Kd.R_drew)); exact HO315.out))) (below_size (by exact hopb HB.out)))
                     replace HO290 := ak (Kd.R_elder' (by (with_reducible repeat (first | apply Kd.R_alloc | apply Kd.R_drewN | apply Kd.R_drew)); exact HO290.out) (Kd.R_base ho74) hb)
                     replace HO294 := ak (Kd.R_elder' (by (with_reducible repeat (first | apply Kd.R_alloc | apply Kd.R_drewN | apply Kd.R_drew)); exact HO294.out) (Kd.R_base ho74) hb)
                     replace HO300 := ak (Kd.R_elder' (by (with_reducible repeat (first | apply Kd.R_alloc | apply Kd.R_drewN | apply Kd.R_drew)); exact HO300.out) (Kd.R_base ho74) hb)
                     replace HO315 := ak (Kd.R_elder' (by (with_reducible repeat (first | apply Kd.R_alloc | apply Kd.R_drewN | apply Kd.R_drew)); exact HO315.out) (Kd.R_base ho74) hb)
                     replace HB := ak (below_step (by exact hopb HB.out) hb)
                     clear hb ho74
                     refine hK.out _ _ trivial (fun hHeld => ?_)
                     clear hK K
                     refine norm_ (a' := ?_) ?_ ?_
                     rotate_left
                     ·show Act.put _ (some 87) _ = _
                      simp only [Act.put, lT, lZ, lS, i64_w, i32_w]
                      rfl
                     refine one_ (i := 4) (N := some 85) #[T,T,T,T,T,U,T,T,T,U,U,U,U,U] rfl rfl (one_of HT_.out (by kernel_rfl)) (by decide) (fun K hK => ?_)
                     refine Kd.R_append_rows_step k71 (w0 := w) w.heap.size (by rfl) (.tmp 82) (.tmp 84) 32 71 (.agg #[(.string ⟨#[]⟩), (.int .i64 0)]) 24 rfl Try.underlying32 info71 rfl (by decide) (by omega) v314 y313 y316 _ _ _ (fun k_ => (w.heap.size ≤ k_) ∧ some k_ ≠ (.slice Ao57 t288.length co57 : Value).ownBlock ∧ some k_ ≠ (v293 : Value).ownBlock ∧ some k_ ≠ (.slice Ao61 t297.length co61 : Value).ownBlock ∧ some k_ ≠ (v325 : Value).ownBlock) (fun _ => False) rfl rfl ?aO ?aR (fun _ _ h => h) (fun _ h => h.elim) ?aF ?aB ?aS ?aL ?_
                     (case aR => repeat (first | exact (Kd.V_reads' HO320.out).2.2 | (with_reducible refine Kd.C_alloc ?_ _) | (with_reducible refine Kd.C_drewN ?_ _) | (with_reducible refine Kd.C_drew ?_)))
                     (case aB => exact (by exact hopb HB.out))
                     (case aF => exact (fun k_ hk => ⟨(Nat.le_trans (below_size (by exact hopb HB.out)) hk), Kd.fresh' (Kd.R_lt (by (with_reducible repeat (first | apply Kd.R_alloc | apply Kd.R_drewN | apply Kd.R_drew)); exact HO290.out)) k_ hk, Kd.fresh' (Kd.R_lt (by (with_reducible repeat (first | apply Kd.R_alloc | apply Kd.R_drewN | apply Kd.R_drew)); exact HO294.out)) k_ hk, Kd.fresh' (Kd.R_lt (by (with_reducible repeat (first | apply Kd.R_alloc | apply Kd.R_drewN | apply Kd.R_drew)); exact HO300.out)) k_ hk, Kd.fresh' (Kd.R_lt (by (with_reducible repeat (first | apply Kd.R_alloc | apply Kd.R_drewN | apply Kd.R_drew)); exact HO326.out)) k_ hk⟩))
                     (case aO => exact (by (with_reducible repeat (first | apply Kd.R_alloc | apply Kd.R_drewN | apply Kd.R_drew)); exact Kd.R_mono HO315.out (fun _ hk => ⟨hk.1.1.1.1.1, ⟨hk.1.1.1.2, ⟨hk.1.1.2, ⟨hk.1.2, hk.2⟩⟩⟩⟩)))
                     (case aS => exact (below_size (by exact hopb HB.out)))
                     (case aL => have := LMc47.out; omega)
                     intro v322 w75 ho hb hg hat
                     rw [← Ny321.out] at ho
                     replace HO281 := ak (Kd.N_afterv (ok := (fun k_ => (w.heap.size ≤ k_) ∧ some k_ ≠ (.slice Ao57 t288.length co57 : Value).ownBlock ∧ some k_ ≠ (v293 : Value).ownBlock ∧ some k_ ≠ (.slice Ao61 t297.length co61 : Value).ownBlock ∧ some k_ ≠ (.slice Ao67 y310.length co67 : Value).ownBlock ∧ some k_ ≠ (v325 : Value).ownBlock)) (by (with_reducible repeat (first | apply Kd.N_alloc | apply Kd.N_drewN | apply Kd.N_drew)); exact Kd.N_mono HO281.out (fun _ hk => ⟨⟨hk.1.1.1.1, ⟨hk.1.1.1.2.1, ⟨hk.1.1.1.2.2.1, ⟨hk.1.1.1.2.2.2, ⟨hk.1.1.2, hk.2⟩⟩⟩⟩⟩, hk.1.2⟩)) hg hat)
                     replace HO290 := ak (Kd.R_after (ok := (fun k_ => (w.heap.size ≤ k_) ∧ some k_ ≠ (v293 : Value).ownBlock ∧ some k_ ≠ (.slice Ao61 t297.length co61 : Value).ownBlock ∧ some k_ ≠ (v325 : Value).ownBlock)) (by (with_reducible repeat (first | apply Kd.R_alloc | apply Kd.R_drewN | apply Kd.R_drew)); exact Kd.R_mono HO290.out (fun _ hk => ⟨⟨hk.1.1.1.1.1, ⟨hk.1.1.1.2, ⟨hk.1.1.2, hk.2⟩⟩⟩, hk.1.2⟩)) hg hat)
                     replace HO294 := ak (Kd.R_after (ok := (fun k_ => (w.heap.size ≤ k_) ∧ some k_ ≠ (.slice Ao57 t288.length co57 : Value).ownBlock ∧ some k_ ≠ (.slice Ao61 t297.length co61 : Value).ownBlock ∧ some k_ ≠ (v325 : Value).ownBlock)) (by (with_reducible repeat (first | apply Kd.R_alloc | apply Kd.R_drewN | apply Kd.R_drew)); exact Kd.R_mono HO294.out (fun _ hk => ⟨⟨hk.1.1.1.1.1, ⟨hk.1.1.1.2, ⟨hk.1.1.2, hk.2⟩⟩⟩, hk.1.2⟩)) hg hat)
                     replace HO300 := ak (Kd.R_after (ok := (fun k_ => (w.heap.size ≤ k_) ∧ some k_ ≠ (.slice Ao57 t288.length co57 : Value).ownBlock ∧ some k_ ≠ (v293 : Value).ownBlock ∧ some k_ ≠ (v325 : Value).ownBlock)) (by (with_reducible repeat (first | apply Kd.R_alloc | apply Kd.R_drewN | apply Kd.R_drew)); exact Kd.R_mono HO300.out (fun _ hk => ⟨⟨hk.1.1.1.1.1, ⟨hk.1.1.1.2, ⟨hk.1.1.2, hk.2⟩⟩⟩, hk.1.2⟩)) hg hat)
                     replace HO309 := ak (Kd.V_afterv (ok := (fun k_ => (w.heap.size ≤ k_) ∧ some k_ ≠ (.slice Ao57 t288.length co57 : Value).ownBlock ∧ some k_ ≠ (v293 : Value).ownBlock ∧ some k_ ≠ (.slice Ao61 t297.length co61 : Value).ownBlock ∧ some k_ ≠ (.slice Ao67 y310.length co67 : Value).ownBlock ∧ some k_ ≠ (v325 : Value).ownBlock)) (by (with_reducible repeat (first | apply Kd.V_alloc | apply Kd.V_drewN | apply Kd.V_drew)); exact Kd.V_mono HO309.out (fun _ hk => ⟨⟨hk.1.1.1.1, ⟨hk.1.1.1.2.1, ⟨hk.1.1.1.2.2.1, ⟨hk.1.1.1.2.2.2, ⟨hk.1.1.2, hk.2⟩⟩⟩⟩⟩, hk.1.2⟩)) hg hat)
                     replace HO312 := ak (Kd.N_afterv (ok := (fun k_ => (w.heap.size ≤ k_) ∧ some k_ ≠ (.slice Ao57 t288.length co57 : Value).ownBlock ∧ some k_ ≠ (v293 : Value).ownBlock ∧ some k_ ≠ (.slice Ao61 t297.length co61 : Value).ownBlock ∧ some k_ ≠ (v325 : Value).ownBlock)) (by (with_reducible repeat (first | apply Kd.N_alloc | apply Kd.N_drewN | apply Kd.N_drew)); exact Kd.N_mono HO312.out (fun _ hk => ⟨⟨hk.1.1.1, ⟨hk.1.1.2.1, ⟨hk.1.1.2.2.1, ⟨hk.1.1.2.2.2, hk.2⟩⟩⟩⟩, hk.1.2⟩)) hg hat)
                     replace HO320 := ak (Kd.V_afterv (ok := (fun k_ => (w.heap.size ≤ k_) ∧ some k_ ≠ (.slice Ao65 t279.length co65 : Value).ownBlock ∧ some k_ ≠ (.slice Ao57 t288.length co57 : Value).ownBlock ∧ some k_ ≠ (v293 : Value).ownBlock ∧ some k_ ≠ (.slice Ao67 y310.length co67 : Value).ownBlock ∧ some k_ ≠ (v325 : Value).ownBlock)) (by (with_reducible repeat (first | apply Kd.V_alloc | apply Kd.V_drewN | apply Kd.V_drew)); exact Kd.V_mono HO320.out (fun _ hk => ⟨⟨hk.1.1.1.1.1.1.1, ⟨hk.1.1.1.2, ⟨hk.1.1.1.1.1.2, ⟨hk.1.1.1.1.2, ⟨hk.1.1.2, hk.2⟩⟩⟩⟩⟩, hk.1.2⟩)) hg hat)
                     replace HO331 := ak (Kd.V_afterv (ok := (fun k_ => (w.heap.size ≤ k_) ∧ some k_ ≠ (.slice Ao65 t279.length co65 : Value).ownBlock ∧ some k_ ≠ (.slice Ao57 t288.length co57 : Value).ownBlock ∧ some k_ ≠ (v293 : Value).ownBlock ∧ some k_ ≠ (.slice Ao67 y310.length co67 : Value).ownBlock ∧ some k_ ≠ (v325 : Value).ownBlock)) (by (with_reducible repeat (first | apply Kd.V_alloc | apply Kd.V_drewN | apply Kd.V_drew)); exact Kd.V_mono HO331.out (fun _ hk => ⟨⟨hk.1.1.1.1.1.1.1, ⟨hk.1.1.1.2, ⟨hk.1.1.1.1.1.2, ⟨hk.1.1.1.1.2, ⟨hk.1.1.2, hk.2⟩⟩⟩⟩⟩, hk.1.2⟩)) hg hat)
                     replace HO326 := ak (Kd.R_after (ok := (fun k_ => (w.heap.size ≤ k_) ∧ some k_ ≠ (.slice Ao57 t288.length co57 : Value).ownBlock ∧ some k_ ≠ (v293 : Value).ownBlock ∧ some k_ ≠ (.slice Ao61 t297.length co61 : Value).ownBlock)) (by (with_reducible repeat (first | apply Kd.R_alloc | apply Kd.R_drewN | apply Kd.R_drew)); exact Kd.R_mono HO326.out (fun _ hk => ⟨⟨hk.1.1.1.1.1, ⟨hk.1.1.1.2, ⟨hk.1.1.2, hk.1.2⟩⟩⟩, hk.2⟩)) hg hat)
                     replace HB := ak (hb)
                     have HO323 := ak (ho)
                     clear HO315
                     clear ho hb hg hat
                     obtain ⟨Ao76, co76, eo76⟩ := Kd.R_slice HO323.out
                     (first | subst eo76 | (injection eo76 with f1_ f2_ f3_; have f4_ := f1_.symm; have f5_ := f3_.symm; clear f1_ f2_ f3_; subst f4_; subst f5_))
                     refine hK.out _ _ trivial (fun hHeld => ?_)
                     clear hK K
                     refine norm_ (a' := ?_) ?_ ?_
                     rotate_left
                     ·show Act.put _ (some 85) _ = _
                      simp only [Act.put, lT, lZ, lS, i64_w, i32_w]
                      rfl
                     refine pure_ (i := 5) (N := some 86) (v := ?_) (a' := ?_) #[T,T,T,T,T,T,T,T,T,U,U,U,U,U] rfl rfl (any_of HT_.out (by kernel_rfl)) (fun _ _ _ h => h) (Or.inl ⟨by rfl, ?_⟩) ?_ ?_
                     rotate_left
                     ·intro w'
                      go_simp
                      with_reducible rfl
                     rotate_left
                     ·simp only [Act.put, lT, lZ, lS, i64_w, i32_w]
                      rfl
                     exact norm_ (by simp only [putAll, Act.put, lT, lZ, lS]) (hCont (v314, .slice Ao76 y321.length co76, v325) _ ⟨(by (with_reducible repeat (first | apply Kd.N_alloc | apply Kd.N_drewN | apply Kd.N_drew)); exact Kd.N_mono HO281.out (fun _ hk => ⟨hk.1.1, ⟨hk.1.2.1, ⟨hk.1.2.2.1, ⟨hk.1.2.2.2.1, ⟨hk.1.2.2.2.2.1, ⟨hk.2, hk.1.2.2.2.2.2⟩⟩⟩⟩⟩⟩)), (by (with_reducible repeat (first | apply Kd.R_alloc | apply Kd.R_drewN | apply Kd.R_drew)); exact Kd.R_mono HO290.out (fun _ hk => ⟨hk.1.1, ⟨hk.1.2.1, ⟨hk.1.2.2.1, ⟨hk.2, hk.1.2.2.2⟩⟩⟩⟩)), (by (with_reducible repeat (first | apply Kd.R_alloc | apply Kd.R_drewN | apply Kd.R_drew)); exact Kd.R_mono HO294.out (fun _ hk => ⟨hk.1.1, ⟨hk.1.2.1, ⟨hk.1.2.2.1, ⟨hk.2, hk.1.2.2.2⟩⟩⟩⟩)), (by (with_reducible repeat (first | apply Kd.R_alloc | apply Kd.R_drewN | apply Kd.R_drew)); exact Kd.R_mono HO300.out (fun _ hk => ⟨hk.1.1, ⟨hk.1.2.1, ⟨hk.1.2.2.1, ⟨hk.2, hk.1.2.2.2⟩⟩⟩⟩)), (by (with_reducible repeat (first | apply Kd.V_alloc | apply Kd.V_drewN | apply Kd.V_drew)); exact Kd.V_mono HO309.out (fun _ hk => ⟨hk.1.1, ⟨hk.1.2.1, ⟨hk.1.2.2.1, ⟨hk.1.2.2.2.1, ⟨hk.1.2.2.2.2.1, ⟨hk.2, hk.1.2.2.2.2.2⟩⟩⟩⟩⟩⟩)), (by (with_reducible repeat (first | apply Kd.N_alloc | apply Kd.N_drewN | apply Kd.N_drew)); exact Kd.N_mono HO312.out (fun _ hk => ⟨hk.1.1, ⟨hk.1.2.1, ⟨hk.1.2.2.1, ⟨hk.1.2.2.2.1, ⟨hk.2, hk.1.2.2.2.2⟩⟩⟩⟩⟩)), (by (with_reducible repeat (first | apply Kd.V_alloc | apply Kd.V_drewN | apply Kd.V_drew)); exact Kd.V_mono HO320.out (fun _ hk => ⟨hk.1.1, ⟨hk.1.2.1, ⟨hk.1.2.2.1, ⟨hk.1.2.2.2.1, ⟨hk.1.2.2.2.2.1, ⟨hk.2, hk.1.2.2.2.2.2⟩⟩⟩⟩⟩⟩)), (by (with_reducible repeat (first | apply Kd.R_alloc | apply Kd.R_drewN | apply Kd.R_drew)); exact HO323.out), (by (with_reducible repeat (first | apply Kd.R_alloc | apply Kd.R_drewN | apply Kd.R_drew)); exact Kd.R_mono HO326.out (fun _ hk => ⟨hk.1.1, ⟨hk.1.2.1, ⟨hk.1.2.2.1, ⟨hk.1.2.2.2, hk.2⟩⟩⟩⟩)), (by (with_reducible repeat (first | apply Kd.V_alloc | apply Kd.V_drewN | apply Kd.V_drew)); exact Kd.V_mono HO331.out (fun _ hk => ⟨hk.1.1, ⟨hk.1.2.1, ⟨hk.1.2.2.1, ⟨hk.1.2.2.2.1, ⟨hk.1.2.2.2.2.1, ⟨hk.2, hk.1.2.2.2.2.2⟩⟩⟩⟩⟩⟩)), (by exact hopb HB.out)⟩)
                   ·skip
                    refine Kd.R_lit_step k71 _ 71 ?hg (N := 87) ?hd (xs := ([] : List (S71))) (inner := []) (ok := fun _ => True) (okp := fun _ => True) ?hr ?hp (fun _ hk => hk) trivial (Below.refl _ _) (Nat.le_refl _) (by simp) ?_; (case hd => rfl); (case hg => rfl); (case hr => first | (go_simp; done) | (go_simp; rfl)); (case hp => exact (Reps.none _ _))
                    intro v325 w71 ho72 hb hg_ hnew_
                    clear hg_ hnew_
                    (first | rw [← Ny324.out] at ho72 | (simp only [Int.reduceToNat] at ho72; rw [← Ny324.out] at ho72))
                    replace HO281 := ak (Kd.N_elder' (by (with_reducible repeat (first | apply Kd.N_alloc | apply Kd.N_drewN | apply Kd.N_drew)); exact HO281.out) (Kd.R_base ho72) hb)
                    replace HO309 := ak (Kd.V_elder' (by (with_reducible repeat (first | apply Kd.V_alloc | apply Kd.V_drewN | apply Kd.V_drew)); exact HO309.out) (Kd.R_base ho72) hb)
                    replace HO312 := ak (Kd.N_elder' (by (with_reducible repeat (first | apply Kd.N_alloc | apply Kd.N_drewN | apply Kd.N_drew)); exact HO312.out) (Kd.R_base ho72) hb)
                    replace HO320 := ak (Kd.V_elder' (by (with_reducible repeat (first | apply Kd.V_alloc | apply Kd.V_drewN | apply Kd.V_drew)); exact HO320.out) (Kd.R_base ho72) hb)
                    replace HO331 := ak (Kd.V_elder' (by (with_reducible repeat (first | apply Kd.V_alloc | apply Kd.V_drewN | apply Kd.V_drew)); exact HO331.out) (Kd.R_base ho72) hb)
                    have HO326 := ak (Kd.R_lower (Kd.R_new' (Kd.R_new' (Kd.R_new' (Kd.R_newM (M := fun k_ => (w.heap.size ≤ k_)) ho72 (below_size (by exact hopb HB.out)) (fun k_ h_ => h_)) (Kd.R_lt (by (with_reducible repeat (first | apply Kd.R_alloc | apply Kd.R_drewN | apply Kd.R_drew)); exact HO290.out))) (Kd.R_lt (by (with_reducible repeat (first | apply Kd.R_alloc | apply Kd.R_drewN | apply Kd.R_drew)); exact HO294.out))) (Kd.R_lt (by (with_reducible repeat (first | apply Kd.R_alloc | apply Kd.R_drewN | apply Kd.R_drew)); exact HO300.out))) (below_size (by exact hopb HB.out)))
                    replace HO290 := ak (Kd.R_elder' (by (with_reducible repeat (first | apply Kd.R_alloc | apply Kd.R_drewN | apply Kd.R_drew)); exact HO290.out) (Kd.R_base ho72) hb)
                    replace HO294 := ak (Kd.R_elder' (by (with_reducible repeat (first | apply Kd.R_alloc | apply Kd.R_drewN | apply Kd.R_drew)); exact HO294.out) (Kd.R_base ho72) hb)
                    replace HO300 := ak (Kd.R_elder' (by (with_reducible repeat (first | apply Kd.R_alloc | apply Kd.R_drewN | apply Kd.R_drew)); exact HO300.out) (Kd.R_base ho72) hb)
                    replace HB := ak (below_step (by exact hopb HB.out) hb)
                    clear hb ho72
                    refine hK.out _ _ trivial (fun hHeld => ?_)
                    clear hK K
                    refine norm_ (a' := ?_) ?_ ?_
                    rotate_left
                    ·show Act.put _ (some 87) _ = _
                     simp only [Act.put, lT, lZ, lS, i64_w, i32_w]
                     rfl
                    refine one_ (i := 1) (N := some 82) #[T,T,T,T,U,U,T,T,T,U,U,U,U,U] rfl rfl (one_of HT_.out (by kernel_rfl)) (by decide) (fun K hK => ?_)
                    refine Kd.R_lit_step k71 _ 71 ?hg (N := 82) ?hd (xs := ([] : List (S71))) (inner := []) (ok := fun _ => True) (okp := fun _ => True) ?hr ?hp (fun _ hk => hk) trivial (Below.refl _ _) (Nat.le_refl _) (by simp) ?_; (case hd => rfl); (case hg => rfl); (case hr => first | (go_simp; done) | (go_simp; rfl)); (case hp => exact (Reps.none _ _))
                    intro v314 w73 ho74 hb hg_ hnew_
                    clear hg_ hnew_
                    (first | rw [← Ny313.out] at ho74 | (simp only [Int.reduceToNat] at ho74; rw [← Ny313.out] at ho74))
                    replace HO281 := ak (Kd.N_elder' (by (with_reducible repeat (first | apply Kd.N_alloc | apply Kd.N_drewN | apply Kd.N_drew)); exact HO281.out) (Kd.R_base ho74) hb)
                    replace HO309 := ak (Kd.V_elder' (by (with_reducible repeat (first | apply Kd.V_alloc | apply Kd.V_drewN | apply Kd.V_drew)); exact HO309.out) (Kd.R_base ho74) hb)
                    replace HO312 := ak (Kd.N_elder' (by (with_reducible repeat (first | apply Kd.N_alloc | apply Kd.N_drewN | apply Kd.N_drew)); exact HO312.out) (Kd.R_base ho74) hb)
                    replace HO320 := ak (Kd.V_elder' (by (with_reducible repeat (first | apply Kd.V_alloc | apply Kd.V_drewN | apply Kd.V_drew)); exact HO320.out) (Kd.R_base ho74) hb)
                    replace HO331 := ak (Kd.V_elder' (by (with_reducible repeat (first | apply Kd.V_alloc | apply Kd.V_drewN | apply Kd.V_drew)); exact HO331.out) (Kd.R_base ho74) hb)
                    have HO315 := ak (Kd.R_lower (Kd.R_new' (Kd.R_new' (Kd.R_new' (Kd.R_new' (Kd.R_newM (M := fun k_ => (w.heap.size ≤ k_)) ho74 (below_size (by exact hopb HB.out)) (fun k_ h_ => h_)) (Kd.R_lt (by (with_reducible repeat (first | apply Kd.R_alloc | apply Kd.R_drewN | apply Kd.R_drew)); exact HO290.out))) (Kd.R_lt (by (with_reducible repeat (first | apply Kd.R_alloc | apply Kd.R_drewN | apply Kd.R_drew)); exact HO294.out))) (Kd.R_lt (by (with_reducible repeat (first | apply Kd.R_alloc | apply Kd.R_drewN | apply Kd.R_drew)); exact HO300.out))) (Kd.R_lt (by (with_reducible repeat (first | apply Kd.R_alloc | apply Kd.R_drewN | apply Kd.R_drew)); exact HO326.out))) (below_size (by exact hopb HB.out)))
                    replace HO290 := ak (Kd.R_elder' (by (with_reducible repeat (first | apply Kd.R_alloc | apply Kd.R_drewN | apply Kd.R_drew)); exact HO290.out) (Kd.R_base ho74) hb)
                    replace HO294 := ak (Kd.R_elder' (by (with_reducible repeat (first | apply Kd.R_alloc | apply Kd.R_drewN | apply Kd.R_drew)); exact HO294.out) (Kd.R_base ho74) hb)
                    replace HO300 := ak (Kd.R_elder' (by (with_reducible repeat (first | apply Kd.R_alloc | apply Kd.R_drewN | apply Kd.R_drew)); exact HO300.out) (Kd.R_base ho74) hb)
                    replace HO326 := ak (Kd.R_elder' (by (with_reducible repeat (first | apply Kd.R_alloc | apply Kd.R_drewN | apply Kd.R_drew)); exact HO326.out) (Kd.R_base ho74) hb)
                    replace HB := ak (below_step (by exact hopb HB.out) hb)
                    clear hb ho74
                    refine hK.out _ _ trivial (fun hHeld => ?_)
                    clear hK K
                    refine norm_ (a' := ?_) ?_ ?_
                    rotate_left
                    ·show Act.put _ (some 82) _ = _
                     simp only [Act.put, lT, lZ, lS, i64_w, i32_w]
                     rfl
                    refine one_ (i := 4) (N := some 85) #[T,T,T,T,T,U,T,T,T,U,U,U,U,U] rfl rfl (one_of HT_.out (by kernel_rfl)) (by decide) (fun K hK => ?_)
                    refine Kd.R_append_rows_step k71 (w0 := w) w.heap.size (by rfl) (.tmp 82) (.tmp 84) 32 71 (.agg #[(.string ⟨#[]⟩), (.int .i64 0)]) 24 rfl Try.underlying32 info71 rfl (by decide) (by omega) v314 y313 y316 _ _ _ (fun k_ => (w.heap.size ≤ k_) ∧ some k_ ≠ (.slice Ao57 t288.length co57 : Value).ownBlock ∧ some k_ ≠ (v293 : Value).ownBlock ∧ some k_ ≠ (.slice Ao61 t297.length co61 : Value).ownBlock ∧ some k_ ≠ (v325 : Value).ownBlock) (fun _ => False) rfl rfl ?aO ?aR (fun _ _ h => h) (fun _ h => h.elim) ?aF ?aB ?aS ?aL ?_
                    (case aR => repeat (first | exact (Kd.V_reads' HO320.out).2.2 | (with_reducible refine Kd.C_alloc ?_ _) | (with_reducible refine Kd.C_drewN ?_ _) | (with_reducible refine Kd.C_drew ?_)))
                    (case aB => exact (by exact hopb HB.out))
                    (case aF => exact (fun k_ hk => ⟨(Nat.le_trans (below_size (by exact hopb HB.out)) hk), Kd.fresh' (Kd.R_lt (by (with_reducible repeat (first | apply Kd.R_alloc | apply Kd.R_drewN | apply Kd.R_drew)); exact HO290.out)) k_ hk, Kd.fresh' (Kd.R_lt (by (with_reducible repeat (first | apply Kd.R_alloc | apply Kd.R_drewN | apply Kd.R_drew)); exact HO294.out)) k_ hk, Kd.fresh' (Kd.R_lt (by (with_reducible repeat (first | apply Kd.R_alloc | apply Kd.R_drewN | apply Kd.R_drew)); exact HO300.out)) k_ hk, Kd.fresh' (Kd.R_lt (by (with_reducible repeat (first | apply Kd.R_alloc | apply Kd.R_drewN | apply Kd.R_drew)); exact HO326.out)) k_ hk⟩))
                    (case aO => exact (by (with_reducible repeat (first | apply Kd.R_alloc | apply Kd.R_drewN | apply Kd.R_drew)); exact Kd.R_mono HO315.out (fun _ hk => ⟨hk.1.1.1.1.1, ⟨hk.1.1.1.2, ⟨hk.1.1.2, ⟨hk.1.2, hk.2⟩⟩⟩⟩)))
                    (case aS => exact (below_size (by exact hopb HB.out)))
                    (case aL => have := LMc47.out; omega)
                    intro v322 w75 ho hb hg hat
                    rw [← Ny321.out] at ho
                    replace HO281 := ak (Kd.N_afterv (ok := (fun k_ => (w.heap.size ≤ k_) ∧ some k_ ≠ (.slice Ao57 t288.length co57 : Value).ownBlock ∧ some k_ ≠ (v293 : Value).ownBlock ∧ some k_ ≠ (.slice Ao61 t297.length co61 : Value).ownBlock ∧ some k_ ≠ (.slice Ao67 y310.length co67 : Value).ownBlock ∧ some k_ ≠ (v325 : Value).ownBlock)) (by (with_reducible repeat (first | apply Kd.N_alloc | apply Kd.N_drewN | apply Kd.N_drew)); exact Kd.N_mono HO281.out (fun _ hk => ⟨⟨hk.1.1.1.1, ⟨hk.1.1.1.2.1, ⟨hk.1.1.1.2.2.1, ⟨hk.1.1.1.2.2.2, ⟨hk.1.1.2, hk.1.2⟩⟩⟩⟩⟩, hk.2⟩)) hg hat)
                    replace HO290 := ak (Kd.R_after (ok := (fun k_ => (w.heap.size ≤ k_) ∧ some k_ ≠ (v293 : Value).ownBlock ∧ some k_ ≠ (.slice Ao61 t297.length co61 : Value).ownBlock ∧ some k_ ≠ (v325 : Value).ownBlock)) (by (with_reducible repeat (first | apply Kd.R_alloc | apply Kd.R_drewN | apply Kd.R_drew)); exact Kd.R_mono HO290.out (fun _ hk => ⟨⟨hk.1.1.1.1.1, ⟨hk.1.1.1.2, ⟨hk.1.1.2, hk.1.2⟩⟩⟩, hk.2⟩)) hg hat)
                    replace HO294 := ak (Kd.R_after (ok := (fun k_ => (w.heap.size ≤ k_) ∧ some k_ ≠ (.slice Ao57 t288.length co57 : Value).ownBlock ∧ some k_ ≠ (.slice Ao61 t297.length co61 : Value).ownBlock ∧ some k_ ≠ (v325 : Value).ownBlock)) (by (with_reducible repeat (first | apply Kd.R_alloc | apply Kd.R_drewN | apply Kd.R_drew)); exact Kd.R_mono HO294.out (fun _ hk => ⟨⟨hk.1.1.1.1.1, ⟨hk.1.1.1.2, ⟨hk.1.1.2, hk.1.2⟩⟩⟩, hk.2⟩)) hg hat)
                    replace HO300 := ak (Kd.R_after (ok := (fun k_ => (w.heap.size ≤ k_) ∧ some k_ ≠ (.slice Ao57 t288.length co57 : Value).ownBlock ∧ some k_ ≠ (v293 : Value).ownBlock ∧ some k_ ≠ (v325 : Value).ownBlock)) (by (with_reducible repeat (first | apply Kd.R_alloc | apply Kd.R_drewN | apply Kd.R_drew)); exact Kd.R_mono HO300.out (fun _ hk => ⟨⟨hk.1.1.1.1.1, ⟨hk.1.1.1.2, ⟨hk.1.1.2, hk.1.2⟩⟩⟩, hk.2⟩)) hg hat)
                    replace HO309 := ak (Kd.V_afterv (ok := (fun k_ => (w.heap.size ≤ k_) ∧ some k_ ≠ (.slice Ao57 t288.length co57 : Value).ownBlock ∧ some k_ ≠ (v293 : Value).ownBlock ∧ some k_ ≠ (.slice Ao61 t297.length co61 : Value).ownBlock ∧ some k_ ≠ (.slice Ao67 y310.length co67 : Value).ownBlock ∧ some k_ ≠ (v325 : Value).ownBlock)) (by (with_reducible repeat (first | apply Kd.V_alloc | apply Kd.V_drewN | apply Kd.V_drew)); exact Kd.V_mono HO309.out (fun _ hk => ⟨⟨hk.1.1.1.1, ⟨hk.1.1.1.2.1, ⟨hk.1.1.1.2.2.1, ⟨hk.1.1.1.2.2.2, ⟨hk.1.1.2, hk.1.2⟩⟩⟩⟩⟩, hk.2⟩)) hg hat)
                    replace HO312 := ak (Kd.N_afterv (ok := (fun k_ => (w.heap.size ≤ k_) ∧ some k_ ≠ (.slice Ao57 t288.length co57 : Value).ownBlock ∧ some k_ ≠ (v293 : Value).ownBlock ∧ some k_ ≠ (.slice Ao61 t297.length co61 : Value).ownBlock ∧ some k_ ≠ (v325 : Value).ownBlock)) (by (with_reducible repeat (first | apply Kd.N_alloc | apply Kd.N_drewN | apply Kd.N_drew)); exact Kd.N_mono HO312.out (fun _ hk => ⟨⟨hk.1.1.1, ⟨hk.1.1.2.1, ⟨hk.1.1.2.2.1, ⟨hk.1.1.2.2.2, hk.1.2⟩⟩⟩⟩, hk.2⟩)) hg hat)
                    replace HO320 := ak (Kd.V_afterv (ok := (fun k_ => (w.heap.size ≤ k_) ∧ some k_ ≠ (.slice Ao65 t279.length co65 : Value).ownBlock ∧ some k_ ≠ (.slice Ao57 t288.length co57 : Value).ownBlock ∧ some k_ ≠ (v293 : Value).ownBlock ∧ some k_ ≠ (.slice Ao67 y310.length co67 : Value).ownBlock ∧ some k_ ≠ (v325 : Value).ownBlock)) (by (with_reducible repeat (first | apply Kd.V_alloc | apply Kd.V_drewN | apply Kd.V_drew)); exact Kd.V_mono HO320.out (fun _ hk => ⟨⟨hk.1.1.1.1.1.1.1, ⟨hk.1.1.1.2, ⟨hk.1.1.1.1.1.2, ⟨hk.1.1.1.1.2, ⟨hk.1.1.2, hk.1.2⟩⟩⟩⟩⟩, hk.2⟩)) hg hat)
                    replace HO331 := ak (Kd.V_afterv (ok := (fun k_ => (w.heap.size ≤ k_) ∧ some k_ ≠ (.slice Ao65 t279.length co65 : Value).ownBlock ∧ some k_ ≠ (.slice Ao57 t288.length co57 : Value).ownBlock ∧ some k_ ≠ (v293 : Value).ownBlock ∧ some k_ ≠ (.slice Ao67 y310.length co67 : Value).ownBlock ∧ some k_ ≠ (v325 : Value).ownBlock)) (by (with_reducible repeat (first | apply Kd.V_alloc | apply Kd.V_drewN | apply Kd.V_drew)); exact Kd.V_mono HO331.out (fun _ hk => ⟨⟨hk.1.1.1.1.1.1.1, ⟨hk.1.1.1.2, ⟨hk.1.1.1.1.1.2, ⟨hk.1.1.1.1.2, ⟨hk.1.1.2, hk.1.2⟩⟩⟩⟩⟩, hk.2⟩)) hg hat)
                    replace HO326 := ak (Kd.R_after (ok := (fun k_ => (w.heap.size ≤ k_) ∧ some k_ ≠ (.slice Ao57 t288.length co57 : Value).ownBlock ∧ some k_ ≠ (v293 : Value).ownBlock ∧ some k_ ≠ (.slice Ao61 t297.length co61 : Value).ownBlock)) (by (with_reducible repeat (first | apply Kd.R_alloc | apply Kd.R_drewN | apply Kd.R_drew)); exact Kd.R_mono HO326.out (fun _ hk => ⟨⟨hk.1.1.1.1.1, ⟨hk.1.1.1.2, ⟨hk.1.1.2, hk.1.2⟩⟩⟩, hk.2⟩)) hg hat)
                    replace HB := ak (hb)
                    have HO323 := ak (ho)
                    clear HO315
                    clear ho hb hg hat
                    obtain ⟨Ao76, co76, eo76⟩ := Kd.R_slice HO323.out
                    (first | subst eo76 | (injection eo76 with f1_ f2_ f3_; have f4_ := f1_.symm; have f5_ := f3_.symm; clear f1_ f2_ f3_; subst f4_; subst f5_))
                    refine hK.out _ _ trivial (fun hHeld => ?_)
                    clear hK K
                    refine norm_ (a' := ?_) ?_ ?_
                    rotate_left
                    ·show Act.put _ (some 85) _ = _
                     simp only [Act.put, lT, lZ, lS, i64_w, i32_w]
                     rfl
                    refine pure_ (i := 5) (N := some 86) (v := ?_) (a' := ?_) #[T,T,T,T,T,T,T,T,T,U,U,U,U,U] rfl rfl (any_of HT_.out (by kernel_rfl)) (fun _ _ _ h => h) (Or.inl ⟨by rfl, ?_⟩) ?_ ?_
                    rotate_left
                    ·intro w'
                     go_simp
                     with_reducible rfl
                    rotate_left
                    ·simp only [Act.put, lT, lZ, lS, i64_w, i32_w]
                     rfl
                    exact norm_ (by simp only [putAll, Act.put, lT, lZ, lS]) (hCont (v314, .slice Ao76 y321.length co76, v325) _ ⟨(by (with_reducible repeat (first | apply Kd.N_alloc | apply Kd.N_drewN | apply Kd.N_drew)); exact Kd.N_mono HO281.out (fun _ hk => ⟨hk.1.1, ⟨hk.1.2.1, ⟨hk.1.2.2.1, ⟨hk.1.2.2.2.1, ⟨hk.1.2.2.2.2.1, ⟨hk.2, hk.1.2.2.2.2.2⟩⟩⟩⟩⟩⟩)), (by (with_reducible repeat (first | apply Kd.R_alloc | apply Kd.R_drewN | apply Kd.R_drew)); exact Kd.R_mono HO290.out (fun _ hk => ⟨hk.1.1, ⟨hk.1.2.1, ⟨hk.1.2.2.1, ⟨hk.2, hk.1.2.2.2⟩⟩⟩⟩)), (by (with_reducible repeat (first | apply Kd.R_alloc | apply Kd.R_drewN | apply Kd.R_drew)); exact Kd.R_mono HO294.out (fun _ hk => ⟨hk.1.1, ⟨hk.1.2.1, ⟨hk.1.2.2.1, ⟨hk.2, hk.1.2.2.2⟩⟩⟩⟩)), (by (with_reducible repeat (first | apply Kd.R_alloc | apply Kd.R_drewN | apply Kd.R_drew)); exact Kd.R_mono HO300.out (fun _ hk => ⟨hk.1.1, ⟨hk.1.2.1, ⟨hk.1.2.2.1, ⟨hk.2, hk.1.2.2.2⟩⟩⟩⟩)), (by (with_reducible repeat (first | apply Kd.V_alloc | apply Kd.V_drewN | apply Kd.V_drew)); exact Kd.V_mono HO309.out (fun _ hk => ⟨hk.1.1, ⟨hk.1.2.1, ⟨hk.1.2.2.1, ⟨hk.1.2.2.2.1, ⟨hk.1.2.2.2.2.1, ⟨hk.2, hk.1.2.2.2.2.2⟩⟩⟩⟩⟩⟩)), (by (with_reducible repeat (first | apply Kd.N_alloc | apply Kd.N_drewN | apply Kd.N_drew)); exact Kd.N_mono HO312.out (fun _ hk => ⟨hk.1.1, ⟨hk.1.2.1, ⟨hk.1.2.2.1, ⟨hk.1.2.2.2.1, ⟨hk.2, hk.1.2.2.2.2⟩⟩⟩⟩⟩)), (by (with_reducible repeat (first | apply Kd.V_alloc | apply Kd.V_drewN | apply Kd.V_drew)); exact Kd.V_mono HO320.out (fun _ hk => ⟨hk.1.1, ⟨hk.1.2.1, ⟨hk.1.2.2.1, ⟨hk.1.2.2.2.1, ⟨hk.1.2.2.2.2.1, ⟨hk.2, hk.1.2.2.2.2.2⟩⟩⟩⟩⟩⟩)), (by (with_reducible repeat (first | apply Kd.R_alloc | apply Kd.R_drewN | apply Kd.R_drew)); exact HO323.out), (by (with_reducible repeat (first | apply Kd.R_alloc | apply Kd.R_drewN | apply Kd.R_drew)); exact Kd.R_mono HO326.out (fun _ hk => ⟨hk.1.1, ⟨hk.1.2.1, ⟨hk.1.2.2.1, ⟨hk.1.2.2.2, hk.2⟩⟩⟩⟩)), (by (with_reducible repeat (first | apply Kd.V_alloc | apply Kd.V_drewN | apply Kd.V_drew)); exact Kd.V_mono HO331.out (fun _ hk => ⟨hk.1.1, ⟨hk.1.2.1, ⟨hk.1.2.2.1, ⟨hk.1.2.2.2.1, ⟨hk.1.2.2.2.2.1, ⟨hk.2, hk.1.2.2.2.2.2⟩⟩⟩⟩⟩⟩)), (by exact hopb HB.out)⟩)
                  rintro ⟨v314, v322, v325⟩ w77 ⟨h0_, h1_, h2_, h3_, h4_, h5_, h6_, h7_, h8_, h9_, h10_⟩
                  have n0_ : Aside0 (Kd.N k64 64 w77 w.heap.size (fun k_ => (w.heap.size ≤ k_) ∧ some k_ ≠ (.slice Ao57 t288.length co57 : Value).ownBlock ∧ some k_ ≠ (v293 : Value).ownBlock ∧ some k_ ≠ (.slice Ao61 t297.length co61 : Value).ownBlock ∧ some k_ ≠ (.slice Ao67 y310.length co67 : Value).ownBlock ∧ some k_ ≠ (v322 : Value).ownBlock ∧ some k_ ≠ (v325 : Value).ownBlock) (.slice Ao65 t279.length co65) t279) := ⟨h0_⟩
                  have n1_ : Aside0 (Kd.R k71 71 w77 w.heap.size (fun k_ => (w.heap.size ≤ k_) ∧ some k_ ≠ (v293 : Value).ownBlock ∧ some k_ ≠ (.slice Ao61 t297.length co61 : Value).ownBlock ∧ some k_ ≠ (v322 : Value).ownBlock ∧ some k_ ≠ (v325 : Value).ownBlock) (.slice Ao57 t288.length co57) t288) := ⟨h1_⟩
                  have n2_ : Aside0 (Kd.R k71 71 w77 w.heap.size (fun k_ => (w.heap.size ≤ k_) ∧ some k_ ≠ (.slice Ao57 t288.length co57 : Value).ownBlock ∧ some k_ ≠ (.slice Ao61 t297.length co61 : Value).ownBlock ∧ some k_ ≠ (v322 : Value).ownBlock ∧ some k_ ≠ (v325 : Value).ownBlock) v293 t291) := ⟨h2_⟩
                  have n3_ : Aside0 (Kd.R k71 71 w77 w.heap.size (fun k_ => (w.heap.size ≤ k_) ∧ some k_ ≠ (.slice Ao57 t288.length co57 : Value).ownBlock ∧ some k_ ≠ (v293 : Value).ownBlock ∧ some k_ ≠ (v322 : Value).ownBlock ∧ some k_ ≠ (v325 : Value).ownBlock) (.slice Ao61 t297.length co61) t297) := ⟨h3_⟩
                  have n4_ : Aside0 (Kd.V k64 64 w77 w.heap.size (fun k_ => (w.heap.size ≤ k_) ∧ some k_ ≠ (.slice Ao57 t288.length co57 : Value).ownBlock ∧ some k_ ≠ (v293 : Value).ownBlock ∧ some k_ ≠ (.slice Ao61 t297.length co61 : Value).ownBlock ∧ some k_ ≠ (.slice Ao67 y310.length co67 : Value).ownBlock ∧ some k_ ≠ (v322 : Value).ownBlock ∧ some k_ ≠ (v325 : Value).ownBlock) (.slice Ao65 y305.length co65) y305) := ⟨h4_⟩
                  have n5_ : Aside0 (Kd.N k64 64 w77 w.heap.size (fun k_ => (w.heap.size ≤ k_) ∧ some k_ ≠ (.slice Ao57 t288.length co57 : Value).ownBlock ∧ some k_ ≠ (v293 : Value).ownBlock ∧ some k_ ≠ (.slice Ao61 t297.length co61 : Value).ownBlock ∧ some k_ ≠ (v322 : Value).ownBlock ∧ some k_ ≠ (v325 : Value).ownBlock) (.slice Ao67 y310.length co67) y310) := ⟨h5_⟩
                  have n6_ : Aside0 (Kd.V k71 71 w77 w.heap.size (fun k_ => (w.heap.size ≤ k_) ∧ some k_ ≠ (.slice Ao65 t279.length co65 : Value).ownBlock ∧ some k_ ≠ (.slice Ao57 t288.length co57 : Value).ownBlock ∧ some k_ ≠ (v293 : Value).ownBlock ∧ some k_ ≠ (.slice Ao67 y310.length co67 : Value).ownBlock ∧ some k_ ≠ (v322 : Value).ownBlock ∧ some k_ ≠ (v325 : Value).ownBlock) (.slice Ao61 y316.length co61) y316) := ⟨h6_⟩
                  have n7_ : Aside0 (Kd.R k71 71 w77 w.heap.size (fun k_ => (w.heap.size ≤ k_) ∧ some k_ ≠ (.slice Ao57 t288.length co57 : Value).ownBlock ∧ some k_ ≠ (v293 : Value).ownBlock ∧ some k_ ≠ (.slice Ao61 t297.length co61 : Value).ownBlock ∧ some k_ ≠ (v325 : Value).ownBlock) v322 y321) := ⟨h7_⟩
                  have n8_ : Aside0 (Kd.R k71 71 w77 w.heap.size (fun k_ => (w.heap.size ≤ k_) ∧ some k_ ≠ (.slice Ao57 t288.length co57 : Value).ownBlock ∧ some k_ ≠ (v293 : Value).ownBlock ∧ some k_ ≠ (.slice Ao61 t297.length co61 : Value).ownBlock ∧ some k_ ≠ (v322 : Value).ownBlock) v325 y324) := ⟨h8_⟩
                  have n9_ : Aside0 (Kd.V k71 71 w77 w.heap.size (fun k_ => (w.heap.size ≤ k_) ∧ some k_ ≠ (.slice Ao65 t279.length co65 : Value).ownBlock ∧ some k_ ≠ (.slice Ao57 t288.length co57 : Value).ownBlock ∧ some k_ ≠ (v293 : Value).ownBlock ∧ some k_ ≠ (.slice Ao67 y310.length co67 : Value).ownBlock ∧ some k_ ≠ (v322 : Value).ownBlock ∧ some k_ ≠ (v325 : Value).ownBlock) (.slice A70 y327.length c70) y327) := ⟨h9_⟩
                  have n10_ : Aside0 (Below w.heap.size w w77) := ⟨h10_⟩
                  clear HO281
                  clear HO290
                  clear HO294
                  clear HO300
                  clear HO309
                  clear HO312
                  clear HB
                  clear h0_ h1_ h2_ h3_ h4_ h5_ h6_ h7_ h8_ h9_ h10_
                  have HO281 := n0_
                  have HO290 := n1_
                  have HO294 := n2_
                  have HO300 := n3_
                  have HO309 := n4_
                  have HO312 := n5_
                  have HO320 := n6_
                  have HO323 := n7_
                  have HO326 := n8_
                  have HO331 := n9_
                  have HB := n10_
                  clear n0_ n1_ n2_ n3_ n4_ n5_ n6_ n7_ n8_ n9_ n10_
                  have hHeld := trivial
                  obtain ⟨Ao78, co78, eo78⟩ := Kd.R_slice HO323.out
                  (first | subst eo78 | (injection eo78 with f1_ f2_ f3_; have f4_ := f1_.symm; have f5_ := f3_.symm; clear f1_ f2_ f3_; subst f4_; subst f5_))
                  refine norm_ (a' := ?_) ?_ ?_
                  rotate_left
                  ·simp only [putAll, Act.put, lT, lZ, lS]
                   rfl
                  refine one_ (i := 9) (N := some 90) #[T,T,T,T,T,T,T,T,T,T,U,U,U,U] rfl rfl (one_of HT_.out (by kernel_rfl)) (by decide) (fun K hK => ?_)
                  refine Kd.R_append_rows_step k71 (w0 := w) w.heap.size (by rfl) (.tmp 87) (.tmp 89) 32 71 (.agg #[(.string ⟨#[]⟩), (.int .i64 0)]) 24 rfl Try.underlying32 info71 rfl (by decide) (by omega) v325 y324 y327 _ _ _ (fun k_ => (w.heap.size ≤ k_) ∧ some k_ ≠ (.slice Ao57 t288.length co57 : Value).ownBlock ∧ some k_ ≠ (v293 : Value).ownBlock ∧ some k_ ≠ (.slice Ao61 t297.length co61 : Value).ownBlock ∧ some k_ ≠ (.slice Ao78 y321.length co78 : Value).ownBlock) (fun _ => False) rfl rfl ?aO ?aR (fun _ _ h => h) (fun _ h => h.elim) ?aF ?aB ?aS ?aL ?_
                  (case aR => repeat (first | exact (Kd.V_reads' HO331.out).2.2 | (with_reducible refine Kd.C_alloc ?_ _) | (with_reducible refine Kd.C_drewN ?_ _) | (with_reducible refine Kd.C_drew ?_)))
                  (case aB => exact (by exact hopb HB.out))
                  (case aF => exact (fun k_ hk => ⟨(Nat.le_trans (below_size (by exact hopb HB.out)) hk), Kd.fresh' (Kd.R_lt (by (with_reducible repeat (first | apply Kd.R_alloc | apply Kd.R_drewN | apply Kd.R_drew)); exact HO290.out)) k_ hk, Kd.fresh' (Kd.R_lt (by (with_reducible repeat (first | apply Kd.R_alloc | apply Kd.R_drewN | apply Kd.R_drew)); exact HO294.out)) k_ hk, Kd.fresh' (Kd.R_lt (by (with_reducible repeat (first | apply Kd.R_alloc | apply Kd.R_drewN | apply Kd.R_drew)); exact HO300.out)) k_ hk, Kd.fresh' (Kd.R_lt (by (with_reducible repeat (first | apply Kd.R_alloc | apply Kd.R_drewN | apply Kd.R_drew)); exact HO323.out)) k_ hk⟩))
                  (case aO => exact (by (with_reducible repeat (first | apply Kd.R_alloc | apply Kd.R_drewN | apply Kd.R_drew)); exact HO326.out))
                  (case aS => exact (below_size (by exact hopb HB.out)))
                  (case aL => have := LMc49.out; omega)
                  intro v333 w79 ho hb hg hat
                  rw [← Ny332.out] at ho
                  replace HO281 := ak (Kd.N_afterv (ok := (fun k_ => (w.heap.size ≤ k_) ∧ some k_ ≠ (.slice Ao57 t288.length co57 : Value).ownBlock ∧ some k_ ≠ (v293 : Value).ownBlock ∧ some k_ ≠ (.slice Ao61 t297.length co61 : Value).ownBlock ∧ some k_ ≠ (.slice Ao67 y310.length co67 : Value).ownBlock ∧ some k_ ≠ (.slice Ao78 y321.length co78 : Value).ownBlock)) (by (with_reducible repeat (first | apply Kd.N_alloc | apply Kd.N_drewN | apply Kd.N_drew)); exact Kd.N_mono HO281.out (fun _ hk => ⟨⟨hk.1, ⟨hk.2.1, ⟨hk.2.2.1, ⟨hk.2.2.2.1, ⟨hk.2.2.2.2.1, hk.2.2.2.2.2.1⟩⟩⟩⟩⟩, hk.2.2.2.2.2.2⟩)) hg hat)
                  replace HO290 := ak (Kd.R_after (ok := (fun k_ => (w.heap.size ≤ k_) ∧ some k_ ≠ (v293 : Value).ownBlock ∧ some k_ ≠ (.slice Ao61 t297.length co61 : Value).ownBlock ∧ some k_ ≠ (.slice Ao78 y321.length co78 : Value).ownBlock)) (by (with_reducible repeat (first | apply Kd.R_alloc | apply Kd.R_drewN | apply Kd.R_drew)); exact Kd.R_mono HO290.out (fun _ hk => ⟨⟨hk.1, ⟨hk.2.1, ⟨hk.2.2.1, hk.2.2.2.1⟩⟩⟩, hk.2.2.2.2⟩)) hg hat)
                  replace HO294 := ak (Kd.R_after (ok := (fun k_ => (w.heap.size ≤ k_) ∧ some k_ ≠ (.slice Ao57 t288.length co57 : Value).ownBlock ∧ some k_ ≠ (.slice Ao61 t297.length co61 : Value).ownBlock ∧ some k_ ≠ (.slice Ao78 y321.length co78 : Value).ownBlock)) (by (with_reducible repeat (first | apply Kd.R_alloc | apply Kd.R_drewN | apply Kd.R_drew)); exact Kd.R_mono HO294.out (fun _ hk => ⟨⟨hk.1, ⟨hk.2.1, ⟨hk.2.2.1, hk.2.2.2.1⟩⟩⟩, hk.2.2.2.2⟩)) hg hat)
                  replace HO300 := ak (Kd.R_after (ok := (fun k_ => (w.heap.size ≤ k_) ∧ some k_ ≠ (.slice Ao57 t288.length co57 : Value).ownBlock ∧ some k_ ≠ (v293 : Value).ownBlock ∧ some k_ ≠ (.slice Ao78 y321.length co78 : Value).ownBlock)) (by (with_reducible repeat (first | apply Kd.R_alloc | apply Kd.R_drewN | apply Kd.R_drew)); exact Kd.R_mono HO300.out (fun _ hk => ⟨⟨hk.1, ⟨hk.2.1, ⟨hk.2.2.1, hk.2.2.2.1⟩⟩⟩, hk.2.2.2.2⟩)) hg hat)
                  replace HO309 := ak (Kd.V_afterv (ok := (fun k_ => (w.heap.size ≤ k_) ∧ some k_ ≠ (.slice Ao57 t288.length co57 : Value).ownBlock ∧ some k_ ≠ (v293 : Value).ownBlock ∧ some k_ ≠ (.slice Ao61 t297.length co61 : Value).ownBlock ∧ some k_ ≠ (.slice Ao67 y310.length co67 : Value).ownBlock ∧ some k_ ≠ (.slice Ao78 y321.length co78 : Value).ownBlock)) (by (with_reducible repeat (first | apply Kd.V_alloc | apply Kd.V_drewN | apply Kd.V_drew)); exact Kd.V_mono HO309.out (fun _ hk => ⟨⟨hk.1, ⟨hk.2.1, ⟨hk.2.2.1, ⟨hk.2.2.2.1, ⟨hk.2.2.2.2.1, hk.2.2.2.2.2.1⟩⟩⟩⟩⟩, hk.2.2.2.2.2.2⟩)) hg hat)
                  replace HO312 := ak (Kd.N_afterv (ok := (fun k_ => (w.heap.size ≤ k_) ∧ some k_ ≠ (.slice Ao57 t288.length co57 : Value).ownBlock ∧ some k_ ≠ (v293 : Value).ownBlock ∧ some k_ ≠ (.slice Ao61 t297.length co61 : Value).ownBlock ∧ some k_ ≠ (.slice Ao78 y321.length co78 : Value).ownBlock)) (by (with_reducible repeat (first | apply Kd.N_alloc | apply Kd.N_drewN | apply Kd.N_drew)); exact Kd.N_mono HO312.out (fun _ hk => ⟨⟨hk.1, ⟨hk.2.1, ⟨hk.2.2.1, ⟨hk.2.2.2.1, hk.2.2.2.2.1⟩⟩⟩⟩, hk.2.2.2.2.2⟩)) hg hat)
                  replace HO320 := ak (Kd.V_afterv (ok := (fun k_ => (w.heap.size ≤ k_) ∧ some k_ ≠ (.slice Ao65 t279.length co65 : Value).ownBlock ∧ some k_ ≠ (.slice Ao57 t288.length co57 : Value).ownBlock ∧ some k_ ≠ (v293 : Value).ownBlock ∧ some k_ ≠ (.slice Ao67 y310.length co67 : Value).ownBlock ∧ some k_ ≠ (.slice Ao78 y321.length co78 : Value).ownBlock)) (by (with_reducible repeat (first | apply Kd.V_alloc | apply Kd.V_drewN | apply Kd.V_drew)); exact Kd.V_mono HO320.out (fun _ hk => ⟨⟨hk.1, ⟨hk.2.1, ⟨hk.2.2.1, ⟨hk.2.2.2.1, ⟨hk.2.2.2.2.1, hk.2.2.2.2.2.1⟩⟩⟩⟩⟩, hk.2.2.2.2.2.2⟩)) hg hat)
                  replace HO331 := ak (Kd.V_afterv (ok := (fun k_ => (w.heap.size ≤ k_) ∧ some k_ ≠ (.slice Ao65 t279.length co65 : Value).ownBlock ∧ some k_ ≠ (.slice Ao57 t288.length co57 : Value).ownBlock ∧ some k_ ≠ (v293 : Value).ownBlock ∧ some k_ ≠ (.slice Ao67 y310.length co67 : Value).ownBlock ∧ some k_ ≠ (.slice Ao78 y321.length co78 : Value).ownBlock)) (by (with_reducible repeat (first | apply Kd.V_alloc | apply Kd.V_drewN | apply Kd.V_drew)); exact Kd.V_mono HO331.out (fun _ hk => ⟨⟨hk.1, ⟨hk.2.1, ⟨hk.2.2.1, ⟨hk.2.2.2.1, ⟨hk.2.2.2.2.1, hk.2.2.2.2.2.1⟩⟩⟩⟩⟩, hk.2.2.2.2.2.2⟩)) hg hat)
                  replace HO323 := ak (Kd.R_after (ok := (fun k_ => (w.heap.size ≤ k_) ∧ some k_ ≠ (.slice Ao57 t288.length co57 : Value).ownBlock ∧ some k_ ≠ (v293 : Value).ownBlock ∧ some k_ ≠ (.slice Ao61 t297.length co61 : Value).ownBlock)) (by (with_reducible repeat (first | apply Kd.R_alloc | apply Kd.R_drewN | apply Kd.R_drew)); exact Kd.R_mono HO323.out (fun _ hk => ⟨⟨hk.1, ⟨hk.2.1, ⟨hk.2.2.1, hk.2.2.2.1⟩⟩⟩, hk.2.2.2.2⟩)) hg hat)
                  replace HB := ak (hb)
                  have HO334 := ak (ho)
                  clear HO326
                  clear ho hb hg hat
                  obtain ⟨Ao80, co80, eo80⟩ := Kd.R_slice HO334.out
                  (first | subst eo80 | (injection eo80 with f1_ f2_ f3_; have f4_ := f1_.symm; have f5_ := f3_.symm; clear f1_ f2_ f3_; subst f4_; subst f5_))
                  refine hK.out _ _ trivial (fun hHeld => ?_)
                  clear hK K
                  refine norm_ (a' := ?_) ?_ ?_
                  rotate_left
                  ·show Act.put _ (some 90) _ = _
                   simp only [Act.put, lT, lZ, lS, i64_w, i32_w]
                   rfl
                  refine pure_ (i := 10) (N := some 91) (v := ?_) (a' := ?_) #[T,T,T,T,T,T,T,T,T,T,T,U,U,U] rfl rfl (any_of HT_.out (by kernel_rfl)) (fun _ _ _ h => h) (Or.inl ⟨by rfl, ?_⟩) ?_ ?_
                  rotate_left
                  ·intro w'
                   go_simp
                   with_reducible rfl
                  rotate_left
                  ·simp only [Act.put, lT, lZ, lS, i64_w, i32_w]
                   rfl
                  refine one_ (i := 11) (N := some 92) #[T,T,T,T,T,T,T,T,T,T,T,T,U,U] rfl rfl (one_of HT_.out (by kernel_rfl)) (by decide) (fun K hK => ?_)
                  refine Kd.N_lit_step k64 _ 64 ?hg (N' := 92) ?hd (xs := ([(⟨y321⟩ : S64), (⟨y332⟩ : S64)] : List (S64))) (inner := [.slice Ao78 y321.length co78, .slice Ao80 y332.length co80]) (ok := (fun k_ => (w.heap.size ≤ k_) ∧ some k_ ≠ (.slice Ao65 t279.length co65 : Value).ownBlock ∧ some k_ ≠ (.slice Ao57 t288.length co57 : Value).ownBlock ∧ some k_ ≠ (v293 : Value).ownBlock ∧ some k_ ≠ (.slice Ao61 t297.length co61 : Value).ownBlock ∧ some k_ ≠ (.slice Ao67 y310.length co67 : Value).ownBlock)) (okp := (fun k_ => (w.heap.size ≤ k_) ∧ some k_ ≠ (.slice Ao65 t279.length co65 : Value).ownBlock ∧ some k_ ≠ (.slice Ao57 t288.length co57 : Value).ownBlock ∧ some k_ ≠ (v293 : Value).ownBlock ∧ some k_ ≠ (.slice Ao61 t297.length co61 : Value).ownBlock ∧ some k_ ≠ (.slice Ao67 y310.length co67 : Value).ownBlock)) ?hr ?hp (fun _ hk => hk) ((show ∀ k_, w79.heap.size ≤ k_ → (fun k_ => (w.heap.size ≤ k_) ∧ some k_ ≠ (.slice Ao65 t279.length co65 : Value).ownBlock ∧ some k_ ≠ (.slice Ao57 t288.length co57 : Value).ownBlock ∧ some k_ ≠ (v293 : Value).ownBlock ∧ some k_ ≠ (.slice Ao61 t297.length co61 : Value).ownBlock ∧ some k_ ≠ (.slice Ao67 y310.length co67 : Value).ownBlock) k_ from fun k_ hk => ⟨(Nat.le_trans (below_size (by exact hopb HB.out)) hk), Kd.fresh' (Kd.N_lt (by (with_reducible repeat (first | apply Kd.N_alloc | apply Kd.N_drewN | apply Kd.N_drew)); exact HO281.out)) k_ hk, Kd.fresh' (Kd.R_lt (by (with_reducible repeat (first | apply Kd.R_alloc | apply Kd.R_drewN | apply Kd.R_drew)); exact HO290.out)) k_ hk, Kd.fresh' (Kd.R_lt (by (with_reducible repeat (first | apply Kd.R_alloc | apply Kd.R_drewN | apply Kd.R_drew)); exact HO294.out)) k_ hk, Kd.fresh' (Kd.R_lt (by (with_reducible repeat (first | apply Kd.R_alloc | apply Kd.R_drewN | apply Kd.R_drew)); exact HO300.out)) k_ hk, Kd.fresh' (Kd.N_lt (by (with_reducible repeat (first | apply Kd.N_alloc | apply Kd.N_drewN | apply Kd.N_drew)); exact HO312.out)) k_ hk⟩) _ (Nat.le_refl _)) (Below.refl _ _) (Nat.le_refl _) (by simp) ?_; (case hd => rfl); (case hg => rfl); (case hr => first | (go_simp; done) | (go_simp; rfl)); (case hp => exact (Reps.one (show Kd.FK k64 _ _ (⟨y321⟩ : S64) [.slice Ao78 y321.length co78] from (k64_mkF _ _ (⟨y321⟩ : S64) (Kd.R_reads' (Kd.R_mono (ok' := (fun k_ => (w.heap.size ≤ k_) ∧ some k_ ≠ (.slice Ao65 t279.length co65 : Value).ownBlock ∧ some k_ ≠ (.slice Ao57 t288.length co57 : Value).ownBlock ∧ some k_ ≠ (v293 : Value).ownBlock ∧ some k_ ≠ (.slice Ao61 t297.length co61 : Value).ownBlock ∧ some k_ ≠ (.slice Ao67 y310.length co67 : Value).ownBlock)) (Kd.R_apart' (Kd.R_apart' (HO323.out) (Kd.N_typed HO281.out) (by decide)) (Kd.N_typed HO312.out) (by decide)) (fun k_ hk => ⟨hk.1.1.1.1, ⟨hk.1.2, ⟨hk.1.1.1.2.1, ⟨hk.1.1.1.2.2.1, ⟨hk.1.1.1.2.2.2, hk.2⟩⟩⟩⟩⟩))).2.1 (Kd.R_F (Kd.R_mono (ok' := (fun k_ => (w.heap.size ≤ k_) ∧ some k_ ≠ (.slice Ao65 t279.length co65 : Value).ownBlock ∧ some k_ ≠ (.slice Ao57 t288.length co57 : Value).ownBlock ∧ some k_ ≠ (v293 : Value).ownBlock ∧ some k_ ≠ (.slice Ao61 t297.length co61 : Value).ownBlock ∧ some k_ ≠ (.slice Ao67 y310.length co67 : Value).ownBlock)) (Kd.R_apart' (Kd.R_apart' (HO323.out) (Kd.N_typed HO281.out) (by decide)) (Kd.N_typed HO312.out) (by decide)) (fun k_ hk => ⟨hk.1.1.1.1, ⟨hk.1.2, ⟨hk.1.1.1.2.1, ⟨hk.1.1.1.2.2.1, ⟨hk.1.1.1.2.2.2, hk.2⟩⟩⟩⟩⟩))))) (Reps.one (show Kd.FK k64 _ _ (⟨y332⟩ : S64) [.slice Ao80 y332.length co80] from (k64_mkF _ _ (⟨y332⟩ : S64) (Kd.R_reads' (Kd.R_mono (ok' := (fun k_ => (w.heap.size ≤ k_) ∧ some k_ ≠ (.slice Ao65 t279.length co65 : Value).ownBlock ∧ some k_ ≠ (.slice Ao57 t288.length co57 : Value).ownBlock ∧ some k_ ≠ (v293 : Value).ownBlock ∧ some k_ ≠ (.slice Ao61 t297.length co61 : Value).ownBlock ∧ some k_ ≠ (.slice Ao67 y310.length co67 : Value).ownBlock)) (Kd.R_apart' (Kd.R_apart' (HO334.out) (Kd.N_typed HO281.out) (by decide)) (Kd.N_typed HO312.out) (by decide)) (fun k_ hk => ⟨hk.1.1.1, ⟨hk.1.2, ⟨hk.1.1.2.1, ⟨hk.1.1.2.2.1, ⟨hk.1.1.2.2.2.1, hk.2⟩⟩⟩⟩⟩))).2.1 (Kd.R_F (Kd.R_mono (ok' := (fun k_ => (w.heap.size ≤ k_) ∧ some k_ ≠ (.slice Ao65 t279.length co65 : Value).ownBlock ∧ some k_ ≠ (.slice Ao57 t288.length co57 : Value).ownBlock ∧ some k_ ≠ (v293 : Value).ownBlock ∧ some k_ ≠ (.slice Ao61 t297.length co61 : Value).ownBlock ∧ some k_ ≠ (.slice Ao67 y310.length co67 : Value).ownBlock)) (Kd.R_apart' (Kd.R_apart' (HO334.out) (Kd.N_typed HO281.out) (by decide)) (Kd.N_typed HO312.out) (by decide)) (fun k_ hk => ⟨hk.1.1.1, ⟨hk.1.2, ⟨hk.1.1.2.1, ⟨hk.1.1.2.2.1, ⟨hk.1.1.2.2.2.1, hk.2⟩⟩⟩⟩⟩))))) (Reps.none _ _))))
                  intro v336 w81 ho82 hb hg_ hnew_
                  clear hg_ hnew_
                  (first | rw [← Ny335.out] at ho82 | (simp only [Int.reduceToNat] at ho82; rw [← Ny335.out] at ho82))
                  replace HO281 := ak (Kd.N_elder' (by (with_reducible repeat (first | apply Kd.N_alloc | apply Kd.N_drewN | apply Kd.N_drew)); exact HO281.out) (Kd.N_base ho82) hb)
                  replace HO290 := ak (Kd.R_below (by (with_reducible repeat (first | apply Kd.R_alloc | apply Kd.R_drewN | apply Kd.R_drew)); exact HO290.out) hb)
                  replace HO294 := ak (Kd.R_below (by (with_reducible repeat (first | apply Kd.R_alloc | apply Kd.R_drewN | apply Kd.R_drew)); exact HO294.out) hb)
                  replace HO300 := ak (Kd.R_below (by (with_reducible repeat (first | apply Kd.R_alloc | apply Kd.R_drewN | apply Kd.R_drew)); exact HO300.out) hb)
                  replace HO309 := ak (Kd.V_elder' (by (with_reducible repeat (first | apply Kd.V_alloc | apply Kd.V_drewN | apply Kd.V_drew)); exact HO309.out) (Kd.N_base ho82) hb)
                  replace HO312 := ak (Kd.N_elder' (by (with_reducible repeat (first | apply Kd.N_alloc | apply Kd.N_drewN | apply Kd.N_drew)); exact HO312.out) (Kd.N_base ho82) hb)
                  replace HO320 := ak (Kd.V_elder' (by (with_reducible repeat (first | apply Kd.V_alloc | apply Kd.V_drewN | apply Kd.V_drew)); exact HO320.out) (Kd.N_base ho82) hb)
                  replace HO331 := ak (Kd.V_elder' (by (with_reducible repeat (first | apply Kd.V_alloc | apply Kd.V_drewN | apply Kd.V_drew)); exact HO331.out) (Kd.N_base ho82) hb)
                  have HO337 := ak (Kd.N_lower ho82 (below_size (by exact hopb HB.out)))
                  replace HB := ak (below_step (by exact hopb HB.out) hb)
                  clear HO323 HO334
                  clear hb ho82
                  obtain ⟨Ao84, co84, eo84⟩ := Kd.N_slice HO337.out
                  (first | subst eo84 | (injection eo84 with f1_ f2_ f3_; have f4_ := f1_.symm; have f5_ := f3_.symm; clear f1_ f2_ f3_; subst f4_; subst f5_))
                  refine hK.out _ _ trivial (fun hHeld => ?_)
                  clear hK K
                  refine norm_ (a' := ?_) ?_ ?_
                  rotate_left
                  ·show Act.put _ (some 92) _ = _
                   simp only [Act.put, lT, lZ, lS, i64_w, i32_w]
                   rfl
                  refine one_ (i := 12) (N := some 93) #[T,T,T,T,T,T,T,T,T,T,T,T,T,U] rfl rfl (one_of HT_.out (by kernel_rfl)) (by decide) (fun K hK => ?_)
                  refine Kd.N_append_rows_step k64 (w0 := w) w.heap.size (by rfl) (.tmp 81) (.tmp 92) 34 64 (.agg #[(.slice none 0 0)]) 24 rfl Try.underlying34 info64 rfl (by decide) (by omega) (.slice Ao67 y310.length co67) y310 y335 _ _ _ (fun k_ => (w.heap.size ≤ k_) ∧ some k_ ≠ (.slice Ao57 t288.length co57 : Value).ownBlock ∧ some k_ ≠ (v293 : Value).ownBlock ∧ some k_ ≠ (.slice Ao61 t297.length co61 : Value).ownBlock) (fun k_ => ((fun k_ => (w.heap.size ≤ k_) ∧ some k_ ≠ (.slice Ao57 t288.length co57 : Value).ownBlock ∧ some k_ ≠ (v293 : Value).ownBlock ∧ some k_ ≠ (.slice Ao61 t297.length co61 : Value).ownBlock)) k_ ∧ some k_ ≠ (.slice Ao67 y310.length co67 : Value).ownBlock) rfl rfl ?aO ?aR (fun _ hk => hk) ?aF ?aB ?aS ?aL ?_
                  (case aR => exact (by skip; exact Kd.N_F (Kd.N_mono (ok' := (fun k_ => ((fun k_ => (w.heap.size ≤ k_) ∧ some k_ ≠ (.slice Ao57 t288.length co57 : Value).ownBlock ∧ some k_ ≠ (v293 : Value).ownBlock ∧ some k_ ≠ (.slice Ao61 t297.length co61 : Value).ownBlock)) k_ ∧ some k_ ≠ (.slice Ao67 y310.length co67 : Value).ownBlock)) (HO337.out) (fun k_ hk => ⟨⟨hk.1, ⟨hk.2.2.1, ⟨hk.2.2.2.1, hk.2.2.2.2.1⟩⟩⟩, hk.2.2.2.2.2⟩))))
                  (case aB => exact (by exact hopb HB.out))
                  (case aF => exact (fun k_ hk => ⟨(Nat.le_trans (below_size (by exact hopb HB.out)) hk), Kd.fresh' (Kd.R_lt (by (with_reducible repeat (first | apply Kd.R_alloc | apply Kd.R_drewN | apply Kd.R_drew)); exact HO290.out)) k_ hk, Kd.fresh' (Kd.R_lt (by (with_reducible repeat (first | apply Kd.R_alloc | apply Kd.R_drewN | apply Kd.R_drew)); exact HO294.out)) k_ hk, Kd.fresh' (Kd.R_lt (by (with_reducible repeat (first | apply Kd.R_alloc | apply Kd.R_drewN | apply Kd.R_drew)); exact HO300.out)) k_ hk⟩))
                  (case aO => exact (by (with_reducible repeat (first | apply Kd.N_alloc | apply Kd.N_drewN | apply Kd.N_drew)); exact Kd.N_mono HO312.out (fun _ hk => ⟨hk.1.1.1, ⟨hk.1.1.2.1, ⟨hk.1.1.2.2.1, hk.1.1.2.2.2.1⟩⟩⟩)))
                  (case aS => exact (below_size (by exact hopb HB.out)))
                  (case aL => have := LMc50.out; omega)
                  intro v339 w83 ho hb hg hat
                  rw [← Ny338.out] at ho
                  replace HO281 := ak (Kd.N_afterv (ok := (fun k_ => (w.heap.size ≤ k_) ∧ some k_ ≠ (.slice Ao57 t288.length co57 : Value).ownBlock ∧ some k_ ≠ (v293 : Value).ownBlock ∧ some k_ ≠ (.slice Ao61 t297.length co61 : Value).ownBlock ∧ some k_ ≠ (.slice Ao84 y335.length co84 : Value).ownBlock)) (by (with_reducible repeat (first | apply Kd.N_alloc | apply Kd.N_drewN | apply Kd.N_drew)); exact Kd.N_mono HO281.out (fun _ hk => ⟨⟨hk.1.1.1, ⟨hk.1.1.2.1, ⟨hk.1.1.2.2.1, ⟨hk.1.1.2.2.2.1, hk.2⟩⟩⟩⟩, hk.1.1.2.2.2.2.1⟩)) hg hat)
                  replace HO290 := ak (Kd.R_over' (by (with_reducible repeat (first | apply Kd.R_alloc | apply Kd.R_drewN | apply Kd.R_drew)); exact HO290.out) (Kd.N_typed (by (with_reducible repeat (first | apply Kd.N_alloc | apply Kd.N_drewN | apply Kd.N_drew)); exact HO312.out)) (by decide) hg)
                  replace HO294 := ak (Kd.R_over' (by (with_reducible repeat (first | apply Kd.R_alloc | apply Kd.R_drewN | apply Kd.R_drew)); exact HO294.out) (Kd.N_typed (by (with_reducible repeat (first | apply Kd.N_alloc | apply Kd.N_drewN | apply Kd.N_drew)); exact HO312.out)) (by decide) hg)
                  replace HO300 := ak (Kd.R_over' (by (with_reducible repeat (first | apply Kd.R_alloc | apply Kd.R_drewN | apply Kd.R_drew)); exact HO300.out) (Kd.N_typed (by (with_reducible repeat (first | apply Kd.N_alloc | apply Kd.N_drewN | apply Kd.N_drew)); exact HO312.out)) (by decide) hg)
                  replace HO309 := ak (Kd.V_afterv (ok := (fun k_ => (w.heap.size ≤ k_) ∧ some k_ ≠ (.slice Ao57 t288.length co57 : Value).ownBlock ∧ some k_ ≠ (v293 : Value).ownBlock ∧ some k_ ≠ (.slice Ao61 t297.length co61 : Value).ownBlock ∧ some k_ ≠ (.slice Ao84 y335.length co84 : Value).ownBlock)) (by (with_reducible repeat (first | apply Kd.V_alloc | apply Kd.V_drewN | apply Kd.V_drew)); exact Kd.V_mono HO309.out (fun _ hk => ⟨⟨hk.1.1.1, ⟨hk.1.1.2.1, ⟨hk.1.1.2.2.1, ⟨hk.1.1.2.2.2.1, hk.2⟩⟩⟩⟩, hk.1.1.2.2.2.2.1⟩)) hg hat)
                  replace HO320 := ak (Kd.V_afterv (ok := (fun k_ => (w.heap.size ≤ k_) ∧ some k_ ≠ (.slice Ao65 t279.length co65 : Value).ownBlock ∧ some k_ ≠ (.slice Ao57 t288.length co57 : Value).ownBlock ∧ some k_ ≠ (v293 : Value).ownBlock ∧ some k_ ≠ (.slice Ao84 y335.length co84 : Value).ownBlock)) (by (with_reducible repeat (first | apply Kd.V_alloc | apply Kd.V_drewN | apply Kd.V_drew)); exact Kd.V_mono HO320.out (fun _ hk => ⟨⟨hk.1.1.1, ⟨hk.1.1.2.1, ⟨hk.1.1.2.2.1, ⟨hk.1.1.2.2.2.1, hk.2⟩⟩⟩⟩, hk.1.1.2.2.2.2.1⟩)) hg hat)
                  replace HO331 := ak (Kd.V_afterv (ok := (fun k_ => (w.heap.size ≤ k_) ∧ some k_ ≠ (.slice Ao65 t279.length co65 : Value).ownBlock ∧ some k_ ≠ (.slice Ao57 t288.length co57 : Value).ownBlock ∧ some k_ ≠ (v293 : Value).ownBlock ∧ some k_ ≠ (.slice Ao84 y335.length co84 : Value).ownBlock)) (by (with_reducible repeat (first | apply Kd.V_alloc | apply Kd.V_drewN | apply Kd.V_drew)); exact Kd.V_mono HO331.out (fun _ hk => ⟨⟨hk.1.1.1, ⟨hk.1.1.2.1, ⟨hk.1.1.2.2.1, ⟨hk.1.1.2.2.2.1, hk.2⟩⟩⟩⟩, hk.1.1.2.2.2.2.1⟩)) hg hat)
                  replace HO337 := ak (Kd.N_afterv (ok := (fun k_ => (w.heap.size ≤ k_) ∧ some k_ ≠ (.slice Ao65 t279.length co65 : Value).ownBlock ∧ some k_ ≠ (.slice Ao57 t288.length co57 : Value).ownBlock ∧ some k_ ≠ (v293 : Value).ownBlock ∧ some k_ ≠ (.slice Ao61 t297.length co61 : Value).ownBlock)) (by (with_reducible repeat (first | apply Kd.N_alloc | apply Kd.N_drewN | apply Kd.N_drew)); exact Kd.N_mono HO337.out (fun _ hk => ⟨⟨hk.1, ⟨hk.2.1, ⟨hk.2.2.1, ⟨hk.2.2.2.1, hk.2.2.2.2.1⟩⟩⟩⟩, hk.2.2.2.2.2⟩)) hg hat)
                  replace HB := ak (hb)
                  have HO340 := ak (ho)
                  clear HO312
                  clear ho hb hg hat
                  refine hK.out _ _ trivial (fun hHeld => ?_)
                  clear hK K
                  refine norm_ (a' := ?_) ?_ ?_
                  rotate_left
                  ·show Act.put _ (some 93) _ = _
                   simp only [Act.put, lT, lZ, lS, i64_w, i32_w]
                   rfl
                  refine pure_ (i := 13) (N := some 14) (v := ?_) (a' := ?_) #[T,T,T,T,T,T,T,T,T,T,T,T,T,T] rfl rfl (any_of HT_.out (by kernel_rfl)) (fun _ _ _ h => h) (Or.inl ⟨by rfl, ?_⟩) ?_ ?_
                  rotate_left
                  ·intro w'
                   go_simp
                   with_reducible rfl
                  rotate_left
                  ·simp only [Act.put, lT, lZ, lS, i64_w, i32_w]
                   rfl
                  refine done_ (done_of HT_.out (by kernel_rfl)) ?_
                  have q85 : ((ji51) : Int) ≤ ((t279.length : Int) : Int) := of_decide_eq_true (by assumption)
                  obtain ⟨i085, hi085, _, hsz85, _⟩ := info_parts info64
                  have hroom85 : t279.length ≤ co65 := (Kd.N_reads' HO281.out).2.1
                  have hC85 : Kd.F k64 _ _ Ao65 t279.length t279 := (Kd.V_at (base := w.heap.size) (Kd.N_V HO281.out)).2.2
                  have q085 : (0 : Int) ≤ ((ji51) : Int) := of_decide_eq_true (by assumption)
                  have hcut85 := cut_from (P := Try.prog) 34 64 .i64 Try.underlying34 hi085 1 hsz85 Ao65 t279.length co65 (ji51) q085 q85
                  have hr85 := Kd.F_cut (m := ((ji51) : Int).toNat) (c := co65) hC85 (by omega) hroom85
                  obtain ⟨A85, hA85⟩ : ∃ A1, A1 = (if co65 = ((ji51) : Int).toNat then Ao65 else (Ao65 : Option Addr).map (·.add (((ji51) : Int).toNat * 1))) := ⟨_, rfl⟩
                  obtain ⟨c85, hc85⟩ : ∃ c1, c1 = co65 - ((ji51) : Int).toNat := ⟨_, rfl⟩
                  have hy85 : y341.length = t279.length - ((ji51) : Int).toNat := (by rw [Ny341.out, List.length_drop] <;> omega)
                  rw [show (t279).drop ((ji51) : Int).toNat = y341 from Ny341.out.symm] at hr85
                  replace hr85 : Kd.F k64 _ _ A85 y341.length y341 := (by rw [hA85]; exact hr85)
                  rw [← hy85, ← hA85, ← hc85] at hcut85
                  have HO345 := ak (show Kd.V k64 64 _ w.heap.size _ (.slice A85 y341.length c85) y341 from Kd.V_mk (by rw [hy85, hc85]; exact Nat.sub_le_sub_right hroom85 _) hr85)
                  have HC345 := ak (show y341.length ≤ c85 from by rw [hy85, hc85]; exact Nat.sub_le_sub_right hroom85 _)
                  clear hr85 hC85 hroom85 hi085 hsz85 hc85
                  have KY85 := ak hy85
                  have KA85 := ak hA85
                  clear hy85 hA85
                  replace q85 := eq_true q85
                  try go_wp2_with (first | ((with_reducible refine gate_builtin (b := .append) (xs := #[.tmp 94, .tmp 98]) rfl ?_); at_builtin; refine Kd.N_append_rows k64 (w0 := w) w.heap.size rfl (.tmp 94) (.tmp 98) 34 64 (.agg #[(.slice none 0 0)]) 24 rfl Try.underlying34 info64 rfl (by decide) (by omega) v339 y338 y341 _ _ _ (fun k_ => (w.heap.size ≤ k_) ∧ some k_ ≠ (.slice Ao57 t288.length co57 : Value).ownBlock ∧ some k_ ≠ (v293 : Value).ownBlock ∧ some k_ ≠ (.slice Ao61 t297.length co61 : Value).ownBlock) (fun k_ => ((fun k_ => (w.heap.size ≤ k_) ∧ some k_ ≠ (.slice Ao57 t288.length co57 : Value).ownBlock ∧ some k_ ≠ (v293 : Value).ownBlock ∧ some k_ ≠ (.slice Ao61 t297.length co61 : Value).ownBlock)) k_ ∧ some k_ ≠ (v339 : Value).ownBlock) rfl rfl ?aO ?aR (fun _ hk => hk) ?aF ?aB ?aS ?aL ?_; (case aR => exact (by skip; exact Kd.V_F (Kd.V_mono (ok' := (fun k_ => ((fun k_ => (w.heap.size ≤ k_) ∧ some k_ ≠ (.slice Ao57 t288.length co57 : Value).ownBlock ∧ some k_ ≠ (v293 : Value).ownBlock ∧ some k_ ≠ (.slice Ao61 t297.length co61 : Value).ownBlock)) k_ ∧ some k_ ≠ (v339 : Value).ownBlock)) (HO345.out) (fun k_ hk => ⟨⟨hk.1.1, ⟨hk.1.2.1, ⟨hk.1.2.2.1, hk.1.2.2.2.1⟩⟩⟩, hk.2⟩)))); (case aB => exact (by exact hopb HB.out)); (case aF => exact (fun k_ hk => ⟨(Nat.le_trans (below_size (by exact hopb HB.out)) hk), Kd.fresh' (Kd.R_lt (by (with_reducible repeat (first | apply Kd.R_alloc | apply Kd.R_drewN | apply Kd.R_drew)); exact HO290.out)) k_ hk, Kd.fresh' (Kd.R_lt (by (with_reducible repeat (first | apply Kd.R_alloc | apply Kd.R_drewN | apply Kd.R_drew)); exact HO294.out)) k_ hk, Kd.fresh' (Kd.R_lt (by (with_reducible repeat (first | apply Kd.R_alloc | apply Kd.R_drewN | apply Kd.R_drew)); exact HO300.out)) k_ hk⟩)); (case aO => exact (by (with_reducible repeat (first | apply Kd.N_alloc | apply Kd.N_drewN | apply Kd.N_drew)); exact HO340.out)); (case aS => exact (below_size (by exact hopb HB.out))); (case aL => have := LMc54.out; omega); intro v347 w86 ho hb hg hat; rw [← Ny346.out] at ho; replace HO281 := ak (Kd.N_afterv (ok := (fun k_ => (w.heap.size ≤ k_) ∧ some k_ ≠ (.slice Ao57 t288.length co57 : Value).ownBlock ∧ some k_ ≠ (v293 : Value).ownBlock ∧ some k_ ≠ (.slice Ao61 t297.length co61 : Value).ownBlock ∧ some k_ ≠ (.slice Ao84 y335.length co84 : Value).ownBlock)) (by (with_reducible repeat (first | apply Kd.N_alloc | apply Kd.N_drewN | apply Kd.N_drew)); exact HO281.out) hg hat); replace HO290 := ak (Kd.R_over' (by (with_reducible repeat (first | apply Kd.R_alloc | apply Kd.R_drewN | apply Kd.R_drew)); exact HO290.out) (Kd.N_typed (by (with_reducible repeat (first | apply Kd.N_alloc | apply Kd.N_drewN | apply Kd.N_drew)); exact HO340.out)) (by decide) hg); replace HO294 := ak (Kd.R_over' (by (with_reducible repeat (first | apply Kd.R_alloc | apply Kd.R_drewN | apply Kd.R_drew)); exact HO294.out) (Kd.N_typed (by (with_reducible repeat (first | apply Kd.N_alloc | apply Kd.N_drewN | apply Kd.N_drew)); exact HO340.out)) (by decide) hg); replace HO300 := ak (Kd.R_over' (by (with_reducible repeat (first | apply Kd.R_alloc | apply Kd.R_drewN | apply Kd.R_drew)); exact HO300.out) (Kd.N_typed (by (with_reducible repeat (first | apply Kd.N_alloc | apply Kd.N_drewN | apply Kd.N_drew)); exact HO340.out)) (by decide) hg); replace HO309 := ak (Kd.V_afterv (ok := (fun k_ => (w.heap.size ≤ k_) ∧ some k_ ≠ (.slice Ao57 t288.length co57 : Value).ownBlock ∧ some k_ ≠ (v293 : Value).ownBlock ∧ some k_ ≠ (.slice Ao61 t297.length co61 : Value).ownBlock ∧ some k_ ≠ (.slice Ao84 y335.length co84 : Value).ownBlock)) (by (with_reducible repeat (first | apply Kd.V_alloc | apply Kd.V_drewN | apply Kd.V_drew)); exact HO309.out) hg hat); replace HO320 := ak (Kd.V_afterv (ok := (fun k_ => (w.heap.size ≤ k_) ∧ some k_ ≠ (.slice Ao65 t279.length co65 : Value).ownBlock ∧ some k_ ≠ (.slice Ao57 t288.length co57 : Value).ownBlock ∧ some k_ ≠ (v293 : Value).ownBlock ∧ some k_ ≠ (.slice Ao84 y335.length co84 : Value).ownBlock)) (by (with_reducible repeat (first | apply Kd.V_alloc | apply Kd.V_drewN | apply Kd.V_drew)); exact HO320.out) hg hat); replace HO331 := ak (Kd.V_afterv (ok := (fun k_ => (w.heap.size ≤ k_) ∧ some k_ ≠ (.slice Ao65 t279.length co65 : Value).ownBlock ∧ some k_ ≠ (.slice Ao57 t288.length co57 : Value).ownBlock ∧ some k_ ≠ (v293 : Value).ownBlock ∧ some k_ ≠ (.slice Ao84 y335.length co84 : Value).ownBlock)) (by (with_reducible repeat (first | apply Kd.V_alloc | apply Kd.V_drewN | apply Kd.V_drew)); exact HO331.out) hg hat); replace HO337 := ak (Kd.N_afterv (ok := (fun k_ => (w.heap.size ≤ k_) ∧ some k_ ≠ (.slice Ao65 t279.length co65 : Value).ownBlock ∧ some k_ ≠ (.slice Ao57 t288.length co57 : Value).ownBlock ∧ some k_ ≠ (v293 : Value).ownBlock ∧ some k_ ≠ (.slice Ao61 t297.length co61 : Value).ownBlock)) (by (with_reducible repeat (first | apply Kd.N_alloc | apply Kd.N_drewN | apply Kd.N_drew)); exact HO337.out) hg hat); replace HO345 := ak (Kd.V_afterv (ok := (fun k_ => (w.heap.size ≤ k_) ∧ some k_ ≠ (.slice Ao57 t288.length co57 : Value).ownBlock ∧ some k_ ≠ (v293 : Value).ownBlock ∧ some k_ ≠ (.slice Ao61 t297.length co61 : Value).ownBlock ∧ some k_ ≠ (.slice Ao84 y335.length co84 : Value).ownBlock)) (by (with_reducible repeat (first | apply Kd.V_alloc | apply Kd.V_drewN | apply Kd.V_drew)); exact HO345.out) hg hat); replace HB := ak (hb); have HO348 := ak (ho); clear HO340; clear ho hb hg hat))
                  go_ret2
                  exact ⟨_, by first | rfl | (simp only [u8_w_, w64_u8_] <;> rfl) | (simp [errW_none, errW_some] <;> rfl) | (simp only [← hji51]; first | rfl | (simp [errW_none, errW_some] <;> rfl)) | (simp [*, errW_none, errW_some] <;> rfl), by (with_reducible repeat (first | apply Kd.N_alloc | apply Kd.N_drewN | apply Kd.N_drew)); exact Kd.N_mono HO348.out (fun _ hk => hk.1), by exact hopb HB.out⟩
                 ·rw [if_neg c54] at H
                  exact absurd H (by simp)
                ·rw [if_neg c53] at H
                 exact absurd H (by simp)
               ·rw [if_neg c52] at H
                exact absurd H (by simp)
              ·rw [if_neg c50] at H
               exact absurd H (by simp)
             ·rw [if_neg c49] at H
              exact absurd H (by simp)
            ·rw [if_neg c47] at H
             exact absurd H (by simp)
           ·rw [if_neg c46] at H
            exact absurd H (by simp)
          ·rw [if_neg c45] at H
           exact absurd H (by simp)
         ·rw [if_neg c44] at H
          exact absurd H (by simp)
       ·rw [if_neg c29] at H
        exact absurd H (by simp)
      ·rw [if_neg c28] at H
       exact absurd H (by simp)
     ·replace c26 := Bool.eq_false_iff.mpr c26
      subst c26
      rw [if_neg (show ¬ (false = true) by decide)] at H
      simp only [Option.some.injEq, Prod.mk.injEq] at H
      obtain ⟨rfl, rfl⟩ := H
      go_wp2_with (first | ((with_reducible refine gate_callee (f := 82) rfl ?_); refine goesL_ (some 30) rfl rfl Try.func82 (by kernel_rfl) rfl #[.slice A0 l0.length c0] rfl (by (try simp only [List.map_toArray, List.map_cons, List.map_nil]); first | done | rfl | (simp only [List.length_drop, List.length_take]; rfl)) ?_; (with_reducible refine (spec_l6Copy.calls kj3 _ _ l0 t279 _ ?side1 ?side2 A16.out).mono ?_); (case side1 => repeat (first | exact (Kd.C_below HR0.out HB.out) | (with_reducible refine Kd.C_alloc ?_ _) | (with_reducible refine Kd.C_drewN ?_ _) | (with_reducible refine Kd.C_drew ?_))); (case side2 => exact HC0.out); rintro e w87 ⟨v280, rfl, ho0, hb⟩; refine ⟨_, rfl, ?_⟩; have HO281 := ak (Kd.N_lower (Kd.N_mono (ok' := fun k_ => (w.heap.size ≤ k_)) (Kd.S_N (Kd.S_bound ho0)) (fun k_ hk_ => (Nat.le_trans (below_size (by exact hopb HB.out)) hk_.2.1))) (below_size (by exact hopb HB.out))); replace HB := ak (below_step (by exact hopb HB.out) hb); (try clear hb); (try clear ho0)) | ((with_reducible refine gate_callee (f := 43) rfl ?_); refine goesL_ (some 44) rfl rfl Try.func43 (by kernel_rfl) rfl #[.slice A0 l0.length c0] rfl (by (try simp only [List.map_toArray, List.map_cons, List.map_nil]); first | done | rfl | (simp only [List.length_drop, List.length_take]; rfl)) ?_; (with_reducible refine (spec_PagesList.calls kj3 _ _ l0 t288 _ ?side1 ?side2 A24.out).mono ?_); (case side1 => repeat (first | exact (Kd.C_below HR0.out HB.out) | (with_reducible refine Kd.C_alloc ?_ _) | (with_reducible refine Kd.C_drewN ?_ _) | (with_reducible refine Kd.C_drew ?_))); (case side2 => exact HC0.out); rintro e w88 ⟨v289, rfl, ho0, hb⟩; refine ⟨_, rfl, ?_⟩; replace HO281 := ak (Kd.N_elder' (by (with_reducible repeat (first | apply Kd.N_alloc | apply Kd.N_drewN | apply Kd.N_drew)); exact HO281.out) (Kd.R_base ho0) hb); have HO290 := ak (Kd.R_lower (Kd.R_newM (M := fun k_ => (w.heap.size ≤ k_)) ho0 (below_size (by exact hopb HB.out)) (fun k_ h_ => h_)) (below_size (by exact hopb HB.out))); replace HB := ak (below_step (by exact hopb HB.out) hb); (try clear hb); (try clear ho0); obtain ⟨Ao89, co89, eo89⟩ := Kd.R_slice HO290.out; subst eo89) | ((with_reducible refine gate_callee (f := 83) rfl ?_); refine goesL_ (some 47) rfl rfl Try.func83 (by kernel_rfl) rfl #[.slice Ao89 t288.length co89, .string a1, .int .i64 a2] rfl (by (try simp only [List.map_toArray, List.map_cons, List.map_nil]); first | done | rfl | (simp only [List.length_drop, List.length_take]; rfl)) ?_; (with_reducible refine (spec_PairPut.calls kj3 _ _ t288 a1 a2 t291 false _ ?side1 ?side2 A25.out).mono ?_); (case side1 => repeat (first | exact (Kd.R_reads' HO290.out).2.2 | (with_reducible refine Kd.C_alloc ?_ _) | (with_reducible refine Kd.C_drewN ?_ _) | (with_reducible refine Kd.C_drew ?_))); (case side2 => exact (Kd.R_reads' HO290.out).2.1); rintro e w90 ⟨v293, rfl, ho0, hb⟩; refine ⟨_, rfl, ?_⟩; replace HO281 := ak (Kd.N_elder' (by (with_reducible repeat (first | apply Kd.N_alloc | apply Kd.N_drewN | apply Kd.N_drew)); exact HO281.out) (Kd.R_base ho0) hb); have HO294 := ak (Kd.R_lower (Kd.R_new' (Kd.R_newM (M := fun k_ => (w.heap.size ≤ k_)) ho0 (below_size (by exact hopb HB.out)) (fun k_ h_ => h_)) (Kd.R_lt (by (with_reducible repeat (first | apply Kd.R_alloc | apply Kd.R_drewN | apply Kd.R_drew)); exact HO290.out))) (below_size (by exact hopb HB.out))); replace HO290 := ak (Kd.R_elder' (by (with_reducible repeat (first | apply Kd.R_alloc | apply Kd.R_drewN | apply Kd.R_drew)); exact HO290.out) (Kd.R_base ho0) hb); replace HB := ak (below_step (by exact hopb HB.out) hb); (try clear hb); (try clear ho0)))
      go_ret2
      exact ⟨_, by first | rfl | (simp only [u8_w_, w64_u8_] <;> rfl) | (simp [errW_none, errW_some] <;> rfl) | (simp [*, errW_none, errW_some] <;> rfl), by (with_reducible repeat (first | apply Kd.N_alloc | apply Kd.N_drewN | apply Kd.N_drew)); exact Kd.N_mono HO281.out (fun _ hk => hk.1.1), by exact hopb HB.out⟩

end Go.Proofs.Ytebgpbcbbjpbfaa.PFnPageFind
