-- Written for this claim by a program of this session (wip/myprint in the proofs' repo)
import Derived.Test.YtengnnhehjcfhaaPFnPagesPutx0
import Derived.Test.YtengnnhehjcfhaaPFnPagesPutx12
import Derived.Test.YtengnnhehjcfhaaWZip
-- slim4
namespace Go.Proofs.Ytengnnhehjcfhaa.PFnPagesPut
open Go.RowKit Go.Proofs.YtengnnhehjcfhaaW.PrintWords Go.Proofs.YtengnnhehjcfhaaW.PrintLast Go.Proofs.YtengnnhehjcfhaaW.PrintMore
attribute [local go_sem] max2_int min2_int max_two min_two max_three min_three max_four min_four max2_strs min2_strs   -- for this text's walks alone
set_option linter.unusedVariables false
set_option linter.unusedSimpArgs false
set_option maxHeartbeats 8000000
set_option maxRecDepth 100000

/-! ### impl_PairPut: function 18 -/
def impl_PairPut.j0 : Nat → List (S65) → ByteArray → Int → Bool → Option ((List (S65)) × Bool)
 | 0, _, _, _, _ => none
 | k + 1, x0, x1, x2, x22 => if x22 = true then (some (([] : List (S65)), false)) else ((impl_pairPlace.f x0 x1).bind fun bt613 => (if bt613.2 = true then ((impl_replaced_Pair.f x0 bt613.1 1 (([(⟨x1, x2⟩ : S65)] : List (S65)))).bind fun t618 => (some (t618, true))) else (if (x0.length : Int) ≥ 48 then ((impl_copyOf_Pair.f x0).bind fun t621 => (some (t621, false))) else ((impl_replaced_Pair.f x0 bt613.1 0 (([(⟨x1, x2⟩ : S65)] : List (S65)))).bind fun t627 => (some (t627, true))))))
def impl_PairPut.f (k : Nat) (l0 : List (S65)) (a1 : ByteArray) (a2 : Int) : Option ((List (S65)) × Bool) := (impl_PairsValid.f k l0).bind fun t610 => (if t610 = true then ((impl_KeyValid.f k a1).bind fun t611 => (if t611 = true then ((impl_valueValid.f a2).bind fun t612 => (impl_PairPut.j0 k l0 a1 a2 (!t612))) else (impl_PairPut.j0 k l0 a1 a2 true))) else (impl_PairPut.j0 k l0 a1 a2 true))
theorem impl_PairPut.mono_l : ∀ k, (∀ y0 y1 y2 y3, LeO (impl_PairPut.j0 k y0 y1 y2 y3) (impl_PairPut.j0 (k + 1) y0 y1 y2 y3))
 | 0 => fun _ _ _ _ r h => by simp [impl_PairPut.j0] at h
 | k + 1 => by
  have ih0 := impl_PairPut.mono_l k
  ·intro y0 y1 y2 y3
   unfold impl_PairPut.j0
   repeat' first
   | (with_reducible exact ih0 _ _ _ _)
   | (with_reducible exact impl_KeyValid.mono _ _)
   | (with_reducible exact impl_PairsValid.mono _ _)
   | (with_reducible exact LeO.refl _)
   | (with_reducible exact LeO.none _)
   | (with_reducible refine LeO.ite ?_ ?_)
   | (with_reducible refine LeO.bind ?_ (fun _ => ?_))
   | exact ih0 _ _ _ _
   | exact LeO.none _
   | refine LeO.ite ?_ ?_
   | refine LeO.bind ?_ (fun _ => ?_)
theorem impl_PairPut.mono : ∀ a0 a1 a2 k, LeO (impl_PairPut.f k a0 a1 a2) (impl_PairPut.f (k + 1) a0 a1 a2) := by
 intro a0 a1 a2 k
 have ih0 := impl_PairPut.mono_l k
 unfold impl_PairPut.f
 repeat' first
   | (with_reducible exact ih0 _ _ _ _)
   | (with_reducible exact impl_KeyValid.mono _ _)
   | (with_reducible exact impl_PairsValid.mono _ _)
   | (with_reducible exact LeO.refl _)
   | (with_reducible exact LeO.none _)
   | (with_reducible refine LeO.ite ?_ ?_)
   | (with_reducible refine LeO.bind ?_ (fun _ => ?_))
   | exact ih0 _ _ _ _
   | exact LeO.none _
   | refine LeO.ite ?_ ?_
   | refine LeO.bind ?_ (fun _ => ?_)
theorem impl_PairPut.calls (k : Nat) (A0 : Option Addr) (c0 : Nat) (l0 : List (S65)) (a1 : ByteArray) (a2 : Int) (r1 : List (S65)) (r2 : Bool) (w : World) (hr0 : Kd.C k65 w A0 l0.length l0) (hc0 : l0.length ≤ c0) (h : impl_PairPut.f k l0 a1 a2 = some (r1, r2)) :
  Calls Try.prog 18 #[.slice A0 l0.length c0, .string a1, .int .i64 a2] w fun e w' => ∃ v0_ : Value, e = .returned (.tuple #[v0_, .bool r2]) ∧ Kd.R k65 65 w' w.heap.size (fun _ => True) v0_ r1 ∧ Below w.heap.size w w' := by
 have hu65 := Try.underlying65
 have HR0 := ak hr0
 have HC0 := ak hc0
 clear hr0 hc0
 have HB := ak (Below.refl w.heap.size w)
 have H : ((impl_PairsValid.f k l0).bind fun t610 => (if t610 = true then ((impl_KeyValid.f k a1).bind fun t611 => (if t611 = true then ((impl_valueValid.f a2).bind fun t612 => (impl_PairPut.j0 k l0 a1 a2 (!t612))) else (impl_PairPut.j0 k l0 a1 a2 true))) else (impl_PairPut.j0 k l0 a1 a2 true))) = some (r1, r2) := h
 clear h
 have HC4 := ak H
 clear H
 go_enter Try.func18, Try.ntmps18
 go_upto_region 1 with (fail)
 go_cut [22] (fun v22 wc => ∃ (kq : Nat) (x22_3 : Bool), v22 = .bool x22_3 ∧ Aside0 (impl_PairPut.j0 kq l0 a1 a2 x22_3 = some (r1, r2)) ∧ Aside0 (kq ≤ k) ∧ Aside0 (Below w.heap.size w wc))
 case first =>
  have H := HC4.out
  clear HC4
  replace H := Option.bind_eq_some_iff.mp H
  obtain ⟨t610, A50, H⟩ := H
  try dsimp only at H
  have A5 := ak A50
  clear A50
  by_cases c6 : t610 = true
  ·subst c6
   rw [if_pos rfl] at H
   replace H := Option.bind_eq_some_iff.mp H
   obtain ⟨t611, A70, H⟩ := H
   try dsimp only at H
   have A7 := ak A70
   clear A70
   by_cases c8 : t611 = true
   ·subst c8
    rw [if_pos rfl] at H
    replace H := Option.bind_eq_some_iff.mp H
    obtain ⟨t612, A90, H⟩ := H
    try dsimp only at H
    have A9 := ak A90
    clear A90
    have H' := ak H
    clear H
    go_wp2_with (first | ((with_reducible refine gate_callee (f := 51) rfl ?_); refine gL (some 11) Try.func51 #[.slice A0 l0.length c0] ?_; (with_reducible refine (impl_PairsValid.calls k _ _ l0 true _ ?side1 ?side2 A5.out).mono ?_); (case side1 => exact hC (Kd.C_below HR0.out HB.out)); (case side2 => exact HC0.out); rintro e w10 ⟨rfl, hb⟩; refine ⟨_, rfl, ?_⟩; replace HB := ak (below_step (by exact hopb HB.out) hb); (try clear hb)) | (go_at_call 30; (with_reducible refine (impl_KeyValid.calls k a1 true _ A7.out).mono ?_); rintro e w' ⟨rfl, ⟨nd, rfl⟩⟩) | (go_at_call 43; (with_reducible refine (impl_valueValid.calls a2 t612 _ A9.out).mono ?_); rintro e w' ⟨rfl, ⟨nd, rfl⟩⟩))
    go_meet
    case rel => exact ⟨_, (!t612), (by first | rfl | (simp [*]; done)), H', ⟨by first | omega | exact Nat.le_refl _⟩, ⟨by exact hopb HB.out⟩⟩
   ·replace c8 := Bool.eq_false_iff.mpr c8
    subst c8
    rw [if_neg (show ¬ (false = true) by decide)] at H
    have H' := ak H
    clear H
    go_wp2_with (first | ((with_reducible refine gate_callee (f := 51) rfl ?_); refine gL (some 11) Try.func51 #[.slice A0 l0.length c0] ?_; (with_reducible refine (impl_PairsValid.calls k _ _ l0 true _ ?side1 ?side2 A5.out).mono ?_); (case side1 => exact hC (Kd.C_below HR0.out HB.out)); (case side2 => exact HC0.out); rintro e w11 ⟨rfl, hb⟩; refine ⟨_, rfl, ?_⟩; replace HB := ak (below_step (by exact hopb HB.out) hb); (try clear hb)) | (go_at_call 30; (with_reducible refine (impl_KeyValid.calls k a1 false _ A7.out).mono ?_); rintro e w' ⟨rfl, ⟨nd, rfl⟩⟩))
    go_meet
    case rel => exact ⟨_, (true), (by first | rfl | (simp [*]; done)), H', ⟨by first | omega | exact Nat.le_refl _⟩, ⟨by exact hopb HB.out⟩⟩
  ·replace c6 := Bool.eq_false_iff.mpr c6
   subst c6
   rw [if_neg (show ¬ (false = true) by decide)] at H
   have H' := ak H
   clear H
   go_wp2_with (first | ((with_reducible refine gate_callee (f := 51) rfl ?_); refine gL (some 11) Try.func51 #[.slice A0 l0.length c0] ?_; (with_reducible refine (impl_PairsValid.calls k _ _ l0 false _ ?side1 ?side2 A5.out).mono ?_); (case side1 => exact hC (Kd.C_below HR0.out HB.out)); (case side2 => exact HC0.out); rintro e w12 ⟨rfl, hb⟩; refine ⟨_, rfl, ?_⟩; replace HB := ak (below_step (by exact hopb HB.out) hb); (try clear hb)))
   go_meet
   case rel => exact ⟨_, (true), (by first | rfl | (simp [*]; done)), H', ⟨by first | omega | exact Nat.le_refl _⟩, ⟨by exact hopb HB.out⟩⟩
 case rest =>
  clear HC4
  try clear c1
  try clear p2
  try clear c5
  try clear c6
  try clear c8
  obtain ⟨kq, x22_3, rfl, HA, HJ3, HB⟩ := hcut
  cases kq with
  | zero => exact absurd HA.out (by simp [impl_PairPut.j0])
  | succ kj3 =>
   have H := HA.out
   clear HA
   simp only [impl_PairPut.j0] at H
   by_cases c13 : x22_3 = true
   ·subst c13
    rw [if_pos rfl] at H
    simp only [Option.some.injEq, Prod.mk.injEq] at H
    obtain ⟨rfl, rfl⟩ := H
    go_wp2
    go_ret2
    exact ⟨_, by first | rfl | (simp [*, errW_none, errW_some] <;> rfl), by first | exact Kd.R_nil _ _ _ _ _ | exact Kd.N_nil _ _ _ _ _ | exact Kd.V_nil _ _ _ _ _ | exact Kd.Q_nil _ _ _ _ _ | exact Kd.S_nil _ _ _ _ _, by exact hopb HB.out⟩
   ·replace c13 := Bool.eq_false_iff.mpr c13
    subst c13
    rw [if_neg (show ¬ (false = true) by decide)] at H
    replace H := Option.bind_eq_some_iff.mp H
    obtain ⟨⟨t613, t614⟩, A140, H⟩ := H
    try dsimp only at H
    have A14 := ak A140
    clear A140
    by_cases c15 : t614 = true
    ·subst c15
     rw [if_pos rfl] at H
     obtain ⟨y615, hy615⟩ : ∃ y_ : List (S65), y_ = (([(⟨a1, a2⟩ : S65)] : List (S65))) := ⟨_, rfl⟩
     replace H : ((impl_replaced_Pair.f l0 t613 1 y615).bind fun t618 => (some (t618, true))) = some (r1, r2) := by first | (rw [hy615]; exact H) | exact H
     have Ny615 := ak hy615
     clear hy615
     replace H := Option.bind_eq_some_iff.mp H
     obtain ⟨t618, A160, H⟩ := H
     try dsimp only at H
     have A16 := ak A160
     clear A160
     simp only [Option.some.injEq, Prod.mk.injEq] at H
     obtain ⟨rfl, rfl⟩ := H
     go_wp2_with (first | ((with_reducible refine gate_callee (f := 44) rfl ?_); refine gL (some 26) Try.func44 #[.slice A0 l0.length c0, .string a1] ?_; (with_reducible refine (impl_pairPlace.calls _ _ l0 a1 t613 true _ ?side1 ?side2 A14.out).mono ?_); (case side1 => exact hC (Kd.C_below HR0.out HB.out)); (case side2 => exact HC0.out); rintro e w17 ⟨rfl, hb⟩; refine ⟨_, rfl, ?_⟩; replace HB := ak (below_step (by exact hopb HB.out) hb); (try clear hb)) | ((with_reducible refine gate_dst (N := 35) rfl ?_); refine Kd.R_lit k65 _ 65 ?hg (N := 35) ?hd (xs := ([(⟨a1, a2⟩ : S65)] : List (S65))) (inner := [.string a1, .int .i64 a2]) (ok := fun _ => True) (okp := fun _ => True) ?hr ?hp (fun _ hk => hk) trivial (Below.refl _ _) (Nat.le_refl _) (by simp) ?_; (case hd => rfl); (case hg => rfl); (case hr => go_simp <;> rfl); (case hp => exact (Reps.c2 (show Kd.M k65 _ _ _ (⟨a1, a2⟩ : S65) [.string a1, .int .i64 a2] from (k65_mkM _ _ _ (⟨a1, a2⟩ : S65) )) (Reps.none _ _))); intro v616 w18 ho19 hb hg_ hnew_; clear hg_ hnew_; (first | rw [← Ny615.out] at ho19 | (simp only [Int.reduceToNat] at ho19; rw [← Ny615.out] at ho19)); have HO617 := ak (Kd.R_lower ho19 (below_size (by exact hopb HB.out))); replace HB := ak (below_step (by exact hopb HB.out) hb); clear hb ho19; obtain ⟨Ao20, co20, eo20⟩ := Kd.R_slice HO617.out; subst eo20) | ((with_reducible refine gate_callee (f := 52) rfl ?_); refine gL (some 36) Try.func52 #[.slice A0 l0.length c0, .int .i64 t613, .int .i64 1, .slice Ao20 y615.length co20] ?_; (with_reducible refine (impl_replaced_Pair.calls _ _ l0 t613 1 _ _ y615 t618 _ ?side1 ?side2 ?side3 ?side4 A16.out).mono ?_); (case side1 => exact hC (Kd.C_below HR0.out HB.out)); (case side2 => exact HC0.out); (case side3 => exact hC (Kd.R_reads' HO617.out).2.2); (case side4 => exact (Kd.R_reads' HO617.out).2.1); rintro e w21 ⟨v619, rfl, ho0, hb⟩; refine ⟨_, rfl, ?_⟩; have HO620 := ak (Kd.R_lower (Kd.R_new' ho0 (Kd.R_lt (hR HO617.out))) (below_size (by exact hopb HB.out))); replace HO617 := ak (Kd.R_elder' (hR HO617.out) (Kd.R_base ho0) hb); replace HB := ak (below_step (by exact hopb HB.out) hb); (try clear hb); (try clear ho0)))
     go_ret2
     exact ⟨_, by first | rfl | (simp [*, errW_none, errW_some] <;> rfl), by (with_reducible repeat (first | apply Kd.R_alloc | apply Kd.R_drewN | apply Kd.R_drew)); exact Kd.R_mono HO620.out (fun _ hk => trivial), by exact hopb HB.out⟩
    ·replace c15 := Bool.eq_false_iff.mpr c15
     subst c15
     rw [if_neg (show ¬ (false = true) by decide)] at H
     by_cases c22 : (l0.length : Int) ≥ 48
     ·rw [if_pos c22] at H
      have c22b0 : decide (48 ≤ (l0.length : Int)) = true := decide_eq_true c22
      have c22b1 : decide (48 ≤ l0.length) = true := decide_eq_true (by omega)
      clear c22
      replace H := Option.bind_eq_some_iff.mp H
      obtain ⟨t621, A230, H⟩ := H
      try dsimp only at H
      have A23 := ak A230
      clear A230
      simp only [Option.some.injEq, Prod.mk.injEq] at H
      obtain ⟨rfl, rfl⟩ := H
      go_wp2_with (first | ((with_reducible refine gate_callee (f := 44) rfl ?_); refine gL (some 26) Try.func44 #[.slice A0 l0.length c0, .string a1] ?_; (with_reducible refine (impl_pairPlace.calls _ _ l0 a1 t613 false _ ?side1 ?side2 A14.out).mono ?_); (case side1 => exact hC (Kd.C_below HR0.out HB.out)); (case side2 => exact HC0.out); rintro e w24 ⟨rfl, hb⟩; refine ⟨_, rfl, ?_⟩; replace HB := ak (below_step (by exact hopb HB.out) hb); (try clear hb)) | ((with_reducible refine gate_callee (f := 46) rfl ?_); refine gL (some 41) Try.func46 #[.slice A0 l0.length c0] ?_; (with_reducible refine (impl_copyOf_Pair.calls _ _ l0 t621 _ ?side1 ?side2 A23.out).mono ?_); (case side1 => exact hC (Kd.C_below HR0.out HB.out)); (case side2 => exact HC0.out); rintro e w25 ⟨v622, rfl, ho0, hb⟩; refine ⟨_, rfl, ?_⟩; have HO623 := ak (Kd.R_lower ho0 (below_size (by exact hopb HB.out))); replace HB := ak (below_step (by exact hopb HB.out) hb); (try clear hb); (try clear ho0)))
      go_ret2
      exact ⟨_, by first | rfl | (simp [*, errW_none, errW_some] <;> rfl), by (with_reducible repeat (first | apply Kd.R_alloc | apply Kd.R_drewN | apply Kd.R_drew)); exact HO623.out, by exact hopb HB.out⟩
     ·rw [if_neg c22] at H
      have c22b0 : decide (48 ≤ (l0.length : Int)) = false := decide_eq_false c22
      have c22b1 : decide (48 ≤ l0.length) = false := decide_eq_false (by omega)
      clear c22
      obtain ⟨y624, hy624⟩ : ∃ y_ : List (S65), y_ = (([(⟨a1, a2⟩ : S65)] : List (S65))) := ⟨_, rfl⟩
      replace H : ((impl_replaced_Pair.f l0 t613 0 y624).bind fun t627 => (some (t627, true))) = some (r1, r2) := by first | (rw [hy624]; exact H) | exact H
      have Ny624 := ak hy624
      clear hy624
      replace H := Option.bind_eq_some_iff.mp H
      obtain ⟨t627, A260, H⟩ := H
      try dsimp only at H
      have A26 := ak A260
      clear A260
      simp only [Option.some.injEq, Prod.mk.injEq] at H
      obtain ⟨rfl, rfl⟩ := H
      go_wp2_with (first | ((with_reducible refine gate_callee (f := 44) rfl ?_); refine gL (some 26) Try.func44 #[.slice A0 l0.length c0, .string a1] ?_; (with_reducible refine (impl_pairPlace.calls _ _ l0 a1 t613 false _ ?side1 ?side2 A14.out).mono ?_); (case side1 => exact hC (Kd.C_below HR0.out HB.out)); (case side2 => exact HC0.out); rintro e w27 ⟨rfl, hb⟩; refine ⟨_, rfl, ?_⟩; replace HB := ak (below_step (by exact hopb HB.out) hb); (try clear hb)) | ((with_reducible refine gate_dst (N := 47) rfl ?_); refine Kd.R_lit k65 _ 65 ?hg (N := 47) ?hd (xs := ([(⟨a1, a2⟩ : S65)] : List (S65))) (inner := [.string a1, .int .i64 a2]) (ok := fun _ => True) (okp := fun _ => True) ?hr ?hp (fun _ hk => hk) trivial (Below.refl _ _) (Nat.le_refl _) (by simp) ?_; (case hd => rfl); (case hg => rfl); (case hr => go_simp <;> rfl); (case hp => exact (Reps.c2 (show Kd.M k65 _ _ _ (⟨a1, a2⟩ : S65) [.string a1, .int .i64 a2] from (k65_mkM _ _ _ (⟨a1, a2⟩ : S65) )) (Reps.none _ _))); intro v625 w28 ho29 hb hg_ hnew_; clear hg_ hnew_; (first | rw [← Ny624.out] at ho29 | (simp only [Int.reduceToNat] at ho29; rw [← Ny624.out] at ho29)); have HO626 := ak (Kd.R_lower ho29 (below_size (by exact hopb HB.out))); replace HB := ak (below_step (by exact hopb HB.out) hb); clear hb ho29; obtain ⟨Ao30, co30, eo30⟩ := Kd.R_slice HO626.out; subst eo30) | ((with_reducible refine gate_callee (f := 52) rfl ?_); refine gL (some 48) Try.func52 #[.slice A0 l0.length c0, .int .i64 t613, .int .i64 0, .slice Ao30 y624.length co30] ?_; (with_reducible refine (impl_replaced_Pair.calls _ _ l0 t613 0 _ _ y624 t627 _ ?side1 ?side2 ?side3 ?side4 A26.out).mono ?_); (case side1 => exact hC (Kd.C_below HR0.out HB.out)); (case side2 => exact HC0.out); (case side3 => exact hC (Kd.R_reads' HO626.out).2.2); (case side4 => exact (Kd.R_reads' HO626.out).2.1); rintro e w31 ⟨v628, rfl, ho0, hb⟩; refine ⟨_, rfl, ?_⟩; have HO629 := ak (Kd.R_lower (Kd.R_new' ho0 (Kd.R_lt (hR HO626.out))) (below_size (by exact hopb HB.out))); replace HO626 := ak (Kd.R_elder' (hR HO626.out) (Kd.R_base ho0) hb); replace HB := ak (below_step (by exact hopb HB.out) hb); (try clear hb); (try clear ho0)))
      go_ret2
      exact ⟨_, by first | rfl | (simp [*, errW_none, errW_some] <;> rfl), by (with_reducible repeat (first | apply Kd.R_alloc | apply Kd.R_drewN | apply Kd.R_drew)); exact Kd.R_mono HO629.out (fun _ hk => trivial), by exact hopb HB.out⟩

/-! ### impl_allPairs: function 45 -/
def impl_allPairs.l0 : Nat → List (S65) → List (S53) → Int → Int → Option ((List (S65)))
 | 0, _, _, _, _ => none
 | k + 1, x3, x6, x7, x8 => if x8 < x7 then (if 0 ≤ x8 then (if x8 < (x6.length : Int) then (if x3.length + ((rd_T53 x6 x8).f0).length < 5864062014805 then (impl_allPairs.l0 k (x3 ++ ((rd_T53 x6 x8).f0)) x6 x7 (wrap64 (x8 + 1))) else (none)) else (none)) else (none)) else (some x3)
def impl_allPairs.f (k : Nat) (l0 : List (S53)) : Option ((List (S65))) := impl_allPairs.l0 k ([] : List (S65)) l0 (l0.length : Int) 0
theorem impl_allPairs.mono_l : ∀ k, (∀ y0 y1 y2 y3, LeO (impl_allPairs.l0 k y0 y1 y2 y3) (impl_allPairs.l0 (k + 1) y0 y1 y2 y3))
 | 0 => fun _ _ _ _ r h => by simp [impl_allPairs.l0] at h
 | k + 1 => by
  have ih0 := impl_allPairs.mono_l k
  ·intro y0 y1 y2 y3
   unfold impl_allPairs.l0
   repeat' first
   | (with_reducible exact ih0 _ _ _ _)
   | (with_reducible exact LeO.refl _)
   | (with_reducible exact LeO.none _)
   | (with_reducible refine LeO.ite ?_ ?_)
   | (with_reducible refine LeO.bind ?_ (fun _ => ?_))
   | exact ih0 _ _ _ _
   | exact LeO.none _
   | refine LeO.ite ?_ ?_
   | refine LeO.bind ?_ (fun _ => ?_)
theorem impl_allPairs.mono : ∀ a0 k, LeO (impl_allPairs.f k a0) (impl_allPairs.f (k + 1) a0) := by
 intro a0 k
 have ih0 := impl_allPairs.mono_l k
 unfold impl_allPairs.f
 repeat' first
   | (with_reducible exact ih0 _ _ _ _)
   | (with_reducible exact LeO.refl _)
   | (with_reducible exact LeO.none _)
   | (with_reducible refine LeO.ite ?_ ?_)
   | (with_reducible refine LeO.bind ?_ (fun _ => ?_))
   | exact ih0 _ _ _ _
   | exact LeO.none _
   | refine LeO.ite ?_ ?_
   | refine LeO.bind ?_ (fun _ => ?_)
theorem impl_allPairs.calls (k : Nat) (A0 : Option Addr) (c0 : Nat) (l0 : List (S53)) (r : List (S65)) (w : World) (hr0 : Kd.C k53 w A0 l0.length l0) (hc0 : l0.length ≤ c0) (h : impl_allPairs.f k l0 = some r) :
  Calls Try.prog 45 #[.slice A0 l0.length c0] w fun e w' => ∃ v0_ : Value, e = .returned (v0_) ∧ Kd.R k65 65 w' w.heap.size (fun _ => True) v0_ r ∧ Below w.heap.size w w' := by
 have hu53 := Try.underlying53
 have HR0 := ak hr0
 have HC0 := ak hc0
 clear hr0 hc0
 have HB := ak (Below.refl w.heap.size w)
 have H : (impl_allPairs.l0 k ([] : List (S65)) l0 (l0.length : Int) 0) = some r := h
 clear h
 have H' := ak H
 clear H
 go_enter Try.func45, Try.ntmps45
 go_wp2
 go_loopg [3, 8] k (fun kq v3 v8 w' => ∃ (x3_1 : List (S65)) (x8_1 : Int), v8 = .int .i64 x8_1 ∧ Aside0 (impl_allPairs.l0 kq x3_1 l0 (l0.length : Int) x8_1 = some r) ∧ Aside0 (kq ≤ k) ∧ Aside0 (Kd.R k65 65 w' w.heap.size (fun _ => True) v3 x3_1) ∧ Aside0 (Below w.heap.size w w'))
 case atStart => exact ⟨(([] : List (S65))), (0), (by first | rfl | (simp [*]; done)), H', ⟨Nat.le_refl _⟩, ⟨by first | exact Kd.R_nil _ _ _ _ _ | exact Kd.N_nil _ _ _ _ _ | exact Kd.V_nil _ _ _ _ _ | exact Kd.Q_nil _ _ _ _ _ | exact Kd.S_nil _ _ _ _ _⟩, ⟨by exact hopb HB.out⟩⟩
 case round =>
  clear H'
  obtain ⟨x3_1, x8_1, rfl, HA, HK1, HO_3, HB⟩ := hrel
  cases gk with
  | zero => exact absurd HA.out (by simp [impl_allPairs.l0])
  | succ k1 =>
   have H := HA.out
   clear HA
   simp only [impl_allPairs.l0] at H
   by_cases c2 : x8_1 < (l0.length : Int)
   ·rw [if_pos c2] at H
    have c2b0 : decide (x8_1 < (l0.length : Int)) = true := decide_eq_true c2
    clear c2
    by_cases c3 : 0 ≤ x8_1
    ·rw [if_pos c3] at H
     have c3b0 : decide (0 ≤ x8_1) = true := decide_eq_true c3
     clear c3
     by_cases c4 : x8_1 < (l0.length : Int)
     ·rw [if_pos c4] at H
      have c4b0 : decide (x8_1 < (l0.length : Int)) = true := decide_eq_true c4
      clear c4
      by_cases c5 : x3_1.length + ((rd_T53 l0 x8_1).f0).length < 5864062014805
      ·rw [if_pos c5] at H
       have LMc5 := ak c5
       clear c5
       obtain ⟨y632, hy632⟩ : ∃ y_ : List (S65), y_ = (x3_1 ++ ((rd_T53 l0 x8_1).f0)) := ⟨_, rfl⟩
       replace H : (impl_allPairs.l0 k1 y632 l0 (l0.length : Int) (wrap64 (x8_1 + 1))) = some r := by first | (rw [hy632]; exact H) | exact H
       have Ny632 := ak hy632
       clear hy632
       have H' := ak H
       clear H
       have p630 : 0 ≤ (x8_1 : Int) := of_decide_eq_true (by assumption)
       have q630 : x8_1 < (l0.length : Int) := of_decide_eq_true (by assumption)
       obtain ⟨ad630, A630_0, c630_0, e630, hx630_0, hl630_0, hi630_0⟩ := at_T53 HR0.out x8_1 p630 q630
       cases e630
       replace hx630_0 := bc HB.out hx630_0
       have HR630_0 := ak hi630_0
       have HC630_0 := ak hl630_0
       clear hi630_0 hl630_0
       replace p630 := eq_true p630
       replace q630 := eq_true q630
       go_wp2_with (first | ((with_reducible refine gate_dst (N := 5) rfl ?_); refine box_event ?hg (N := 5) ?hd (cs := #[.slice none 0 0]) (t := 53) ?hr ?_; (case hd => rfl); (case hg => rfl); (case hr => go_simp <;> rfl); intro gb631 hg w6 hbox hb; have n0_ := ak (Kd.R_below (hR HO_3.out) hb); have n1_ := ak (below_step (by exact hopb HB.out) hb); have n2_ := ak (hbox); have n3_ := ak ((by rw [hg]; exact (below_size (by exact hopb HB.out)) : w.heap.size ≤ gb631)); have n4_ := n3_; clear HO_3; clear HB; have HO_3 := n0_; have HB := n1_; have BK631 := n2_; have GW631 := n3_; have GE631 := n4_; clear n0_ n1_ n2_ n3_ n4_; clear hb hbox hg; have hcz7_0 : w6.cell? ⟨gb631, 0, none⟩ = some (.slice none 0 0) := (blk_cell BK631.out 0).trans rfl; have hfz7_0 := blk_frozen BK631.out 0) | ((with_reducible refine gate_builtin (b := .append) (xs := #[.tmp 12, .tmp 14]) rfl ?_); at_builtin; refine Kd.R_append_rows k65 (w0 := w) w.heap.size rfl (.tmp 12) (.tmp 14) 36 65 (.agg #[(.string ⟨#[]⟩), (.int .i64 0)]) 24 rfl Try.underlying36 info65 rfl (by decide) (by omega) u3 x3_1 ((rd_T53 l0 x8_1).f0) _ _ _ (fun _ => True) (fun _ => False) rfl rfl ?aO ?aR (fun _ _ h => h) (fun _ h => h.elim) ?aF ?aB ?aS ?aL ?_; (case aR => exact Kd.C_below HR630_0.out (by repeat (first | exact HB.out | apply bA | apply bN | apply bD | refine bS ?_ GE631.out))); (case aB => exact (by repeat (first | exact HB.out | apply bA | apply bN | apply bD | refine bS ?_ GE631.out))); (case aF => exact (fun _ _ => trivial)); (case aO => exact (by (with_reducible repeat (first | apply Kd.R_alloc | apply Kd.R_drewN | apply Kd.R_drew)); exact Kd.R_mono (Kd.R_far (p := ⟨gb631, 0, none⟩) (Kd.R_types HO_3.out BK631.out (by decide)) (fun _ hk => hk.2) (.slice A630_0 ((rd_T53 l0 x8_1).f0).length c630_0)) (fun _ hk => trivial))); (case aS => exact (below_size (by repeat (first | exact HB.out | apply bA | apply bN | apply bD | refine bS ?_ GE631.out)))); (case aL => have := LMc5.out; omega); intro v633 w8 ho hb hg hat; rw [← Ny632.out] at ho; replace BK631 := ak (blk_grown (g := gb631) (o := .cells #[.slice A630_0 ((rd_T53 l0 x8_1).f0).length c630_0] 53 (0, 0)) (by (with_reducible repeat (first | refine kN ?_ _ | refine kD ?_ | refine kA ?_ _)); refine blk_put (cs := #[.slice none 0 0]) ?_ 0 _ rfl; exact hop BK631.out) hg (Kd.R_ne HO_3.out BK631.out (by decide))); replace HB := ak (hb); have HO634 := ak (ho); clear HO_3; clear ho hb hg hat))
       go_roundg k1
       case measure => have := HK1.out; omega
       case rel => exact ⟨(y632), (wrap64 (x8_1 + 1)), (by first | rfl | (simp [*]; done)), H', ⟨by have := HK1.out; omega⟩, ⟨by (with_reducible repeat (first | apply Kd.R_alloc | apply Kd.R_drewN | apply Kd.R_drew)); exact HO634.out⟩, ⟨by repeat (first | exact HB.out | apply bA | apply bN | apply bD | refine bS ?_ GE631.out)⟩⟩
      ·rw [if_neg c5] at H
       exact absurd H (by simp)
     ·rw [if_neg c4] at H
      exact absurd H (by simp)
    ·rw [if_neg c3] at H
     exact absurd H (by simp)
   ·rw [if_neg c2] at H
    have c2b0 : decide (x8_1 < (l0.length : Int)) = false := decide_eq_false c2
    clear c2
    obtain rfl := Option.some.inj H
    go_wp2
    go_ret
    exact ⟨_, by first | rfl | (simp [*, errW_none, errW_some] <;> rfl), by (with_reducible repeat (first | apply Kd.R_alloc | apply Kd.R_drewN | apply Kd.R_drew)); exact HO_3.out, by exact hopb HB.out⟩

/-! ### impl_PagesValid: function 20 -/
def impl_PagesValid.l0 : Nat → List (S53) → List (S53) → Int → Int → Option (Bool)
 | 0, _, _, _, _ => none
 | k + 1, x0, x9, x10, x11 => if x11 < x10 then (if 0 ≤ x11 then (if x11 < (x9.length : Int) then (if (x0.length : Int) = 1 then (if (((rd_T53 x9 x11).f0).length : Int) < 1 then (some false) else (if (((rd_T53 x9 x11).f0).length : Int) > 4 then (some false) else (impl_PagesValid.l0 k x0 x9 x10 (wrap64 (x11 + 1))))) else (if (((rd_T53 x9 x11).f0).length : Int) < 2 then (some false) else (if (((rd_T53 x9 x11).f0).length : Int) > 4 then (some false) else (impl_PagesValid.l0 k x0 x9 x10 (wrap64 (x11 + 1)))))) else (none)) else (none)) else ((impl_allPairs.f k x0).bind fun t635 => ((impl_PairsValid.f k t635).bind fun t638 => (some t638)))
def impl_PagesValid.f (k : Nat) (l0 : List (S53)) : Option (Bool) := if (l0.length : Int) > 48 then (some false) else (impl_PagesValid.l0 k l0 l0 (l0.length : Int) 0)
theorem impl_PagesValid.mono_l : ∀ k, (∀ y0 y1 y2 y3, LeO (impl_PagesValid.l0 k y0 y1 y2 y3) (impl_PagesValid.l0 (k + 1) y0 y1 y2 y3))
 | 0 => fun _ _ _ _ r h => by simp [impl_PagesValid.l0] at h
 | k + 1 => by
  have ih0 := impl_PagesValid.mono_l k
  ·intro y0 y1 y2 y3
   unfold impl_PagesValid.l0
   repeat' first
   | (with_reducible exact ih0 _ _ _ _)
   | (with_reducible exact impl_PairsValid.mono _ _)
   | (with_reducible exact impl_allPairs.mono _ _)
   | (with_reducible exact LeO.refl _)
   | (with_reducible exact LeO.none _)
   | (with_reducible refine LeO.ite ?_ ?_)
   | (with_reducible refine LeO.bind ?_ (fun _ => ?_))
   | exact ih0 _ _ _ _
   | exact LeO.none _
   | refine LeO.ite ?_ ?_
   | refine LeO.bind ?_ (fun _ => ?_)
theorem impl_PagesValid.mono : ∀ a0 k, LeO (impl_PagesValid.f k a0) (impl_PagesValid.f (k + 1) a0) := by
 intro a0 k
 have ih0 := impl_PagesValid.mono_l k
 unfold impl_PagesValid.f
 repeat' first
   | (with_reducible exact ih0 _ _ _ _)
   | (with_reducible exact impl_PairsValid.mono _ _)
   | (with_reducible exact impl_allPairs.mono _ _)
   | (with_reducible exact LeO.refl _)
   | (with_reducible exact LeO.none _)
   | (with_reducible refine LeO.ite ?_ ?_)
   | (with_reducible refine LeO.bind ?_ (fun _ => ?_))
   | exact ih0 _ _ _ _
   | exact LeO.none _
   | refine LeO.ite ?_ ?_
   | refine LeO.bind ?_ (fun _ => ?_)
theorem impl_PagesValid.calls (k : Nat) (A0 : Option Addr) (c0 : Nat) (l0 : List (S53)) (r : Bool) (w : World) (hr0 : Kd.C k53 w A0 l0.length l0) (hc0 : l0.length ≤ c0) (h : impl_PagesValid.f k l0 = some r) :
  Calls Try.prog 20 #[.slice A0 l0.length c0] w fun e w' => e = .returned (.bool r) ∧ Below w.heap.size w w' := by
 have hu53 := Try.underlying53
 have HR0 := ak hr0
 have HC0 := ak hc0
 clear hr0 hc0
 have HB := ak (Below.refl w.heap.size w)
 have H : (if (l0.length : Int) > 48 then (some false) else (impl_PagesValid.l0 k l0 l0 (l0.length : Int) 0)) = some r := h
 clear h
 by_cases c2 : (l0.length : Int) > 48
 ·rw [if_pos c2] at H
  have c2b0 : decide (48 < (l0.length : Int)) = true := decide_eq_true c2
  have c2b1 : decide (48 < l0.length) = true := decide_eq_true (by omega)
  clear c2
  obtain rfl := Option.some.inj H
  go_enter Try.func20, Try.ntmps20
  go_wp2
  go_ret
  exact ⟨by first | rfl | (simp [*, errW_none, errW_some] <;> rfl), by exact hopb HB.out⟩
 ·rw [if_neg c2] at H
  have c2b0 : decide (48 < (l0.length : Int)) = false := decide_eq_false c2
  have c2b1 : decide (48 < l0.length) = false := decide_eq_false (by omega)
  clear c2
  have H' := ak H
  clear H
  go_enter Try.func20, Try.ntmps20
  go_wp2
  go_loopg [11] k (fun kq v11 w' => ∃ (x11_1 : Int), v11 = .int .i64 x11_1 ∧ Aside0 (impl_PagesValid.l0 kq l0 l0 (l0.length : Int) x11_1 = some r) ∧ Aside0 (kq ≤ k) ∧ Aside0 (Below w.heap.size w w'))
  case atStart => exact ⟨(0), (by first | rfl | (simp [*]; done)), H', ⟨Nat.le_refl _⟩, ⟨by exact hopb HB.out⟩⟩
  case round =>
   clear H'
   try clear c2
   try clear c2b0
   try clear c2b1
   try clear p2
   obtain ⟨x11_1, rfl, HA, HK1, HB⟩ := hrel
   cases gk with
   | zero => exact absurd HA.out (by simp [impl_PagesValid.l0])
   | succ k1 =>
    have H := HA.out
    clear HA
    simp only [impl_PagesValid.l0] at H
    by_cases c3 : x11_1 < (l0.length : Int)
    ·rw [if_pos c3] at H
     have c3b0 : decide (x11_1 < (l0.length : Int)) = true := decide_eq_true c3
     clear c3
     by_cases c4 : 0 ≤ x11_1
     ·rw [if_pos c4] at H
      have c4b0 : decide (0 ≤ x11_1) = true := decide_eq_true c4
      clear c4
      by_cases c5 : x11_1 < (l0.length : Int)
      ·rw [if_pos c5] at H
       have c5b0 : decide (x11_1 < (l0.length : Int)) = true := decide_eq_true c5
       clear c5
       by_cases c6 : (l0.length : Int) = 1
       ·rw [if_pos c6] at H
        have c6b0 : ((l0.length : Int) == 1) = true := beq_iff_eq.mpr c6
        have c6b1 : ((l0.length : Int) != 1) = false := bne_eq_false_iff_eq.mpr c6
        clear c6
        by_cases c7 : (((rd_T53 l0 x11_1).f0).length : Int) < 1
        ·rw [if_pos c7] at H
         have c7b0 : decide ((((rd_T53 l0 x11_1).f0).length : Int) < 1) = true := decide_eq_true c7
         have c7b1 : decide (((rd_T53 l0 x11_1).f0).length < 1) = true := decide_eq_true (by omega)
         clear c7
         obtain rfl := Option.some.inj H
         have p639 : 0 ≤ (x11_1 : Int) := of_decide_eq_true (by assumption)
         have q639 : x11_1 < (l0.length : Int) := of_decide_eq_true (by assumption)
         obtain ⟨ad639, A639_0, c639_0, e639, hx639_0, hl639_0, hi639_0⟩ := at_T53 HR0.out x11_1 p639 q639
         cases e639
         replace hx639_0 := bc HB.out hx639_0
         have HR639_0 := ak hi639_0
         have HC639_0 := ak hl639_0
         clear hi639_0 hl639_0
         replace p639 := eq_true p639
         replace q639 := eq_true q639
         go_wp2_with (first | ((with_reducible refine gate_dst (N := 4) rfl ?_); (try (refine gate_guard (by rfl) ?_; dsimp only)); refine box_event ?hg (N := 4) ?hd (cs := #[.slice none 0 0]) (t := 53) ?hr ?_; (case hd => rfl); (case hg => rfl); (case hr => go_simp <;> rfl); intro gb640 hg w8 hbox hb; have n0_ := ak (below_step (by exact hopb HB.out) hb); have n1_ := ak (hbox); have n2_ := ak ((by rw [hg]; exact (below_size (by exact hopb HB.out)) : w.heap.size ≤ gb640)); have n3_ := n2_; clear HB; have HB := n0_; have BK640 := n1_; have GW640 := n2_; have GE640 := n3_; clear n0_ n1_ n2_ n3_; clear hb hbox hg; have hcz9_0 : w8.cell? ⟨gb640, 0, none⟩ = some (.slice none 0 0) := (blk_cell BK640.out 0).trans rfl; have hfz9_0 := blk_frozen BK640.out 0))
         go_ret
         exact ⟨by first | rfl | (simp [*, errW_none, errW_some] <;> rfl), by repeat (first | exact HB.out | apply bA | apply bN | apply bD | refine bS ?_ GE640.out)⟩
        ·rw [if_neg c7] at H
         have c7b0 : decide ((((rd_T53 l0 x11_1).f0).length : Int) < 1) = false := decide_eq_false c7
         have c7b1 : decide (((rd_T53 l0 x11_1).f0).length < 1) = false := decide_eq_false (by omega)
         clear c7
         by_cases c10 : (((rd_T53 l0 x11_1).f0).length : Int) > 4
         ·rw [if_pos c10] at H
          have c10b0 : decide (4 < (((rd_T53 l0 x11_1).f0).length : Int)) = true := decide_eq_true c10
          have c10b1 : decide (4 < ((rd_T53 l0 x11_1).f0).length) = true := decide_eq_true (by omega)
          clear c10
          obtain rfl := Option.some.inj H
          have p639 : 0 ≤ (x11_1 : Int) := of_decide_eq_true (by assumption)
          have q639 : x11_1 < (l0.length : Int) := of_decide_eq_true (by assumption)
          obtain ⟨ad639, A639_0, c639_0, e639, hx639_0, hl639_0, hi639_0⟩ := at_T53 HR0.out x11_1 p639 q639
          cases e639
          replace hx639_0 := bc HB.out hx639_0
          have HR639_0 := ak hi639_0
          have HC639_0 := ak hl639_0
          clear hi639_0 hl639_0
          replace p639 := eq_true p639
          replace q639 := eq_true q639
          go_wp2_with (first | ((with_reducible refine gate_dst (N := 4) rfl ?_); (try (refine gate_guard (by rfl) ?_; dsimp only)); refine box_event ?hg (N := 4) ?hd (cs := #[.slice none 0 0]) (t := 53) ?hr ?_; (case hd => rfl); (case hg => rfl); (case hr => go_simp <;> rfl); intro gb640 hg w11 hbox hb; have n0_ := ak (below_step (by exact hopb HB.out) hb); have n1_ := ak (hbox); have n2_ := ak ((by rw [hg]; exact (below_size (by exact hopb HB.out)) : w.heap.size ≤ gb640)); have n3_ := n2_; clear HB; have HB := n0_; have BK640 := n1_; have GW640 := n2_; have GE640 := n3_; clear n0_ n1_ n2_ n3_; clear hb hbox hg; have hcz12_0 : w11.cell? ⟨gb640, 0, none⟩ = some (.slice none 0 0) := (blk_cell BK640.out 0).trans rfl; have hfz12_0 := blk_frozen BK640.out 0))
          go_ret
          exact ⟨by first | rfl | (simp [*, errW_none, errW_some] <;> rfl), by repeat (first | exact HB.out | apply bA | apply bN | apply bD | refine bS ?_ GE640.out)⟩
         ·rw [if_neg c10] at H
          have c10b0 : decide (4 < (((rd_T53 l0 x11_1).f0).length : Int)) = false := decide_eq_false c10
          have c10b1 : decide (4 < ((rd_T53 l0 x11_1).f0).length) = false := decide_eq_false (by omega)
          clear c10
          have H' := ak H
          clear H
          have p639 : 0 ≤ (x11_1 : Int) := of_decide_eq_true (by assumption)
          have q639 : x11_1 < (l0.length : Int) := of_decide_eq_true (by assumption)
          obtain ⟨ad639, A639_0, c639_0, e639, hx639_0, hl639_0, hi639_0⟩ := at_T53 HR0.out x11_1 p639 q639
          cases e639
          replace hx639_0 := bc HB.out hx639_0
          have HR639_0 := ak hi639_0
          have HC639_0 := ak hl639_0
          clear hi639_0 hl639_0
          replace p639 := eq_true p639
          replace q639 := eq_true q639
          go_wp2_with (first | ((with_reducible refine gate_dst (N := 4) rfl ?_); (try (refine gate_guard (by rfl) ?_; dsimp only)); refine box_event ?hg (N := 4) ?hd (cs := #[.slice none 0 0]) (t := 53) ?hr ?_; (case hd => rfl); (case hg => rfl); (case hr => go_simp <;> rfl); intro gb640 hg w13 hbox hb; have n0_ := ak (below_step (by exact hopb HB.out) hb); have n1_ := ak (hbox); have n2_ := ak ((by rw [hg]; exact (below_size (by exact hopb HB.out)) : w.heap.size ≤ gb640)); have n3_ := n2_; clear HB; have HB := n0_; have BK640 := n1_; have GW640 := n2_; have GE640 := n3_; clear n0_ n1_ n2_ n3_; clear hb hbox hg; have hcz14_0 : w13.cell? ⟨gb640, 0, none⟩ = some (.slice none 0 0) := (blk_cell BK640.out 0).trans rfl; have hfz14_0 := blk_frozen BK640.out 0))
          go_roundg k1
          case measure => have := HK1.out; omega
          case rel => exact ⟨(wrap64 (x11_1 + 1)), (by first | rfl | (simp [*]; done)), H', ⟨by have := HK1.out; omega⟩, ⟨by repeat (first | exact HB.out | apply bA | apply bN | apply bD | refine bS ?_ GE640.out)⟩⟩
       ·rw [if_neg c6] at H
        have c6b0 : ((l0.length : Int) == 1) = false := beq_eq_false_iff_ne.mpr c6
        have c6b1 : ((l0.length : Int) != 1) = true := bne_iff_ne.mpr c6
        by_cases c15 : (((rd_T53 l0 x11_1).f0).length : Int) < 2
        ·rw [if_pos c15] at H
         have c15b0 : decide ((((rd_T53 l0 x11_1).f0).length : Int) < 2) = true := decide_eq_true c15
         have c15b1 : decide (((rd_T53 l0 x11_1).f0).length < 2) = true := decide_eq_true (by omega)
         clear c15
         obtain rfl := Option.some.inj H
         have p639 : 0 ≤ (x11_1 : Int) := of_decide_eq_true (by assumption)
         have q639 : x11_1 < (l0.length : Int) := of_decide_eq_true (by assumption)
         obtain ⟨ad639, A639_0, c639_0, e639, hx639_0, hl639_0, hi639_0⟩ := at_T53 HR0.out x11_1 p639 q639
         cases e639
         replace hx639_0 := bc HB.out hx639_0
         have HR639_0 := ak hi639_0
         have HC639_0 := ak hl639_0
         clear hi639_0 hl639_0
         replace p639 := eq_true p639
         replace q639 := eq_true q639
         go_wp2_with (first | ((with_reducible refine gate_dst (N := 4) rfl ?_); (try (refine gate_guard (by rfl) ?_; dsimp only)); refine box_event ?hg (N := 4) ?hd (cs := #[.slice none 0 0]) (t := 53) ?hr ?_; (case hd => rfl); (case hg => rfl); (case hr => go_simp <;> rfl); intro gb640 hg w16 hbox hb; have n0_ := ak (below_step (by exact hopb HB.out) hb); have n1_ := ak (hbox); have n2_ := ak ((by rw [hg]; exact (below_size (by exact hopb HB.out)) : w.heap.size ≤ gb640)); have n3_ := n2_; clear HB; have HB := n0_; have BK640 := n1_; have GW640 := n2_; have GE640 := n3_; clear n0_ n1_ n2_ n3_; clear hb hbox hg; have hcz17_0 : w16.cell? ⟨gb640, 0, none⟩ = some (.slice none 0 0) := (blk_cell BK640.out 0).trans rfl; have hfz17_0 := blk_frozen BK640.out 0))
         go_ret
         exact ⟨by first | rfl | (simp [*, errW_none, errW_some] <;> rfl), by repeat (first | exact HB.out | apply bA | apply bN | apply bD | refine bS ?_ GE640.out)⟩
        ·rw [if_neg c15] at H
         have c15b0 : decide ((((rd_T53 l0 x11_1).f0).length : Int) < 2) = false := decide_eq_false c15
         have c15b1 : decide (((rd_T53 l0 x11_1).f0).length < 2) = false := decide_eq_false (by omega)
         clear c15
         by_cases c18 : (((rd_T53 l0 x11_1).f0).length : Int) > 4
         ·rw [if_pos c18] at H
          have c18b0 : decide (4 < (((rd_T53 l0 x11_1).f0).length : Int)) = true := decide_eq_true c18
          have c18b1 : decide (4 < ((rd_T53 l0 x11_1).f0).length) = true := decide_eq_true (by omega)
          clear c18
          obtain rfl := Option.some.inj H
          have p639 : 0 ≤ (x11_1 : Int) := of_decide_eq_true (by assumption)
          have q639 : x11_1 < (l0.length : Int) := of_decide_eq_true (by assumption)
          obtain ⟨ad639, A639_0, c639_0, e639, hx639_0, hl639_0, hi639_0⟩ := at_T53 HR0.out x11_1 p639 q639
          cases e639
          replace hx639_0 := bc HB.out hx639_0
          have HR639_0 := ak hi639_0
          have HC639_0 := ak hl639_0
          clear hi639_0 hl639_0
          replace p639 := eq_true p639
          replace q639 := eq_true q639
          go_wp2_with (first | ((with_reducible refine gate_dst (N := 4) rfl ?_); (try (refine gate_guard (by rfl) ?_; dsimp only)); refine box_event ?hg (N := 4) ?hd (cs := #[.slice none 0 0]) (t := 53) ?hr ?_; (case hd => rfl); (case hg => rfl); (case hr => go_simp <;> rfl); intro gb640 hg w19 hbox hb; have n0_ := ak (below_step (by exact hopb HB.out) hb); have n1_ := ak (hbox); have n2_ := ak ((by rw [hg]; exact (below_size (by exact hopb HB.out)) : w.heap.size ≤ gb640)); have n3_ := n2_; clear HB; have HB := n0_; have BK640 := n1_; have GW640 := n2_; have GE640 := n3_; clear n0_ n1_ n2_ n3_; clear hb hbox hg; have hcz20_0 : w19.cell? ⟨gb640, 0, none⟩ = some (.slice none 0 0) := (blk_cell BK640.out 0).trans rfl; have hfz20_0 := blk_frozen BK640.out 0))
          go_ret
          exact ⟨by first | rfl | (simp [*, errW_none, errW_some] <;> rfl), by repeat (first | exact HB.out | apply bA | apply bN | apply bD | refine bS ?_ GE640.out)⟩
         ·rw [if_neg c18] at H
          have c18b0 : decide (4 < (((rd_T53 l0 x11_1).f0).length : Int)) = false := decide_eq_false c18
          have c18b1 : decide (4 < ((rd_T53 l0 x11_1).f0).length) = false := decide_eq_false (by omega)
          clear c18
          have H' := ak H
          clear H
          have p639 : 0 ≤ (x11_1 : Int) := of_decide_eq_true (by assumption)
          have q639 : x11_1 < (l0.length : Int) := of_decide_eq_true (by assumption)
          obtain ⟨ad639, A639_0, c639_0, e639, hx639_0, hl639_0, hi639_0⟩ := at_T53 HR0.out x11_1 p639 q639
          cases e639
          replace hx639_0 := bc HB.out hx639_0
          have HR639_0 := ak hi639_0
          have HC639_0 := ak hl639_0
          clear hi639_0 hl639_0
          replace p639 := eq_true p639
          replace q639 := eq_true q639
          go_wp2_with (first | ((with_reducible refine gate_dst (N := 4) rfl ?_); (try (refine gate_guard (by rfl) ?_; dsimp only)); refine box_event ?hg (N := 4) ?hd (cs := #[.slice none 0 0]) (t := 53) ?hr ?_; (case hd => rfl); (case hg => rfl); (case hr => go_simp <;> rfl); intro gb640 hg w21 hbox hb; have n0_ := ak (below_step (by exact hopb HB.out) hb); have n1_ := ak (hbox); have n2_ := ak ((by rw [hg]; exact (below_size (by exact hopb HB.out)) : w.heap.size ≤ gb640)); have n3_ := n2_; clear HB; have HB := n0_; have BK640 := n1_; have GW640 := n2_; have GE640 := n3_; clear n0_ n1_ n2_ n3_; clear hb hbox hg; have hcz22_0 : w21.cell? ⟨gb640, 0, none⟩ = some (.slice none 0 0) := (blk_cell BK640.out 0).trans rfl; have hfz22_0 := blk_frozen BK640.out 0))
          go_roundg k1
          case measure => have := HK1.out; omega
          case rel => exact ⟨(wrap64 (x11_1 + 1)), (by first | rfl | (simp [*]; done)), H', ⟨by have := HK1.out; omega⟩, ⟨by repeat (first | exact HB.out | apply bA | apply bN | apply bD | refine bS ?_ GE640.out)⟩⟩
      ·rw [if_neg c5] at H
       exact absurd H (by simp)
     ·rw [if_neg c4] at H
      exact absurd H (by simp)
    ·rw [if_neg c3] at H
     have c3b0 : decide (x11_1 < (l0.length : Int)) = false := decide_eq_false c3
     clear c3
     replace H := Option.bind_eq_some_iff.mp H
     obtain ⟨t635, A230, H⟩ := H
     try dsimp only at H
     have A23 := ak A230
     clear A230
     replace H := Option.bind_eq_some_iff.mp H
     obtain ⟨t638, A240, H⟩ := H
     try dsimp only at H
     have A24 := ak A240
     clear A240
     obtain rfl := Option.some.inj H
     go_wp2_with (first | ((with_reducible refine gate_callee (f := 45) rfl ?_); refine gL (some 31) Try.func45 #[.slice A0 l0.length c0] ?_; (with_reducible refine (impl_allPairs.calls k1 _ _ l0 t635 _ ?side1 ?side2 A23.out).mono ?_); (case side1 => exact hC (Kd.C_below HR0.out HB.out)); (case side2 => exact HC0.out); rintro e w25 ⟨v636, rfl, ho0, hb⟩; refine ⟨_, rfl, ?_⟩; have HO637 := ak (Kd.R_lower ho0 (below_size (by exact hopb HB.out))); replace HB := ak (below_step (by exact hopb HB.out) hb); (try clear hb); (try clear ho0); obtain ⟨Ao26, co26, eo26⟩ := Kd.R_slice HO637.out; subst eo26) | ((with_reducible refine gate_callee (f := 51) rfl ?_); refine gL (some 32) Try.func51 #[.slice Ao26 t635.length co26] ?_; (with_reducible refine (impl_PairsValid.calls k1 _ _ t635 t638 _ ?side1 ?side2 A24.out).mono ?_); (case side1 => exact hC (Kd.R_reads' HO637.out).2.2); (case side2 => exact (Kd.R_reads' HO637.out).2.1); rintro e w27 ⟨rfl, hb⟩; refine ⟨_, rfl, ?_⟩; replace HO637 := ak (Kd.R_below (hR HO637.out) hb); replace HB := ak (below_step (by exact hopb HB.out) hb); (try clear hb)))
     go_ret
     exact ⟨by first | rfl | (simp [*, errW_none, errW_some] <;> rfl), by exact hopb HB.out⟩

/-! ### impl_copyPages: function 31 -/
def impl_copyPages.l0 : Nat → List (S53) → List (S53) → Int → Int → Option ((List (S53)))
 | 0, _, _, _, _ => none
 | k + 1, x3, x6, x7, x8 => if x8 < x7 then (if 0 ≤ x8 then (if x8 < (x6.length : Int) then ((impl_copyOf_Pair.f ((rd_T53 x6 x8).f0)).bind fun t643 => (if x3.length < 5864062014805 then (impl_copyPages.l0 k (x3 ++ [(⟨t643⟩ : S53)]) x6 x7 (wrap64 (x8 + 1))) else (none))) else (none)) else (none)) else (some x3)
def impl_copyPages.f (k : Nat) (l0 : List (S53)) : Option ((List (S53))) := impl_copyPages.l0 k ([] : List (S53)) l0 (l0.length : Int) 0
theorem impl_copyPages.mono_l : ∀ k, (∀ y0 y1 y2 y3, LeO (impl_copyPages.l0 k y0 y1 y2 y3) (impl_copyPages.l0 (k + 1) y0 y1 y2 y3))
 | 0 => fun _ _ _ _ r h => by simp [impl_copyPages.l0] at h
 | k + 1 => by
  have ih0 := impl_copyPages.mono_l k
  ·intro y0 y1 y2 y3
   unfold impl_copyPages.l0
   repeat' first
   | (with_reducible exact ih0 _ _ _ _)
   | (with_reducible exact LeO.refl _)
   | (with_reducible exact LeO.none _)
   | (with_reducible refine LeO.ite ?_ ?_)
   | (with_reducible refine LeO.bind ?_ (fun _ => ?_))
   | exact ih0 _ _ _ _
   | exact LeO.none _
   | refine LeO.ite ?_ ?_
   | refine LeO.bind ?_ (fun _ => ?_)
theorem impl_copyPages.mono : ∀ a0 k, LeO (impl_copyPages.f k a0) (impl_copyPages.f (k + 1) a0) := by
 intro a0 k
 have ih0 := impl_copyPages.mono_l k
 unfold impl_copyPages.f
 repeat' first
   | (with_reducible exact ih0 _ _ _ _)
   | (with_reducible exact LeO.refl _)
   | (with_reducible exact LeO.none _)
   | (with_reducible refine LeO.ite ?_ ?_)
   | (with_reducible refine LeO.bind ?_ (fun _ => ?_))
   | exact ih0 _ _ _ _
   | exact LeO.none _
   | refine LeO.ite ?_ ?_
   | refine LeO.bind ?_ (fun _ => ?_)
theorem impl_copyPages.calls (k : Nat) (A0 : Option Addr) (c0 : Nat) (l0 : List (S53)) (r : List (S53)) (w : World) (hr0 : Kd.C k53 w A0 l0.length l0) (hc0 : l0.length ≤ c0) (h : impl_copyPages.f k l0 = some r) :
  Calls Try.prog 31 #[.slice A0 l0.length c0] w fun e w' => ∃ v0_ : Value, e = .returned (v0_) ∧ Kd.S k53 53 w' w.heap.size (fun _ => True) v0_ r ∧ Below w.heap.size w w' := by
 have hu53 := Try.underlying53
 have HR0 := ak hr0
 have HC0 := ak hc0
 clear hr0 hc0
 have HB := ak (Below.refl w.heap.size w)
 have H : (impl_copyPages.l0 k ([] : List (S53)) l0 (l0.length : Int) 0) = some r := h
 clear h
 have H' := ak H
 clear H
 go_enter Try.func31, Try.ntmps31
 go_wp2
 go_loopg [3, 8] k (fun kq v3 v8 w' => ∃ (x3_1 : List (S53)) (x8_1 : Int), v8 = .int .i64 x8_1 ∧ Aside0 (impl_copyPages.l0 kq x3_1 l0 (l0.length : Int) x8_1 = some r) ∧ Aside0 (kq ≤ k) ∧ Aside0 (Kd.S k53 53 w' w.heap.size (fun _ => True) v3 x3_1) ∧ Aside0 (Below w.heap.size w w'))
 case atStart => exact ⟨(([] : List (S53))), (0), (by first | rfl | (simp [*]; done)), H', ⟨Nat.le_refl _⟩, ⟨by first | exact Kd.S_nil _ _ _ _ _ | exact Kd.N_nil _ _ _ _ _ | exact Kd.V_nil _ _ _ _ _ | exact Kd.Q_nil _ _ _ _ _ | exact Kd.R_nil _ _ _ _ _⟩, ⟨by exact hopb HB.out⟩⟩
 case round =>
  clear H'
  obtain ⟨x3_1, x8_1, rfl, HA, HK1, HO_3, HB⟩ := hrel
  cases gk with
  | zero => exact absurd HA.out (by simp [impl_copyPages.l0])
  | succ k1 =>
   have H := HA.out
   clear HA
   simp only [impl_copyPages.l0] at H
   by_cases c2 : x8_1 < (l0.length : Int)
   ·rw [if_pos c2] at H
    have c2b0 : decide (x8_1 < (l0.length : Int)) = true := decide_eq_true c2
    clear c2
    by_cases c3 : 0 ≤ x8_1
    ·rw [if_pos c3] at H
     have c3b0 : decide (0 ≤ x8_1) = true := decide_eq_true c3
     clear c3
     by_cases c4 : x8_1 < (l0.length : Int)
     ·rw [if_pos c4] at H
      have c4b0 : decide (x8_1 < (l0.length : Int)) = true := decide_eq_true c4
      clear c4
      replace H := Option.bind_eq_some_iff.mp H
      obtain ⟨t643, A50, H⟩ := H
      try dsimp only at H
      have A5 := ak A50
      clear A50
      by_cases c6 : x3_1.length < 5864062014805
      ·rw [if_pos c6] at H
       have LMc6 := ak c6
       clear c6
       obtain ⟨y646, hy646⟩ : ∃ y_ : List (S53), y_ = (x3_1 ++ [(⟨t643⟩ : S53)]) := ⟨_, rfl⟩
       replace H : (impl_copyPages.l0 k1 y646 l0 (l0.length : Int) (wrap64 (x8_1 + 1))) = some r := by first | (rw [hy646]; exact H) | exact H
       have Ny646 := ak hy646
       clear hy646
       have H' := ak H
       clear H
       have p641 : 0 ≤ (x8_1 : Int) := of_decide_eq_true (by assumption)
       have q641 : x8_1 < (l0.length : Int) := of_decide_eq_true (by assumption)
       obtain ⟨ad641, A641_0, c641_0, e641, hx641_0, hl641_0, hi641_0⟩ := at_T53 HR0.out x8_1 p641 q641
       cases e641
       replace hx641_0 := bc HB.out hx641_0
       have HR641_0 := ak hi641_0
       have HC641_0 := ak hl641_0
       clear hi641_0 hl641_0
       replace p641 := eq_true p641
       replace q641 := eq_true q641
       go_wp2_with (first | ((with_reducible refine gate_dst (N := 5) rfl ?_); refine box_event ?hg (N := 5) ?hd (cs := #[.slice none 0 0]) (t := 53) ?hr ?_; (case hd => rfl); (case hg => rfl); (case hr => go_simp <;> rfl); intro gb642 hg w7 hbox hb; have n0_ := ak (Kd.S_below (Kd.S_elderB (hS HO_3.out) gb642 (Nat.le_of_eq hg.symm)) hb); have n1_ := ak (below_step (by exact hopb HB.out) hb); have n2_ := ak (hbox); have n3_ := ak ((by rw [hg]; exact (below_size (by exact hopb HB.out)) : w.heap.size ≤ gb642)); have n4_ := n3_; clear HO_3; clear HB; have HO_3 := n0_; have HB := n1_; have BK642 := n2_; have GW642 := n3_; have GE642 := n4_; clear n0_ n1_ n2_ n3_ n4_; clear hb hbox hg; have hcz8_0 : w7.cell? ⟨gb642, 0, none⟩ = some (.slice none 0 0) := (blk_cell BK642.out 0).trans rfl; have hfz8_0 := blk_frozen BK642.out 0) | ((with_reducible refine gate_callee (f := 46) rfl ?_); refine gL (some 15) Try.func46 #[.slice A641_0 ((rd_T53 l0 x8_1).f0).length c641_0] ?_; (with_reducible refine (impl_copyOf_Pair.calls _ _ ((rd_T53 l0 x8_1).f0) t643 _ ?side1 ?side2 A5.out).mono ?_); (case side1 => exact Kd.C_below HR641_0.out (by repeat (first | exact HB.out | apply bA | apply bN | apply bD | refine bS ?_ GE642.out))); (case side2 => exact HC641_0.out); rintro e w9 ⟨v644, rfl, ho0, hb⟩; refine ⟨_, rfl, ?_⟩; replace HO_3 := ak (Kd.S_elder' (by (with_reducible repeat (first | apply Kd.S_alloc | apply Kd.S_drewN | apply Kd.S_drew)); exact (Kd.S_mono (Kd.S_far (p := ⟨gb642, 0, none⟩) (Kd.S_mono HO_3.out (fun k_ hk => (⟨hk, hk.2⟩ : _ ∧ k_ ≠ gb642))) (fun _ hk => hk.2) (.slice A641_0 ((rd_T53 l0 x8_1).f0).length c641_0)) (fun _ h_ => h_.1))) (Kd.R_base ho0) hb); have HO645 := ak (Kd.R_lower ho0 (below_size (by repeat (first | exact HB.out | apply bA | apply bN | apply bD | refine bS ?_ GE642.out)))); replace BK642 := ak (blk_below (g := gb642) (o := .cells #[.slice A641_0 ((rd_T53 l0 x8_1).f0).length c641_0] 53 (0, 0)) (by (with_reducible repeat (first | refine kN ?_ _ | refine kD ?_ | refine kA ?_ _)); refine blk_put (cs := #[.slice none 0 0]) ?_ 0 _ rfl; exact hop BK642.out) hb); replace HB := ak (below_step (by repeat (first | exact HB.out | apply bA | apply bN | apply bD | refine bS ?_ GE642.out)) hb); (try clear hb); (try clear ho0); obtain ⟨Ao10, co10, eo10⟩ := Kd.R_slice HO645.out; subst eo10) | ((with_reducible refine gate_builtin (b := .append) (xs := #[.tmp 12, .tmp 17]) rfl ?_); at_builtin; refine Kd.S_append k53 (w0 := w) w.heap.size rfl (.tmp 12) (.tmp 17) 24 53 (.agg #[(.slice none 0 0)]) 24 rfl Try.underlying24 info53 rfl (by decide) (by omega) u3 x3_1 (⟨t643⟩ : S53) [.slice Ao10 t643.length co10] (fun k_ => k_ ≠ gb642) (fun k_ => some k_ = (.slice Ao10 t643.length co10 : Value).ownBlock) rfl rfl ?aP (fun k_ hk_ => ((Kd.R_mono (ok' := fun k_ => ((fun k_ => k_ ≠ gb642)) k_ ∧ some k_ ≠ (u3 : Value).ownBlock) (Kd.R_types (Kd.R_apart' (HO645.out) (Kd.S_typed HO_3.out) (by decide)) BK642.out (by decide)) (fun k_ hk => ⟨hk.2, hk.1.2⟩))).1 k_ hk_.symm) ?aF ?aO ?aB ?aS ?aL ?_; (case aP => exact k53_mkM _ _ _ (⟨t643⟩ : S53) (Kd.R_mono (Kd.R_tight rfl (Kd.R_mono (ok' := fun k_ => ((fun k_ => k_ ≠ gb642)) k_ ∧ some k_ ≠ (u3 : Value).ownBlock) (Kd.R_types (Kd.R_apart' (HO645.out) (Kd.S_typed HO_3.out) (by decide)) BK642.out (by decide)) (fun k_ hk => ⟨hk.2, hk.1.2⟩))) (fun _ h_ => h_))); (case aB => exact (by repeat (first | exact HB.out | apply bA | apply bN | apply bD | refine bS ?_ GE642.out))); (case aF => exact (fun k_ hk => Kd.freshB (g := gb642) (o := .cells #[.slice A641_0 ((rd_T53 l0 x8_1).f0).length c641_0] 53 (0, 0)) (by exact hop BK642.out) k_ hk)); (case aO => exact (by (with_reducible repeat (first | apply Kd.S_alloc | apply Kd.S_drewN | apply Kd.S_drew)); exact Kd.S_mono HO_3.out (fun k_ hk => ⟨hk.1.2, fun e_ => hk.2 e_⟩))); (case aS => exact (below_size (by repeat (first | exact HB.out | apply bA | apply bN | apply bD | refine bS ?_ GE642.out)))); (case aL => have := LMc6.out; omega); intro v647 w11 ho hb hg hat; rw [← Ny646.out] at ho; replace BK642 := ak (blk_grown (g := gb642) (o := .cells #[.slice A641_0 ((rd_T53 l0 x8_1).f0).length c641_0] 53 (0, 0)) (by exact hop BK642.out) hg (Kd.S_away HO_3.out (fun _ hk => hk.1.2))); replace HB := ak (hb); have HO648 := ak (ho); clear HO_3 HO645; clear ho hb hg hat))
       go_roundg k1
       case measure => have := HK1.out; omega
       case rel => exact ⟨(y646), (wrap64 (x8_1 + 1)), (by first | rfl | (simp [*]; done)), H', ⟨by have := HK1.out; omega⟩, ⟨by (with_reducible repeat (first | apply Kd.S_alloc | apply Kd.S_drewN | apply Kd.S_drew)); exact Kd.S_mono HO648.out (fun _ hk => trivial)⟩, ⟨by repeat (first | exact HB.out | apply bA | apply bN | apply bD | refine bS ?_ GE642.out)⟩⟩
      ·rw [if_neg c6] at H
       exact absurd H (by simp)
     ·rw [if_neg c4] at H
      exact absurd H (by simp)
    ·rw [if_neg c3] at H
     exact absurd H (by simp)
   ·rw [if_neg c2] at H
    have c2b0 : decide (x8_1 < (l0.length : Int)) = false := decide_eq_false c2
    clear c2
    obtain rfl := Option.some.inj H
    go_wp2
    go_ret
    exact ⟨_, by first | rfl | (simp [*, errW_none, errW_some] <;> rfl), by (with_reducible repeat (first | apply Kd.S_alloc | apply Kd.S_drewN | apply Kd.S_drew)); exact HO_3.out, by exact hopb HB.out⟩

/-! ### impl_pageOf: function 32 -/
def impl_pageOf.l0 : Nat → ByteArray → Int → List (S53) → Int → Int → Option (Int)
 | 0, _, _, _, _, _ => none
 | k + 1, x1, x5, x8, x9, x10 => if x10 < x9 then (if 0 ≤ x10 then (if x10 < (x8.length : Int) then (if 0 < (((rd_T53 x8 x10).f0).length : Int) then (if (Op.bytesLess (((rd_T65 ((rd_T53 x8 x10).f0) 0).f0).toList) x1.toList) = true then (impl_pageOf.l0 k x1 x10 x8 x9 (wrap64 (x10 + 1))) else (if ((rd_T65 ((rd_T53 x8 x10).f0) 0).f0).toList = x1.toList then (impl_pageOf.l0 k x1 x10 x8 x9 (wrap64 (x10 + 1))) else (impl_pageOf.l0 k x1 x5 x8 x9 (wrap64 (x10 + 1))))) else (none)) else (none)) else (none)) else (some x5)
def impl_pageOf.f (k : Nat) (l0 : List (S53)) (a1 : ByteArray) : Option (Int) := impl_pageOf.l0 k a1 0 l0 (l0.length : Int) 0
theorem impl_pageOf.mono_l : ∀ k, (∀ y0 y1 y2 y3 y4, LeO (impl_pageOf.l0 k y0 y1 y2 y3 y4) (impl_pageOf.l0 (k + 1) y0 y1 y2 y3 y4))
 | 0 => fun _ _ _ _ _ r h => by simp [impl_pageOf.l0] at h
 | k + 1 => by
  have ih0 := impl_pageOf.mono_l k
  ·intro y0 y1 y2 y3 y4
   unfold impl_pageOf.l0
   repeat' first
   | (with_reducible exact ih0 _ _ _ _ _)
   | (with_reducible exact LeO.refl _)
   | (with_reducible exact LeO.none _)
   | (with_reducible refine LeO.ite ?_ ?_)
   | (with_reducible refine LeO.bind ?_ (fun _ => ?_))
   | exact ih0 _ _ _ _ _
   | exact LeO.none _
   | refine LeO.ite ?_ ?_
   | refine LeO.bind ?_ (fun _ => ?_)
theorem impl_pageOf.mono : ∀ a0 a1 k, LeO (impl_pageOf.f k a0 a1) (impl_pageOf.f (k + 1) a0 a1) := by
 intro a0 a1 k
 have ih0 := impl_pageOf.mono_l k
 unfold impl_pageOf.f
 repeat' first
   | (with_reducible exact ih0 _ _ _ _ _)
   | (with_reducible exact LeO.refl _)
   | (with_reducible exact LeO.none _)
   | (with_reducible refine LeO.ite ?_ ?_)
   | (with_reducible refine LeO.bind ?_ (fun _ => ?_))
   | exact ih0 _ _ _ _ _
   | exact LeO.none _
   | refine LeO.ite ?_ ?_
   | refine LeO.bind ?_ (fun _ => ?_)
theorem impl_pageOf.calls (k : Nat) (A0 : Option Addr) (c0 : Nat) (l0 : List (S53)) (a1 : ByteArray) (r : Int) (w : World) (hr0 : Kd.C k53 w A0 l0.length l0) (hc0 : l0.length ≤ c0) (h : impl_pageOf.f k l0 a1 = some r) :
  Calls Try.prog 32 #[.slice A0 l0.length c0, .string a1] w fun e w' => e = .returned (.int .i64 r) ∧ Below w.heap.size w w' := by
 have hu53 := Try.underlying53
 have HR0 := ak hr0
 have HC0 := ak hc0
 clear hr0 hc0
 have HB := ak (Below.refl w.heap.size w)
 have H : (impl_pageOf.l0 k a1 0 l0 (l0.length : Int) 0) = some r := h
 clear h
 have H' := ak H
 clear H
 go_enter Try.func32, Try.ntmps32
 go_wp2
 go_loopg [5, 10] k (fun kq v5 v10 w' => ∃ (x5_1 : Int) (x10_1 : Int), v5 = .int .i64 x5_1 ∧ v10 = .int .i64 x10_1 ∧ Aside0 (impl_pageOf.l0 kq a1 x5_1 l0 (l0.length : Int) x10_1 = some r) ∧ Aside0 (kq ≤ k) ∧ Aside0 (Below w.heap.size w w'))
 case atStart => exact ⟨(0), (0), (by first | rfl | (simp [*]; done)), (by first | rfl | (simp [*]; done)), H', ⟨Nat.le_refl _⟩, ⟨by exact hopb HB.out⟩⟩
 case round =>
  clear H'
  try clear p2
  obtain ⟨x5_1, x10_1, rfl, rfl, HA, HK1, HB⟩ := hrel
  cases gk with
  | zero => exact absurd HA.out (by simp [impl_pageOf.l0])
  | succ k1 =>
   have H := HA.out
   clear HA
   simp only [impl_pageOf.l0] at H
   by_cases c3 : x10_1 < (l0.length : Int)
   ·rw [if_pos c3] at H
    have c3b0 : decide (x10_1 < (l0.length : Int)) = true := decide_eq_true c3
    clear c3
    by_cases c4 : 0 ≤ x10_1
    ·rw [if_pos c4] at H
     have c4b0 : decide (0 ≤ x10_1) = true := decide_eq_true c4
     clear c4
     by_cases c5 : x10_1 < (l0.length : Int)
     ·rw [if_pos c5] at H
      have c5b0 : decide (x10_1 < (l0.length : Int)) = true := decide_eq_true c5
      clear c5
      by_cases c6 : 0 < (((rd_T53 l0 x10_1).f0).length : Int)
      ·rw [if_pos c6] at H
       have c6b0 : decide (0 < (((rd_T53 l0 x10_1).f0).length : Int)) = true := decide_eq_true c6
       have c6b1 : decide (0 < ((rd_T53 l0 x10_1).f0).length) = true := decide_eq_true (by omega)
       clear c6
       by_cases c7 : (Op.bytesLess (((rd_T65 ((rd_T53 l0 x10_1).f0) 0).f0).toList) a1.toList) = true
       ·rw [if_pos c7] at H
        have c7b0 : (Op.bytesLess (((rd_T65 ((rd_T53 l0 x10_1).f0) 0).f0).toList) a1.toList) = true := c7
        clear c7
        have H' := ak H
        clear H
        have p649 : 0 ≤ (x10_1 : Int) := of_decide_eq_true (by assumption)
        have q649 : x10_1 < (l0.length : Int) := of_decide_eq_true (by assumption)
        obtain ⟨ad649, A649_0, c649_0, e649, hx649_0, hl649_0, hi649_0⟩ := at_T53 HR0.out x10_1 p649 q649
        cases e649
        replace hx649_0 := bc HB.out hx649_0
        have HR649_0 := ak hi649_0
        have HC649_0 := ak hl649_0
        clear hi649_0 hl649_0
        replace p649 := eq_true p649
        replace q649 := eq_true q649
        go_wp2_with (first | ((with_reducible refine gate_dst (N := 7) rfl ?_); refine box_event ?hg (N := 7) ?hd (cs := #[.slice none 0 0]) (t := 53) ?hr ?_; (case hd => rfl); (case hg => rfl); (case hr => go_simp <;> rfl); intro gb650 hg w8 hbox hb; have n0_ := ak (below_step (by exact hopb HB.out) hb); have n1_ := ak (hbox); have n2_ := ak ((by rw [hg]; exact (below_size (by exact hopb HB.out)) : w.heap.size ≤ gb650)); have n3_ := n2_; clear HB; have HB := n0_; have BK650 := n1_; have GW650 := n2_; have GE650 := n3_; clear n0_ n1_ n2_ n3_; clear hb hbox hg; have hcz9_0 : w8.cell? ⟨gb650, 0, none⟩ = some (.slice none 0 0) := (blk_cell BK650.out 0).trans rfl; have hfz9_0 := blk_frozen BK650.out 0; have p651 : 0 ≤ (0 : Int) := (by omega); have q651 : 0 < (((rd_T53 l0 x10_1).f0).length : Int) := of_decide_eq_true (by assumption); obtain ⟨ad651, e651, hx651_0, hx651_1⟩ := at_T65 HR649_0.out 0 p651 q651; cases e651; have qi651 : (0 < ((rd_T53 l0 x10_1).f0).length) = True := eq_true (by omega); (try rw [show ((0 : Int)).toNat = 0 from rfl] at hx651_0); (try rw [show 0 * 2 = 0 from rfl] at hx651_0); (try rw [Addr.add_zero'] at hx651_0); (try rw [show ((0 : Int)).toNat = 0 from rfl] at hx651_1); (try rw [show 0 * 2 = 0 from rfl] at hx651_1); (try rw [Addr.add_zero'] at hx651_1); have hn651_0 : ad651.block ≠ gb650 := Nat.ne_of_lt (Nat.lt_of_lt_of_le (by have := World.block_lt_of_cell? _ _ hx651_0; first | rwa [add_block] at this | exact this) GW650.out); replace hx651_0 := (HB.out.cell (World.block_lt_of_cell? w _ hx651_0)).trans hx651_0; replace hx651_1 := (HB.out.cell (World.block_lt_of_cell? w _ hx651_1)).trans hx651_1; replace hx651_0 := (cell_far (p := ⟨gb650, 0, none⟩) (by first | (rw [add_block]; exact hn651_0) | (show (Addr.add _ _).block ≠ _; rw [add_block]; exact hn651_0) | exact hn651_0) (.slice (some ad651) ((rd_T53 l0 x10_1).f0).length c649_0)).trans hx651_0; replace hx651_1 := (cell_far (p := ⟨gb650, 0, none⟩) (by first | (rw [add_block]; exact hn651_0) | (show (Addr.add _ _).block ≠ _; rw [add_block]; exact hn651_0) | exact hn651_0) (.slice (some ad651) ((rd_T53 l0 x10_1).f0).length c649_0)).trans hx651_1; clear hn651_0; replace p651 := eq_true p651; replace q651 := eq_true q651))
        go_roundg k1
        case measure => have := HK1.out; omega
        case rel => exact ⟨(x10_1), (wrap64 (x10_1 + 1)), (by first | rfl | (simp [*]; done)), (by first | rfl | (simp [*]; done)), H', ⟨by have := HK1.out; omega⟩, ⟨by repeat (first | exact HB.out | apply bA | apply bN | apply bD | refine bS ?_ GE650.out)⟩⟩
       ·rw [if_neg c7] at H
        have c7b0 : (Op.bytesLess (((rd_T65 ((rd_T53 l0 x10_1).f0) 0).f0).toList) a1.toList) = false := by simpa using c7
        clear c7
        by_cases c10 : ((rd_T65 ((rd_T53 l0 x10_1).f0) 0).f0).toList = a1.toList
        ·rw [if_pos c10] at H
         have c10b0 : (((rd_T65 ((rd_T53 l0 x10_1).f0) 0).f0).toList == a1.toList) = true := beq_iff_eq.mpr c10
         have c10b1 : (((rd_T65 ((rd_T53 l0 x10_1).f0) 0).f0).toList != a1.toList) = false := bne_eq_false_iff_eq.mpr c10
         clear c10
         have H' := ak H
         clear H
         have p649 : 0 ≤ (x10_1 : Int) := of_decide_eq_true (by assumption)
         have q649 : x10_1 < (l0.length : Int) := of_decide_eq_true (by assumption)
         obtain ⟨ad649, A649_0, c649_0, e649, hx649_0, hl649_0, hi649_0⟩ := at_T53 HR0.out x10_1 p649 q649
         cases e649
         replace hx649_0 := bc HB.out hx649_0
         have HR649_0 := ak hi649_0
         have HC649_0 := ak hl649_0
         clear hi649_0 hl649_0
         replace p649 := eq_true p649
         replace q649 := eq_true q649
         go_wp2_with (first | ((with_reducible refine gate_dst (N := 7) rfl ?_); refine box_event ?hg (N := 7) ?hd (cs := #[.slice none 0 0]) (t := 53) ?hr ?_; (case hd => rfl); (case hg => rfl); (case hr => go_simp <;> rfl); intro gb650 hg w11 hbox hb; have n0_ := ak (below_step (by exact hopb HB.out) hb); have n1_ := ak (hbox); have n2_ := ak ((by rw [hg]; exact (below_size (by exact hopb HB.out)) : w.heap.size ≤ gb650)); have n3_ := n2_; clear HB; have HB := n0_; have BK650 := n1_; have GW650 := n2_; have GE650 := n3_; clear n0_ n1_ n2_ n3_; clear hb hbox hg; have hcz12_0 : w11.cell? ⟨gb650, 0, none⟩ = some (.slice none 0 0) := (blk_cell BK650.out 0).trans rfl; have hfz12_0 := blk_frozen BK650.out 0; have p651 : 0 ≤ (0 : Int) := (by omega); have q651 : 0 < (((rd_T53 l0 x10_1).f0).length : Int) := of_decide_eq_true (by assumption); obtain ⟨ad651, e651, hx651_0, hx651_1⟩ := at_T65 HR649_0.out 0 p651 q651; cases e651; have qi651 : (0 < ((rd_T53 l0 x10_1).f0).length) = True := eq_true (by omega); (try rw [show ((0 : Int)).toNat = 0 from rfl] at hx651_0); (try rw [show 0 * 2 = 0 from rfl] at hx651_0); (try rw [Addr.add_zero'] at hx651_0); (try rw [show ((0 : Int)).toNat = 0 from rfl] at hx651_1); (try rw [show 0 * 2 = 0 from rfl] at hx651_1); (try rw [Addr.add_zero'] at hx651_1); have hn651_0 : ad651.block ≠ gb650 := Nat.ne_of_lt (Nat.lt_of_lt_of_le (by have := World.block_lt_of_cell? _ _ hx651_0; first | rwa [add_block] at this | exact this) GW650.out); replace hx651_0 := (HB.out.cell (World.block_lt_of_cell? w _ hx651_0)).trans hx651_0; replace hx651_1 := (HB.out.cell (World.block_lt_of_cell? w _ hx651_1)).trans hx651_1; replace hx651_0 := (cell_far (p := ⟨gb650, 0, none⟩) (by first | (rw [add_block]; exact hn651_0) | (show (Addr.add _ _).block ≠ _; rw [add_block]; exact hn651_0) | exact hn651_0) (.slice (some ad651) ((rd_T53 l0 x10_1).f0).length c649_0)).trans hx651_0; replace hx651_1 := (cell_far (p := ⟨gb650, 0, none⟩) (by first | (rw [add_block]; exact hn651_0) | (show (Addr.add _ _).block ≠ _; rw [add_block]; exact hn651_0) | exact hn651_0) (.slice (some ad651) ((rd_T53 l0 x10_1).f0).length c649_0)).trans hx651_1; clear hn651_0; replace p651 := eq_true p651; replace q651 := eq_true q651))
         go_roundg k1
         case measure => have := HK1.out; omega
         case rel => exact ⟨(x10_1), (wrap64 (x10_1 + 1)), (by first | rfl | (simp [*]; done)), (by first | rfl | (simp [*]; done)), H', ⟨by have := HK1.out; omega⟩, ⟨by repeat (first | exact HB.out | apply bA | apply bN | apply bD | refine bS ?_ GE650.out)⟩⟩
        ·rw [if_neg c10] at H
         have c10b0 : (((rd_T65 ((rd_T53 l0 x10_1).f0) 0).f0).toList == a1.toList) = false := beq_eq_false_iff_ne.mpr c10
         have c10b1 : (((rd_T65 ((rd_T53 l0 x10_1).f0) 0).f0).toList != a1.toList) = true := bne_iff_ne.mpr c10
         have H' := ak H
         clear H
         have p649 : 0 ≤ (x10_1 : Int) := of_decide_eq_true (by assumption)
         have q649 : x10_1 < (l0.length : Int) := of_decide_eq_true (by assumption)
         obtain ⟨ad649, A649_0, c649_0, e649, hx649_0, hl649_0, hi649_0⟩ := at_T53 HR0.out x10_1 p649 q649
         cases e649
         replace hx649_0 := bc HB.out hx649_0
         have HR649_0 := ak hi649_0
         have HC649_0 := ak hl649_0
         clear hi649_0 hl649_0
         replace p649 := eq_true p649
         replace q649 := eq_true q649
         go_wp2_with (first | ((with_reducible refine gate_dst (N := 7) rfl ?_); refine box_event ?hg (N := 7) ?hd (cs := #[.slice none 0 0]) (t := 53) ?hr ?_; (case hd => rfl); (case hg => rfl); (case hr => go_simp <;> rfl); intro gb650 hg w13 hbox hb; have n0_ := ak (below_step (by exact hopb HB.out) hb); have n1_ := ak (hbox); have n2_ := ak ((by rw [hg]; exact (below_size (by exact hopb HB.out)) : w.heap.size ≤ gb650)); have n3_ := n2_; clear HB; have HB := n0_; have BK650 := n1_; have GW650 := n2_; have GE650 := n3_; clear n0_ n1_ n2_ n3_; clear hb hbox hg; have hcz14_0 : w13.cell? ⟨gb650, 0, none⟩ = some (.slice none 0 0) := (blk_cell BK650.out 0).trans rfl; have hfz14_0 := blk_frozen BK650.out 0; have p651 : 0 ≤ (0 : Int) := (by omega); have q651 : 0 < (((rd_T53 l0 x10_1).f0).length : Int) := of_decide_eq_true (by assumption); obtain ⟨ad651, e651, hx651_0, hx651_1⟩ := at_T65 HR649_0.out 0 p651 q651; cases e651; have qi651 : (0 < ((rd_T53 l0 x10_1).f0).length) = True := eq_true (by omega); (try rw [show ((0 : Int)).toNat = 0 from rfl] at hx651_0); (try rw [show 0 * 2 = 0 from rfl] at hx651_0); (try rw [Addr.add_zero'] at hx651_0); (try rw [show ((0 : Int)).toNat = 0 from rfl] at hx651_1); (try rw [show 0 * 2 = 0 from rfl] at hx651_1); (try rw [Addr.add_zero'] at hx651_1); have hn651_0 : ad651.block ≠ gb650 := Nat.ne_of_lt (Nat.lt_of_lt_of_le (by have := World.block_lt_of_cell? _ _ hx651_0; first | rwa [add_block] at this | exact this) GW650.out); replace hx651_0 := (HB.out.cell (World.block_lt_of_cell? w _ hx651_0)).trans hx651_0; replace hx651_1 := (HB.out.cell (World.block_lt_of_cell? w _ hx651_1)).trans hx651_1; replace hx651_0 := (cell_far (p := ⟨gb650, 0, none⟩) (by first | (rw [add_block]; exact hn651_0) | (show (Addr.add _ _).block ≠ _; rw [add_block]; exact hn651_0) | exact hn651_0) (.slice (some ad651) ((rd_T53 l0 x10_1).f0).length c649_0)).trans hx651_0; replace hx651_1 := (cell_far (p := ⟨gb650, 0, none⟩) (by first | (rw [add_block]; exact hn651_0) | (show (Addr.add _ _).block ≠ _; rw [add_block]; exact hn651_0) | exact hn651_0) (.slice (some ad651) ((rd_T53 l0 x10_1).f0).length c649_0)).trans hx651_1; clear hn651_0; replace p651 := eq_true p651; replace q651 := eq_true q651))
         go_roundg k1
         case measure => have := HK1.out; omega
         case rel => exact ⟨(x5_1), (wrap64 (x10_1 + 1)), (by first | rfl | (simp [*]; done)), (by first | rfl | (simp [*]; done)), H', ⟨by have := HK1.out; omega⟩, ⟨by repeat (first | exact HB.out | apply bA | apply bN | apply bD | refine bS ?_ GE650.out)⟩⟩
      ·rw [if_neg c6] at H
       exact absurd H (by simp)
     ·rw [if_neg c5] at H
      exact absurd H (by simp)
    ·rw [if_neg c4] at H
     exact absurd H (by simp)
   ·rw [if_neg c3] at H
    have c3b0 : decide (x10_1 < (l0.length : Int)) = false := decide_eq_false c3
    clear c3
    obtain rfl := Option.some.inj H
    go_wp2
    go_ret
    exact ⟨by first | rfl | (simp [*, errW_none, errW_some] <;> rfl), by exact hopb HB.out⟩

end Go.Proofs.Ytengnnhehjcfhaa.PFnPagesPut
