-- Written for this claim by a program of this session (wip/myprint in the proofs' repo)
import Derived.Test.YtengnnhehjcfhaaPFnExactPagesPutx0
import Derived.Test.YtengnnhehjcfhaaPFnExactPagesPutx4
import Derived.Test.YtengnnhehjcfhaaWZip
-- slim3
namespace Go.Proofs.Ytengnnhehjcfhaa.PFnExactPagesPut
open Go.RowKit Go.Proofs.YtengnnhehjcfhaaW.PrintWords Go.Proofs.YtengnnhehjcfhaaW.PrintLast Go.Proofs.YtengnnhehjcfhaaW.PrintMore
attribute [local go_sem] max2_int min2_int max_two min_two max_three min_three max_four min_four max2_strs min2_strs   -- for this text's walks alone
set_option linter.unusedVariables false
set_option linter.unusedSimpArgs false
set_option maxHeartbeats 8000000
set_option maxRecDepth 100000

/-! ### impl_PairPut: function 18 -/
def impl_PairPut.j0 : Nat → List (S65) → ByteArray → Int → Bool → Option ((List (S65)) × Bool)
 | 0, _, _, _, _ => none
 | k + 1, x0, x1, x2, x22 => if x22 = true then (some (([] : List (S65)), false)) else ((impl_pairPlace.f x0 x1).bind fun bt168 => (if bt168.2 = true then ((impl_replaced_Pair.f x0 bt168.1 1 (([(⟨x1, x2⟩ : S65)] : List (S65)))).bind fun t173 => (some (t173, true))) else (if (x0.length : Int) ≥ 48 then ((impl_copyOf_Pair.f x0).bind fun t176 => (some (t176, false))) else ((impl_replaced_Pair.f x0 bt168.1 0 (([(⟨x1, x2⟩ : S65)] : List (S65)))).bind fun t182 => (some (t182, true))))))
def impl_PairPut.f (k : Nat) (l0 : List (S65)) (a1 : ByteArray) (a2 : Int) : Option ((List (S65)) × Bool) := (impl_PairsValid.f k l0).bind fun t165 => (if t165 = true then ((impl_KeyValid.f k a1).bind fun t166 => (if t166 = true then ((impl_valueValid.f a2).bind fun t167 => (impl_PairPut.j0 k l0 a1 a2 (!t167))) else (impl_PairPut.j0 k l0 a1 a2 true))) else (impl_PairPut.j0 k l0 a1 a2 true))
theorem impl_PairPut.mono_l : ∀ k, (∀ y0 y1 y2 y3, LeO (impl_PairPut.j0 k y0 y1 y2 y3) (impl_PairPut.j0 (k + 1) y0 y1 y2 y3))
 | 0 => fun _ _ _ _ r h => by simp [impl_PairPut.j0] at h
 | k + 1 => by
  have ih0 := impl_PairPut.mono_l k
  ·intro y0 y1 y2 y3
   unfold impl_PairPut.j0
   repeat' first
   | (with_reducible exact ih0 _ _ _ _)
   | (with_reducible exact impl_KeyValid.mono _ _)
   | (with_reducible exact impl_PairsValid.mono _ _)
   | (with_reducible exact LeO.refl _)
   | (with_reducible exact LeO.none _)
   | (with_reducible refine LeO.ite ?_ ?_)
   | (with_reducible refine LeO.bind ?_ (fun _ => ?_))
   | exact ih0 _ _ _ _
   | exact LeO.none _
   | refine LeO.ite ?_ ?_
   | refine LeO.bind ?_ (fun _ => ?_)
theorem impl_PairPut.mono : ∀ a0 a1 a2 k, LeO (impl_PairPut.f k a0 a1 a2) (impl_PairPut.f (k + 1) a0 a1 a2) := by
 intro a0 a1 a2 k
 have ih0 := impl_PairPut.mono_l k
 unfold impl_PairPut.f
 repeat' first
   | (with_reducible exact ih0 _ _ _ _)
   | (with_reducible exact impl_KeyValid.mono _ _)
   | (with_reducible exact impl_PairsValid.mono _ _)
   | (with_reducible exact LeO.refl _)
   | (with_reducible exact LeO.none _)
   | (with_reducible refine LeO.ite ?_ ?_)
   | (with_reducible refine LeO.bind ?_ (fun _ => ?_))
   | exact ih0 _ _ _ _
   | exact LeO.none _
   | refine LeO.ite ?_ ?_
   | refine LeO.bind ?_ (fun _ => ?_)
theorem impl_PairPut.calls (k : Nat) (A0 : Option Addr) (c0 : Nat) (l0 : List (S65)) (a1 : ByteArray) (a2 : Int) (r1 : List (S65)) (r2 : Bool) (w : World) (hr0 : Kd.C k65 w A0 l0.length l0) (hc0 : l0.length ≤ c0) (h : impl_PairPut.f k l0 a1 a2 = some (r1, r2)) :
  Calls Try.prog 18 #[.slice A0 l0.length c0, .string a1, .int .i64 a2] w fun e w' => ∃ v0_ : Value, e = .returned (.tuple #[v0_, .bool r2]) ∧ Kd.R k65 65 w' w.heap.size (fun _ => True) v0_ r1 ∧ Below w.heap.size w w' := by
 have hu65 := Try.underlying65
 have HR0 := ak hr0
 have HC0 := ak hc0
 clear hr0 hc0
 have HB := ak (Below.refl w.heap.size w)
 have H : ((impl_PairsValid.f k l0).bind fun t165 => (if t165 = true then ((impl_KeyValid.f k a1).bind fun t166 => (if t166 = true then ((impl_valueValid.f a2).bind fun t167 => (impl_PairPut.j0 k l0 a1 a2 (!t167))) else (impl_PairPut.j0 k l0 a1 a2 true))) else (impl_PairPut.j0 k l0 a1 a2 true))) = some (r1, r2) := h
 clear h
 have HC4 := ak H
 clear H
 go_enter Try.func18, Try.ntmps18
 go_upto_region 1 with (fail)
 go_cut [22] (fun v22 wc => ∃ (kq : Nat) (x22_3 : Bool), v22 = .bool x22_3 ∧ Aside0 (impl_PairPut.j0 kq l0 a1 a2 x22_3 = some (r1, r2)) ∧ Aside0 (kq ≤ k) ∧ Aside0 (Below w.heap.size w wc))
 case first =>
  have H := HC4.out
  clear HC4
  replace H := Option.bind_eq_some_iff.mp H
  obtain ⟨t165, A50, H⟩ := H
  try dsimp only at H
  have A5 := ak A50
  clear A50
  by_cases c6 : t165 = true
  ·subst c6
   rw [if_pos rfl] at H
   replace H := Option.bind_eq_some_iff.mp H
   obtain ⟨t166, A70, H⟩ := H
   try dsimp only at H
   have A7 := ak A70
   clear A70
   by_cases c8 : t166 = true
   ·subst c8
    rw [if_pos rfl] at H
    replace H := Option.bind_eq_some_iff.mp H
    obtain ⟨t167, A90, H⟩ := H
    try dsimp only at H
    have A9 := ak A90
    clear A90
    have H' := ak H
    clear H
    go_wp2_with (first | ((with_reducible refine gate_callee (f := 51) rfl ?_); refine goesL_ (some 11) rfl rfl Try.func51 (by kernel_rfl) rfl #[.slice A0 l0.length c0] rfl (by (try simp only [List.map_toArray, List.map_cons, List.map_nil]); first | done | rfl | (simp only [List.length_drop, List.length_take]; rfl)) ?_; (with_reducible refine (impl_PairsValid.calls k _ _ l0 true _ ?side1 ?side2 A5.out).mono ?_); (case side1 => repeat (first | exact (Kd.C_below HR0.out HB.out) | (with_reducible refine Kd.C_alloc ?_ _) | (with_reducible refine Kd.C_drewN ?_ _) | (with_reducible refine Kd.C_drew ?_))); (case side2 => exact HC0.out); rintro e w10 ⟨rfl, hb⟩; refine ⟨_, rfl, ?_⟩; replace HB := ak (below_step (by exact hopb HB.out) hb); (try clear hb)) | (go_at_call 30; (with_reducible refine (impl_KeyValid.calls k a1 true _ A7.out).mono ?_); rintro e w' ⟨rfl, ⟨nd, rfl⟩⟩) | (go_at_call 43; (with_reducible refine (impl_valueValid.calls a2 t167 _ A9.out).mono ?_); rintro e w' ⟨rfl, ⟨nd, rfl⟩⟩))
    go_meet
    case rel => exact ⟨_, (!t167), (by first | rfl | (simp [*]; done)), H', ⟨by first | omega | exact Nat.le_refl _⟩, ⟨by exact hopb HB.out⟩⟩
   ·replace c8 := Bool.eq_false_iff.mpr c8
    subst c8
    rw [if_neg (show ¬ (false = true) by decide)] at H
    have H' := ak H
    clear H
    go_wp2_with (first | ((with_reducible refine gate_callee (f := 51) rfl ?_); refine goesL_ (some 11) rfl rfl Try.func51 (by kernel_rfl) rfl #[.slice A0 l0.length c0] rfl (by (try simp only [List.map_toArray, List.map_cons, List.map_nil]); first | done | rfl | (simp only [List.length_drop, List.length_take]; rfl)) ?_; (with_reducible refine (impl_PairsValid.calls k _ _ l0 true _ ?side1 ?side2 A5.out).mono ?_); (case side1 => repeat (first | exact (Kd.C_below HR0.out HB.out) | (with_reducible refine Kd.C_alloc ?_ _) | (with_reducible refine Kd.C_drewN ?_ _) | (with_reducible refine Kd.C_drew ?_))); (case side2 => exact HC0.out); rintro e w11 ⟨rfl, hb⟩; refine ⟨_, rfl, ?_⟩; replace HB := ak (below_step (by exact hopb HB.out) hb); (try clear hb)) | (go_at_call 30; (with_reducible refine (impl_KeyValid.calls k a1 false _ A7.out).mono ?_); rintro e w' ⟨rfl, ⟨nd, rfl⟩⟩))
    go_meet
    case rel => exact ⟨_, (true), (by first | rfl | (simp [*]; done)), H', ⟨by first | omega | exact Nat.le_refl _⟩, ⟨by exact hopb HB.out⟩⟩
  ·replace c6 := Bool.eq_false_iff.mpr c6
   subst c6
   rw [if_neg (show ¬ (false = true) by decide)] at H
   have H' := ak H
   clear H
   go_wp2_with (first | ((with_reducible refine gate_callee (f := 51) rfl ?_); refine goesL_ (some 11) rfl rfl Try.func51 (by kernel_rfl) rfl #[.slice A0 l0.length c0] rfl (by (try simp only [List.map_toArray, List.map_cons, List.map_nil]); first | done | rfl | (simp only [List.length_drop, List.length_take]; rfl)) ?_; (with_reducible refine (impl_PairsValid.calls k _ _ l0 false _ ?side1 ?side2 A5.out).mono ?_); (case side1 => repeat (first | exact (Kd.C_below HR0.out HB.out) | (with_reducible refine Kd.C_alloc ?_ _) | (with_reducible refine Kd.C_drewN ?_ _) | (with_reducible refine Kd.C_drew ?_))); (case side2 => exact HC0.out); rintro e w12 ⟨rfl, hb⟩; refine ⟨_, rfl, ?_⟩; replace HB := ak (below_step (by exact hopb HB.out) hb); (try clear hb)))
   go_meet
   case rel => exact ⟨_, (true), (by first | rfl | (simp [*]; done)), H', ⟨by first | omega | exact Nat.le_refl _⟩, ⟨by exact hopb HB.out⟩⟩
 case rest =>
  clear HC4
  try clear c1
  try clear p2
  try clear c5
  try clear c6
  try clear c8
  obtain ⟨kq, x22_3, rfl, HA, HJ3, HB⟩ := hcut
  cases kq with
  | zero => exact absurd HA.out (by simp [impl_PairPut.j0])
  | succ kj3 =>
   have H := HA.out
   clear HA
   simp only [impl_PairPut.j0] at H
   by_cases c13 : x22_3 = true
   ·subst c13
    rw [if_pos rfl] at H
    simp only [Option.some.injEq, Prod.mk.injEq] at H
    obtain ⟨rfl, rfl⟩ := H
    go_wp2
    go_ret2
    exact ⟨_, by first | rfl | (simp [*, errW_none, errW_some] <;> rfl), by first | exact Kd.R_nil _ _ _ _ _ | exact Kd.N_nil _ _ _ _ _ | exact Kd.V_nil _ _ _ _ _ | exact Kd.Q_nil _ _ _ _ _ | exact Kd.S_nil _ _ _ _ _, by exact hopb HB.out⟩
   ·replace c13 := Bool.eq_false_iff.mpr c13
    subst c13
    rw [if_neg (show ¬ (false = true) by decide)] at H
    replace H := Option.bind_eq_some_iff.mp H
    obtain ⟨⟨t168, t169⟩, A140, H⟩ := H
    try dsimp only at H
    have A14 := ak A140
    clear A140
    by_cases c15 : t169 = true
    ·subst c15
     rw [if_pos rfl] at H
     obtain ⟨y170, hy170⟩ : ∃ y_ : List (S65), y_ = (([(⟨a1, a2⟩ : S65)] : List (S65))) := ⟨_, rfl⟩
     replace H : ((impl_replaced_Pair.f l0 t168 1 y170).bind fun t173 => (some (t173, true))) = some (r1, r2) := by first | (rw [hy170]; exact H) | exact H
     have Ny170 := ak hy170
     clear hy170
     replace H := Option.bind_eq_some_iff.mp H
     obtain ⟨t173, A160, H⟩ := H
     try dsimp only at H
     have A16 := ak A160
     clear A160
     simp only [Option.some.injEq, Prod.mk.injEq] at H
     obtain ⟨rfl, rfl⟩ := H
     go_wp2_with (first | ((with_reducible refine gate_callee (f := 44) rfl ?_); refine goesL_ (some 26) rfl rfl Try.func44 (by kernel_rfl) rfl #[.slice A0 l0.length c0, .string a1] rfl (by (try simp only [List.map_toArray, List.map_cons, List.map_nil]); first | done | rfl | (simp only [List.length_drop, List.length_take]; rfl)) ?_; (with_reducible refine (impl_pairPlace.calls _ _ l0 a1 t168 true _ ?side1 ?side2 A14.out).mono ?_); (case side1 => repeat (first | exact (Kd.C_below HR0.out HB.out) | (with_reducible refine Kd.C_alloc ?_ _) | (with_reducible refine Kd.C_drewN ?_ _) | (with_reducible refine Kd.C_drew ?_))); (case side2 => exact HC0.out); rintro e w17 ⟨rfl, hb⟩; refine ⟨_, rfl, ?_⟩; replace HB := ak (below_step (by exact hopb HB.out) hb); (try clear hb)) | ((with_reducible refine gate_dst (N := 35) rfl ?_); refine Kd.R_lit k65 _ 65 ?hg (N := 35) ?hd (xs := ([(⟨a1, a2⟩ : S65)] : List (S65))) (inner := [.string a1, .int .i64 a2]) (ok := fun _ => True) (okp := fun _ => True) ?hr ?hp (fun _ hk => hk) trivial (Below.refl _ _) (Nat.le_refl _) (by simp) ?_; (case hd => rfl); (case hg => rfl); (case hr => first | (go_simp; done) | (go_simp; rfl)); (case hp => exact (Reps.c2 (show Kd.M k65 _ _ _ (⟨a1, a2⟩ : S65) [.string a1, .int .i64 a2] from (k65_mkM _ _ _ (⟨a1, a2⟩ : S65) )) (Reps.none _ _))); intro v171 w18 ho19 hb hg_ hnew_; clear hg_ hnew_; (first | rw [← Ny170.out] at ho19 | (simp only [Int.reduceToNat] at ho19; rw [← Ny170.out] at ho19)); have HO172 := ak (Kd.R_lower ho19 (below_size (by exact hopb HB.out))); replace HB := ak (below_step (by exact hopb HB.out) hb); clear hb ho19; obtain ⟨Ao20, co20, eo20⟩ := Kd.R_slice HO172.out; subst eo20) | ((with_reducible refine gate_callee (f := 52) rfl ?_); refine goesL_ (some 36) rfl rfl Try.func52 (by kernel_rfl) rfl #[.slice A0 l0.length c0, .int .i64 t168, .int .i64 1, .slice Ao20 y170.length co20] rfl (by (try simp only [List.map_toArray, List.map_cons, List.map_nil]); first | done | rfl | (simp only [List.length_drop, List.length_take]; rfl)) ?_; (with_reducible refine (impl_replaced_Pair.calls _ _ l0 t168 1 _ _ y170 t173 _ ?side1 ?side2 ?side3 ?side4 A16.out).mono ?_); (case side1 => repeat (first | exact (Kd.C_below HR0.out HB.out) | (with_reducible refine Kd.C_alloc ?_ _) | (with_reducible refine Kd.C_drewN ?_ _) | (with_reducible refine Kd.C_drew ?_))); (case side2 => exact HC0.out); (case side3 => repeat (first | exact (Kd.R_reads' HO172.out).2.2 | (with_reducible refine Kd.C_alloc ?_ _) | (with_reducible refine Kd.C_drewN ?_ _) | (with_reducible refine Kd.C_drew ?_))); (case side4 => exact (Kd.R_reads' HO172.out).2.1); rintro e w21 ⟨v174, rfl, ho0, hb⟩; refine ⟨_, rfl, ?_⟩; have HO175 := ak (Kd.R_lower (Kd.R_new' ho0 (Kd.R_lt (by (with_reducible repeat (first | apply Kd.R_alloc | apply Kd.R_drewN | apply Kd.R_drew)); exact HO172.out))) (below_size (by exact hopb HB.out))); replace HO172 := ak (Kd.R_elder' (by (with_reducible repeat (first | apply Kd.R_alloc | apply Kd.R_drewN | apply Kd.R_drew)); exact HO172.out) (Kd.R_base ho0) hb); replace HB := ak (below_step (by exact hopb HB.out) hb); (try clear hb); (try clear ho0)))
     go_ret2
     exact ⟨_, by first | rfl | (simp [*, errW_none, errW_some] <;> rfl), by (with_reducible repeat (first | apply Kd.R_alloc | apply Kd.R_drewN | apply Kd.R_drew)); exact Kd.R_mono HO175.out (fun _ hk => trivial), by exact hopb HB.out⟩
    ·replace c15 := Bool.eq_false_iff.mpr c15
     subst c15
     rw [if_neg (show ¬ (false = true) by decide)] at H
     by_cases c22 : (l0.length : Int) ≥ 48
     ·rw [if_pos c22] at H
      have c22b0 : decide (48 ≤ (l0.length : Int)) = true := decide_eq_true c22
      have c22b1 : decide (48 ≤ l0.length) = true := decide_eq_true (by omega)
      clear c22
      replace H := Option.bind_eq_some_iff.mp H
      obtain ⟨t176, A230, H⟩ := H
      try dsimp only at H
      have A23 := ak A230
      clear A230
      simp only [Option.some.injEq, Prod.mk.injEq] at H
      obtain ⟨rfl, rfl⟩ := H
      go_wp2_with (first | ((with_reducible refine gate_callee (f := 44) rfl ?_); refine goesL_ (some 26) rfl rfl Try.func44 (by kernel_rfl) rfl #[.slice A0 l0.length c0, .string a1] rfl (by (try simp only [List.map_toArray, List.map_cons, List.map_nil]); first | done | rfl | (simp only [List.length_drop, List.length_take]; rfl)) ?_; (with_reducible refine (impl_pairPlace.calls _ _ l0 a1 t168 false _ ?side1 ?side2 A14.out).mono ?_); (case side1 => repeat (first | exact (Kd.C_below HR0.out HB.out) | (with_reducible refine Kd.C_alloc ?_ _) | (with_reducible refine Kd.C_drewN ?_ _) | (with_reducible refine Kd.C_drew ?_))); (case side2 => exact HC0.out); rintro e w24 ⟨rfl, hb⟩; refine ⟨_, rfl, ?_⟩; replace HB := ak (below_step (by exact hopb HB.out) hb); (try clear hb)) | ((with_reducible refine gate_callee (f := 46) rfl ?_); refine goesL_ (some 41) rfl rfl Try.func46 (by kernel_rfl) rfl #[.slice A0 l0.length c0] rfl (by (try simp only [List.map_toArray, List.map_cons, List.map_nil]); first | done | rfl | (simp only [List.length_drop, List.length_take]; rfl)) ?_; (with_reducible refine (impl_copyOf_Pair.calls _ _ l0 t176 _ ?side1 ?side2 A23.out).mono ?_); (case side1 => repeat (first | exact (Kd.C_below HR0.out HB.out) | (with_reducible refine Kd.C_alloc ?_ _) | (with_reducible refine Kd.C_drewN ?_ _) | (with_reducible refine Kd.C_drew ?_))); (case side2 => exact HC0.out); rintro e w25 ⟨v177, rfl, ho0, hb⟩; refine ⟨_, rfl, ?_⟩; have HO178 := ak (Kd.R_lower ho0 (below_size (by exact hopb HB.out))); replace HB := ak (below_step (by exact hopb HB.out) hb); (try clear hb); (try clear ho0)))
      go_ret2
      exact ⟨_, by first | rfl | (simp [*, errW_none, errW_some] <;> rfl), by (with_reducible repeat (first | apply Kd.R_alloc | apply Kd.R_drewN | apply Kd.R_drew)); exact HO178.out, by exact hopb HB.out⟩
     ·rw [if_neg c22] at H
      have c22b0 : decide (48 ≤ (l0.length : Int)) = false := decide_eq_false c22
      have c22b1 : decide (48 ≤ l0.length) = false := decide_eq_false (by omega)
      clear c22
      obtain ⟨y179, hy179⟩ : ∃ y_ : List (S65), y_ = (([(⟨a1, a2⟩ : S65)] : List (S65))) := ⟨_, rfl⟩
      replace H : ((impl_replaced_Pair.f l0 t168 0 y179).bind fun t182 => (some (t182, true))) = some (r1, r2) := by first | (rw [hy179]; exact H) | exact H
      have Ny179 := ak hy179
      clear hy179
      replace H := Option.bind_eq_some_iff.mp H
      obtain ⟨t182, A260, H⟩ := H
      try dsimp only at H
      have A26 := ak A260
      clear A260
      simp only [Option.some.injEq, Prod.mk.injEq] at H
      obtain ⟨rfl, rfl⟩ := H
      go_wp2_with (first | ((with_reducible refine gate_callee (f := 44) rfl ?_); refine goesL_ (some 26) rfl rfl Try.func44 (by kernel_rfl) rfl #[.slice A0 l0.length c0, .string a1] rfl (by (try simp only [List.map_toArray, List.map_cons, List.map_nil]); first | done | rfl | (simp only [List.length_drop, List.length_take]; rfl)) ?_; (with_reducible refine (impl_pairPlace.calls _ _ l0 a1 t168 false _ ?side1 ?side2 A14.out).mono ?_); (case side1 => repeat (first | exact (Kd.C_below HR0.out HB.out) | (with_reducible refine Kd.C_alloc ?_ _) | (with_reducible refine Kd.C_drewN ?_ _) | (with_reducible refine Kd.C_drew ?_))); (case side2 => exact HC0.out); rintro e w27 ⟨rfl, hb⟩; refine ⟨_, rfl, ?_⟩; replace HB := ak (below_step (by exact hopb HB.out) hb); (try clear hb)) | ((with_reducible refine gate_dst (N := 47) rfl ?_); refine Kd.R_lit k65 _ 65 ?hg (N := 47) ?hd (xs := ([(⟨a1, a2⟩ : S65)] : List (S65))) (inner := [.string a1, .int .i64 a2]) (ok := fun _ => True) (okp := fun _ => True) ?hr ?hp (fun _ hk => hk) trivial (Below.refl _ _) (Nat.le_refl _) (by simp) ?_; (case hd => rfl); (case hg => rfl); (case hr => first | (go_simp; done) | (go_simp; rfl)); (case hp => exact (Reps.c2 (show Kd.M k65 _ _ _ (⟨a1, a2⟩ : S65) [.string a1, .int .i64 a2] from (k65_mkM _ _ _ (⟨a1, a2⟩ : S65) )) (Reps.none _ _))); intro v180 w28 ho29 hb hg_ hnew_; clear hg_ hnew_; (first | rw [← Ny179.out] at ho29 | (simp only [Int.reduceToNat] at ho29; rw [← Ny179.out] at ho29)); have HO181 := ak (Kd.R_lower ho29 (below_size (by exact hopb HB.out))); replace HB := ak (below_step (by exact hopb HB.out) hb); clear hb ho29; obtain ⟨Ao30, co30, eo30⟩ := Kd.R_slice HO181.out; subst eo30) | ((with_reducible refine gate_callee (f := 52) rfl ?_); refine goesL_ (some 48) rfl rfl Try.func52 (by kernel_rfl) rfl #[.slice A0 l0.length c0, .int .i64 t168, .int .i64 0, .slice Ao30 y179.length co30] rfl (by (try simp only [List.map_toArray, List.map_cons, List.map_nil]); first | done | rfl | (simp only [List.length_drop, List.length_take]; rfl)) ?_; (with_reducible refine (impl_replaced_Pair.calls _ _ l0 t168 0 _ _ y179 t182 _ ?side1 ?side2 ?side3 ?side4 A26.out).mono ?_); (case side1 => repeat (first | exact (Kd.C_below HR0.out HB.out) | (with_reducible refine Kd.C_alloc ?_ _) | (with_reducible refine Kd.C_drewN ?_ _) | (with_reducible refine Kd.C_drew ?_))); (case side2 => exact HC0.out); (case side3 => repeat (first | exact (Kd.R_reads' HO181.out).2.2 | (with_reducible refine Kd.C_alloc ?_ _) | (with_reducible refine Kd.C_drewN ?_ _) | (with_reducible refine Kd.C_drew ?_))); (case side4 => exact (Kd.R_reads' HO181.out).2.1); rintro e w31 ⟨v183, rfl, ho0, hb⟩; refine ⟨_, rfl, ?_⟩; have HO184 := ak (Kd.R_lower (Kd.R_new' ho0 (Kd.R_lt (by (with_reducible repeat (first | apply Kd.R_alloc | apply Kd.R_drewN | apply Kd.R_drew)); exact HO181.out))) (below_size (by exact hopb HB.out))); replace HO181 := ak (Kd.R_elder' (by (with_reducible repeat (first | apply Kd.R_alloc | apply Kd.R_drewN | apply Kd.R_drew)); exact HO181.out) (Kd.R_base ho0) hb); replace HB := ak (below_step (by exact hopb HB.out) hb); (try clear hb); (try clear ho0)))
      go_ret2
      exact ⟨_, by first | rfl | (simp [*, errW_none, errW_some] <;> rfl), by (with_reducible repeat (first | apply Kd.R_alloc | apply Kd.R_drewN | apply Kd.R_drew)); exact Kd.R_mono HO184.out (fun _ hk => trivial), by exact hopb HB.out⟩

/-! ### impl_allPairs: function 45 -/
def impl_allPairs.l0 : Nat → List (S65) → List (S53) → Int → Int → Option ((List (S65)))
 | 0, _, _, _, _ => none
 | k + 1, x3, x6, x7, x8 => if x8 < x7 then (if 0 ≤ x8 then (if x8 < (x6.length : Int) then (if x3.length + ((rd_T53 x6 x8).f0).length < 5864062014805 then (impl_allPairs.l0 k (x3 ++ ((rd_T53 x6 x8).f0)) x6 x7 (wrap64 (x8 + 1))) else (none)) else (none)) else (none)) else (some x3)
def impl_allPairs.f (k : Nat) (l0 : List (S53)) : Option ((List (S65))) := impl_allPairs.l0 k ([] : List (S65)) l0 (l0.length : Int) 0
theorem impl_allPairs.mono_l : ∀ k, (∀ y0 y1 y2 y3, LeO (impl_allPairs.l0 k y0 y1 y2 y3) (impl_allPairs.l0 (k + 1) y0 y1 y2 y3))
 | 0 => fun _ _ _ _ r h => by simp [impl_allPairs.l0] at h
 | k + 1 => by
  have ih0 := impl_allPairs.mono_l k
  ·intro y0 y1 y2 y3
   unfold impl_allPairs.l0
   repeat' first
   | (with_reducible exact ih0 _ _ _ _)
   | (with_reducible exact LeO.refl _)
   | (with_reducible exact LeO.none _)
   | (with_reducible refine LeO.ite ?_ ?_)
   | (with_reducible refine LeO.bind ?_ (fun _ => ?_))
   | exact ih0 _ _ _ _
   | exact LeO.none _
   | refine LeO.ite ?_ ?_
   | refine LeO.bind ?_ (fun _ => ?_)
theorem impl_allPairs.mono : ∀ a0 k, LeO (impl_allPairs.f k a0) (impl_allPairs.f (k + 1) a0) := by
 intro a0 k
 have ih0 := impl_allPairs.mono_l k
 unfold impl_allPairs.f
 repeat' first
   | (with_reducible exact ih0 _ _ _ _)
   | (with_reducible exact LeO.refl _)
   | (with_reducible exact LeO.none _)
   | (with_reducible refine LeO.ite ?_ ?_)
   | (with_reducible refine LeO.bind ?_ (fun _ => ?_))
   | exact ih0 _ _ _ _
   | exact LeO.none _
   | refine LeO.ite ?_ ?_
   | refine LeO.bind ?_ (fun _ => ?_)
theorem impl_allPairs.calls (k : Nat) (A0 : Option Addr) (c0 : Nat) (l0 : List (S53)) (r : List (S65)) (w : World) (hr0 : Kd.C k53 w A0 l0.length l0) (hc0 : l0.length ≤ c0) (h : impl_allPairs.f k l0 = some r) :
  Calls Try.prog 45 #[.slice A0 l0.length c0] w fun e w' => ∃ v0_ : Value, e = .returned (v0_) ∧ Kd.R k65 65 w' w.heap.size (fun _ => True) v0_ r ∧ Below w.heap.size w w' := by
 have hu53 := Try.underlying53
 have HR0 := ak hr0
 have HC0 := ak hc0
 clear hr0 hc0
 have HB := ak (Below.refl w.heap.size w)
 have H : (impl_allPairs.l0 k ([] : List (S65)) l0 (l0.length : Int) 0) = some r := h
 clear h
 have H' := ak H
 clear H
 go_enter Try.func45, Try.ntmps45
 go_wp2
 go_loopg [3, 8] k (fun kq v3 v8 w' => ∃ (x3_1 : List (S65)) (x8_1 : Int), v8 = .int .i64 x8_1 ∧ Aside0 (impl_allPairs.l0 kq x3_1 l0 (l0.length : Int) x8_1 = some r) ∧ Aside0 (kq ≤ k) ∧ Aside0 (Kd.R k65 65 w' w.heap.size (fun _ => True) v3 x3_1) ∧ Aside0 (Below w.heap.size w w'))
 case atStart => exact ⟨(([] : List (S65))), (0), (by first | rfl | (simp [*]; done)), H', ⟨Nat.le_refl _⟩, ⟨by first | exact Kd.R_nil _ _ _ _ _ | exact Kd.N_nil _ _ _ _ _ | exact Kd.V_nil _ _ _ _ _ | exact Kd.Q_nil _ _ _ _ _ | exact Kd.S_nil _ _ _ _ _⟩, ⟨by exact hopb HB.out⟩⟩
 case round =>
  clear H'
  obtain ⟨x3_1, x8_1, rfl, HA, HK1, HO_3, HB⟩ := hrel
  cases gk with
  | zero => exact absurd HA.out (by simp [impl_allPairs.l0])
  | succ k1 =>
   have H := HA.out
   clear HA
   simp only [impl_allPairs.l0] at H
   by_cases c2 : x8_1 < (l0.length : Int)
   ·rw [if_pos c2] at H
    have c2b0 : decide (x8_1 < (l0.length : Int)) = true := decide_eq_true c2
    clear c2
    by_cases c3 : 0 ≤ x8_1
    ·rw [if_pos c3] at H
     have c3b0 : decide (0 ≤ x8_1) = true := decide_eq_true c3
     clear c3
     by_cases c4 : x8_1 < (l0.length : Int)
     ·rw [if_pos c4] at H
      have c4b0 : decide (x8_1 < (l0.length : Int)) = true := decide_eq_true c4
      clear c4
      by_cases c5 : x3_1.length + ((rd_T53 l0 x8_1).f0).length < 5864062014805
      ·rw [if_pos c5] at H
       have LMc5 := ak c5
       clear c5
       obtain ⟨y187, hy187⟩ : ∃ y_ : List (S65), y_ = (x3_1 ++ ((rd_T53 l0 x8_1).f0)) := ⟨_, rfl⟩
       replace H : (impl_allPairs.l0 k1 y187 l0 (l0.length : Int) (wrap64 (x8_1 + 1))) = some r := by first | (rw [hy187]; exact H) | exact H
       have Ny187 := ak hy187
       clear hy187
       have H' := ak H
       clear H
       have p185 : 0 ≤ (x8_1 : Int) := of_decide_eq_true (by assumption)
       have q185 : x8_1 < (l0.length : Int) := of_decide_eq_true (by assumption)
       obtain ⟨ad185, A185_0, c185_0, e185, hx185_0, hl185_0, hi185_0⟩ := at_T53 HR0.out x8_1 p185 q185
       cases e185
       replace hx185_0 := bc HB.out hx185_0
       have HR185_0 := ak hi185_0
       have HC185_0 := ak hl185_0
       clear hi185_0 hl185_0
       replace p185 := eq_true p185
       replace q185 := eq_true q185
       go_wp2_with (first | ((with_reducible refine gate_dst (N := 5) rfl ?_); refine box_event ?hg (N := 5) ?hd (cs := #[.slice none 0 0]) (t := 53) ?hr ?_; (case hd => rfl); (case hg => rfl); (case hr => first | (go_simp; done) | (go_simp; rfl)); intro gb186 hg w6 hbox hb; have n0_ := ak (Kd.R_below (by (with_reducible repeat (first | apply Kd.R_alloc | apply Kd.R_drewN | apply Kd.R_drew)); exact HO_3.out) hb); have n1_ := ak (below_step (by exact hopb HB.out) hb); have n2_ := ak (hbox); have n3_ := ak ((by rw [hg]; exact (below_size (by exact hopb HB.out)) : w.heap.size ≤ gb186)); have n4_ := n3_; clear HO_3; clear HB; have HO_3 := n0_; have HB := n1_; have BK186 := n2_; have GW186 := n3_; have GE186 := n4_; clear n0_ n1_ n2_ n3_ n4_; clear hb hbox hg; have hcz7_0 : w6.cell? ⟨gb186, 0, none⟩ = some (.slice none 0 0) := (blk_cell BK186.out 0).trans rfl; have hfz7_0 := blk_frozen BK186.out 0) | ((with_reducible refine gate_builtin (b := .append) (xs := #[.tmp 12, .tmp 14]) rfl ?_); at_builtin; refine Kd.R_append_rows k65 (w0 := w) w.heap.size rfl (.tmp 12) (.tmp 14) 36 65 (.agg #[(.string ⟨#[]⟩), (.int .i64 0)]) 24 rfl Try.underlying36 info65 rfl (by decide) (by omega) u3 x3_1 ((rd_T53 l0 x8_1).f0) _ _ _ (fun _ => True) (fun _ => False) rfl rfl ?aO ?aR (fun _ _ h => h) (fun _ h => h.elim) ?aF ?aB ?aS ?aL ?_; (case aR => exact Kd.C_below HR185_0.out (by repeat (first | exact HB.out | apply bA | apply bN | apply bD | refine bS ?_ GE186.out))); (case aB => exact (by repeat (first | exact HB.out | apply bA | apply bN | apply bD | refine bS ?_ GE186.out))); (case aF => exact (fun _ _ => trivial)); (case aO => exact (by (with_reducible repeat (first | apply Kd.R_alloc | apply Kd.R_drewN | apply Kd.R_drew)); exact Kd.R_mono (Kd.R_far (p := ⟨gb186, 0, none⟩) (Kd.R_types HO_3.out BK186.out (by decide)) (fun _ hk => hk.2) (.slice A185_0 ((rd_T53 l0 x8_1).f0).length c185_0)) (fun _ hk => trivial))); (case aS => exact (below_size (by repeat (first | exact HB.out | apply bA | apply bN | apply bD | refine bS ?_ GE186.out)))); (case aL => have := LMc5.out; omega); intro v188 w8 ho hb hg hat; rw [← Ny187.out] at ho; replace BK186 := ak (blk_grown (g := gb186) (o := .cells #[.slice A185_0 ((rd_T53 l0 x8_1).f0).length c185_0] 53 (0, 0)) (by (with_reducible repeat (first | refine kN ?_ _ | refine kD ?_ | refine kA ?_ _)); refine blk_put (cs := #[.slice none 0 0]) ?_ 0 _ rfl; exact hop BK186.out) hg (Kd.R_ne HO_3.out BK186.out (by decide))); replace HB := ak (hb); have HO189 := ak (ho); clear HO_3; clear ho hb hg hat))
       go_roundg k1
       case measure => have := HK1.out; omega
       case rel => exact ⟨(y187), (wrap64 (x8_1 + 1)), (by first | rfl | (simp [*]; done)), H', ⟨by have := HK1.out; omega⟩, ⟨by (with_reducible repeat (first | apply Kd.R_alloc | apply Kd.R_drewN | apply Kd.R_drew)); exact HO189.out⟩, ⟨by repeat (first | exact HB.out | apply bA | apply bN | apply bD | refine bS ?_ GE186.out)⟩⟩
      ·rw [if_neg c5] at H
       exact absurd H (by simp)
     ·rw [if_neg c4] at H
      exact absurd H (by simp)
    ·rw [if_neg c3] at H
     exact absurd H (by simp)
   ·rw [if_neg c2] at H
    have c2b0 : decide (x8_1 < (l0.length : Int)) = false := decide_eq_false c2
    clear c2
    obtain rfl := Option.some.inj H
    go_wp2
    go_ret
    exact ⟨_, by first | rfl | (simp [*, errW_none, errW_some] <;> rfl), by (with_reducible repeat (first | apply Kd.R_alloc | apply Kd.R_drewN | apply Kd.R_drew)); exact HO_3.out, by exact hopb HB.out⟩

/-! ### impl_PagesValid: function 20 -/
def impl_PagesValid.l0 : Nat → List (S53) → List (S53) → Int → Int → Option (Bool)
 | 0, _, _, _, _ => none
 | k + 1, x0, x9, x10, x11 => if x11 < x10 then (if 0 ≤ x11 then (if x11 < (x9.length : Int) then (if (x0.length : Int) = 1 then (if (((rd_T53 x9 x11).f0).length : Int) < 1 then (some false) else (if (((rd_T53 x9 x11).f0).length : Int) > 4 then (some false) else (impl_PagesValid.l0 k x0 x9 x10 (wrap64 (x11 + 1))))) else (if (((rd_T53 x9 x11).f0).length : Int) < 2 then (some false) else (if (((rd_T53 x9 x11).f0).length : Int) > 4 then (some false) else (impl_PagesValid.l0 k x0 x9 x10 (wrap64 (x11 + 1)))))) else (none)) else (none)) else ((impl_allPairs.f k x0).bind fun t190 => ((impl_PairsValid.f k t190).bind fun t193 => (some t193)))
def impl_PagesValid.f (k : Nat) (l0 : List (S53)) : Option (Bool) := if (l0.length : Int) > 48 then (some false) else (impl_PagesValid.l0 k l0 l0 (l0.length : Int) 0)
theorem impl_PagesValid.mono_l : ∀ k, (∀ y0 y1 y2 y3, LeO (impl_PagesValid.l0 k y0 y1 y2 y3) (impl_PagesValid.l0 (k + 1) y0 y1 y2 y3))
 | 0 => fun _ _ _ _ r h => by simp [impl_PagesValid.l0] at h
 | k + 1 => by
  have ih0 := impl_PagesValid.mono_l k
  ·intro y0 y1 y2 y3
   unfold impl_PagesValid.l0
   repeat' first
   | (with_reducible exact ih0 _ _ _ _)
   | (with_reducible exact impl_PairsValid.mono _ _)
   | (with_reducible exact impl_allPairs.mono _ _)
   | (with_reducible exact LeO.refl _)
   | (with_reducible exact LeO.none _)
   | (with_reducible refine LeO.ite ?_ ?_)
   | (with_reducible refine LeO.bind ?_ (fun _ => ?_))
   | exact ih0 _ _ _ _
   | exact LeO.none _
   | refine LeO.ite ?_ ?_
   | refine LeO.bind ?_ (fun _ => ?_)
theorem impl_PagesValid.mono : ∀ a0 k, LeO (impl_PagesValid.f k a0) (impl_PagesValid.f (k + 1) a0) := by
 intro a0 k
 have ih0 := impl_PagesValid.mono_l k
 unfold impl_PagesValid.f
 repeat' first
   | (with_reducible exact ih0 _ _ _ _)
   | (with_reducible exact impl_PairsValid.mono _ _)
   | (with_reducible exact impl_allPairs.mono _ _)
   | (with_reducible exact LeO.refl _)
   | (with_reducible exact LeO.none _)
   | (with_reducible refine LeO.ite ?_ ?_)
   | (with_reducible refine LeO.bind ?_ (fun _ => ?_))
   | exact ih0 _ _ _ _
   | exact LeO.none _
   | refine LeO.ite ?_ ?_
   | refine LeO.bind ?_ (fun _ => ?_)
theorem impl_PagesValid.calls (k : Nat) (A0 : Option Addr) (c0 : Nat) (l0 : List (S53)) (r : Bool) (w : World) (hr0 : Kd.C k53 w A0 l0.length l0) (hc0 : l0.length ≤ c0) (h : impl_PagesValid.f k l0 = some r) :
  Calls Try.prog 20 #[.slice A0 l0.length c0] w fun e w' => e = .returned (.bool r) ∧ Below w.heap.size w w' := by
 have hu53 := Try.underlying53
 have HR0 := ak hr0
 have HC0 := ak hc0
 clear hr0 hc0
 have HB := ak (Below.refl w.heap.size w)
 have H : (if (l0.length : Int) > 48 then (some false) else (impl_PagesValid.l0 k l0 l0 (l0.length : Int) 0)) = some r := h
 clear h
 by_cases c2 : (l0.length : Int) > 48
 ·rw [if_pos c2] at H
  have c2b0 : decide (48 < (l0.length : Int)) = true := decide_eq_true c2
  have c2b1 : decide (48 < l0.length) = true := decide_eq_true (by omega)
  clear c2
  obtain rfl := Option.some.inj H
  go_enter Try.func20, Try.ntmps20
  go_wp2
  go_ret
  exact ⟨by first | rfl | (simp [*, errW_none, errW_some] <;> rfl), by exact hopb HB.out⟩
 ·rw [if_neg c2] at H
  have c2b0 : decide (48 < (l0.length : Int)) = false := decide_eq_false c2
  have c2b1 : decide (48 < l0.length) = false := decide_eq_false (by omega)
  clear c2
  have H' := ak H
  clear H
  go_enter Try.func20, Try.ntmps20
  go_wp2
  go_loopg [11] k (fun kq v11 w' => ∃ (x11_1 : Int), v11 = .int .i64 x11_1 ∧ Aside0 (impl_PagesValid.l0 kq l0 l0 (l0.length : Int) x11_1 = some r) ∧ Aside0 (kq ≤ k) ∧ Aside0 (Below w.heap.size w w'))
  case atStart => exact ⟨(0), (by first | rfl | (simp [*]; done)), H', ⟨Nat.le_refl _⟩, ⟨by exact hopb HB.out⟩⟩
  case round =>
   clear H'
   try clear c2
   try clear c2b0
   try clear c2b1
   try clear p2
   obtain ⟨x11_1, rfl, HA, HK1, HB⟩ := hrel
   cases gk with
   | zero => exact absurd HA.out (by simp [impl_PagesValid.l0])
   | succ k1 =>
    have H := HA.out
    clear HA
    simp only [impl_PagesValid.l0] at H
    by_cases c3 : x11_1 < (l0.length : Int)
    ·rw [if_pos c3] at H
     have c3b0 : decide (x11_1 < (l0.length : Int)) = true := decide_eq_true c3
     clear c3
     by_cases c4 : 0 ≤ x11_1
     ·rw [if_pos c4] at H
      have c4b0 : decide (0 ≤ x11_1) = true := decide_eq_true c4
      clear c4
      by_cases c5 : x11_1 < (l0.length : Int)
      ·rw [if_pos c5] at H
       have c5b0 : decide (x11_1 < (l0.length : Int)) = true := decide_eq_true c5
       clear c5
       by_cases c6 : (l0.length : Int) = 1
       ·rw [if_pos c6] at H
        have c6b0 : ((l0.length : Int) == 1) = true := beq_iff_eq.mpr c6
        have c6b1 : ((l0.length : Int) != 1) = false := bne_eq_false_iff_eq.mpr c6
        clear c6
        by_cases c7 : (((rd_T53 l0 x11_1).f0).length : Int) < 1
        ·rw [if_pos c7] at H
         have c7b0 : decide ((((rd_T53 l0 x11_1).f0).length : Int) < 1) = true := decide_eq_true c7
         have c7b1 : decide (((rd_T53 l0 x11_1).f0).length < 1) = true := decide_eq_true (by omega)
         clear c7
         obtain rfl := Option.some.inj H
         have p194 : 0 ≤ (x11_1 : Int) := of_decide_eq_true (by assumption)
         have q194 : x11_1 < (l0.length : Int) := of_decide_eq_true (by assumption)
         obtain ⟨ad194, A194_0, c194_0, e194, hx194_0, hl194_0, hi194_0⟩ := at_T53 HR0.out x11_1 p194 q194
         cases e194
         replace hx194_0 := bc HB.out hx194_0
         have HR194_0 := ak hi194_0
         have HC194_0 := ak hl194_0
         clear hi194_0 hl194_0
         replace p194 := eq_true p194
         replace q194 := eq_true q194
         go_wp2_with (first | ((with_reducible refine gate_dst (N := 4) rfl ?_); (try (refine gate_guard (by rfl) ?_; dsimp only)); refine box_event ?hg (N := 4) ?hd (cs := #[.slice none 0 0]) (t := 53) ?hr ?_; (case hd => rfl); (case hg => rfl); (case hr => first | (go_simp; done) | (go_simp; rfl)); intro gb195 hg w8 hbox hb; have n0_ := ak (below_step (by exact hopb HB.out) hb); have n1_ := ak (hbox); have n2_ := ak ((by rw [hg]; exact (below_size (by exact hopb HB.out)) : w.heap.size ≤ gb195)); have n3_ := n2_; clear HB; have HB := n0_; have BK195 := n1_; have GW195 := n2_; have GE195 := n3_; clear n0_ n1_ n2_ n3_; clear hb hbox hg; have hcz9_0 : w8.cell? ⟨gb195, 0, none⟩ = some (.slice none 0 0) := (blk_cell BK195.out 0).trans rfl; have hfz9_0 := blk_frozen BK195.out 0))
         go_ret
         exact ⟨by first | rfl | (simp [*, errW_none, errW_some] <;> rfl), by repeat (first | exact HB.out | apply bA | apply bN | apply bD | refine bS ?_ GE195.out)⟩
        ·rw [if_neg c7] at H
         have c7b0 : decide ((((rd_T53 l0 x11_1).f0).length : Int) < 1) = false := decide_eq_false c7
         have c7b1 : decide (((rd_T53 l0 x11_1).f0).length < 1) = false := decide_eq_false (by omega)
         clear c7
         by_cases c10 : (((rd_T53 l0 x11_1).f0).length : Int) > 4
         ·rw [if_pos c10] at H
          have c10b0 : decide (4 < (((rd_T53 l0 x11_1).f0).length : Int)) = true := decide_eq_true c10
          have c10b1 : decide (4 < ((rd_T53 l0 x11_1).f0).length) = true := decide_eq_true (by omega)
          clear c10
          obtain rfl := Option.some.inj H
          have p194 : 0 ≤ (x11_1 : Int) := of_decide_eq_true (by assumption)
          have q194 : x11_1 < (l0.length : Int) := of_decide_eq_true (by assumption)
          obtain ⟨ad194, A194_0, c194_0, e194, hx194_0, hl194_0, hi194_0⟩ := at_T53 HR0.out x11_1 p194 q194
          cases e194
          replace hx194_0 := bc HB.out hx194_0
          have HR194_0 := ak hi194_0
          have HC194_0 := ak hl194_0
          clear hi194_0 hl194_0
          replace p194 := eq_true p194
          replace q194 := eq_true q194
          go_wp2_with (first | ((with_reducible refine gate_dst (N := 4) rfl ?_); (try (refine gate_guard (by rfl) ?_; dsimp only)); refine box_event ?hg (N := 4) ?hd (cs := #[.slice none 0 0]) (t := 53) ?hr ?_; (case hd => rfl); (case hg => rfl); (case hr => first | (go_simp; done) | (go_simp; rfl)); intro gb195 hg w11 hbox hb; have n0_ := ak (below_step (by exact hopb HB.out) hb); have n1_ := ak (hbox); have n2_ := ak ((by rw [hg]; exact (below_size (by exact hopb HB.out)) : w.heap.size ≤ gb195)); have n3_ := n2_; clear HB; have HB := n0_; have BK195 := n1_; have GW195 := n2_; have GE195 := n3_; clear n0_ n1_ n2_ n3_; clear hb hbox hg; have hcz12_0 : w11.cell? ⟨gb195, 0, none⟩ = some (.slice none 0 0) := (blk_cell BK195.out 0).trans rfl; have hfz12_0 := blk_frozen BK195.out 0))
          go_ret
          exact ⟨by first | rfl | (simp [*, errW_none, errW_some] <;> rfl), by repeat (first | exact HB.out | apply bA | apply bN | apply bD | refine bS ?_ GE195.out)⟩
         ·rw [if_neg c10] at H
          have c10b0 : decide (4 < (((rd_T53 l0 x11_1).f0).length : Int)) = false := decide_eq_false c10
          have c10b1 : decide (4 < ((rd_T53 l0 x11_1).f0).length) = false := decide_eq_false (by omega)
          clear c10
          have H' := ak H
          clear H
          have p194 : 0 ≤ (x11_1 : Int) := of_decide_eq_true (by assumption)
          have q194 : x11_1 < (l0.length : Int) := of_decide_eq_true (by assumption)
          obtain ⟨ad194, A194_0, c194_0, e194, hx194_0, hl194_0, hi194_0⟩ := at_T53 HR0.out x11_1 p194 q194
          cases e194
          replace hx194_0 := bc HB.out hx194_0
          have HR194_0 := ak hi194_0
          have HC194_0 := ak hl194_0
          clear hi194_0 hl194_0
          replace p194 := eq_true p194
          replace q194 := eq_true q194
          go_wp2_with (first | ((with_reducible refine gate_dst (N := 4) rfl ?_); (try (refine gate_guard (by rfl) ?_; dsimp only)); refine box_event ?hg (N := 4) ?hd (cs := #[.slice none 0 0]) (t := 53) ?hr ?_; (case hd => rfl); (case hg => rfl); (case hr => first | (go_simp; done) | (go_simp; rfl)); intro gb195 hg w13 hbox hb; have n0_ := ak (below_step (by exact hopb HB.out) hb); have n1_ := ak (hbox); have n2_ := ak ((by rw [hg]; exact (below_size (by exact hopb HB.out)) : w.heap.size ≤ gb195)); have n3_ := n2_; clear HB; have HB := n0_; have BK195 := n1_; have GW195 := n2_; have GE195 := n3_; clear n0_ n1_ n2_ n3_; clear hb hbox hg; have hcz14_0 : w13.cell? ⟨gb195, 0, none⟩ = some (.slice none 0 0) := (blk_cell BK195.out 0).trans rfl; have hfz14_0 := blk_frozen BK195.out 0))
          go_roundg k1
          case measure => have := HK1.out; omega
          case rel => exact ⟨(wrap64 (x11_1 + 1)), (by first | rfl | (simp [*]; done)), H', ⟨by have := HK1.out; omega⟩, ⟨by repeat (first | exact HB.out | apply bA | apply bN | apply bD | refine bS ?_ GE195.out)⟩⟩
       ·rw [if_neg c6] at H
        have c6b0 : ((l0.length : Int) == 1) = false := beq_eq_false_iff_ne.mpr c6
        have c6b1 : ((l0.length : Int) != 1) = true := bne_iff_ne.mpr c6
        by_cases c15 : (((rd_T53 l0 x11_1).f0).length : Int) < 2
        ·rw [if_pos c15] at H
         have c15b0 : decide ((((rd_T53 l0 x11_1).f0).length : Int) < 2) = true := decide_eq_true c15
         have c15b1 : decide (((rd_T53 l0 x11_1).f0).length < 2) = true := decide_eq_true (by omega)
         clear c15
         obtain rfl := Option.some.inj H
         have p194 : 0 ≤ (x11_1 : Int) := of_decide_eq_true (by assumption)
         have q194 : x11_1 < (l0.length : Int) := of_decide_eq_true (by assumption)
         obtain ⟨ad194, A194_0, c194_0, e194, hx194_0, hl194_0, hi194_0⟩ := at_T53 HR0.out x11_1 p194 q194
         cases e194
         replace hx194_0 := bc HB.out hx194_0
         have HR194_0 := ak hi194_0
         have HC194_0 := ak hl194_0
         clear hi194_0 hl194_0
         replace p194 := eq_true p194
         replace q194 := eq_true q194
         go_wp2_with (first | ((with_reducible refine gate_dst (N := 4) rfl ?_); (try (refine gate_guard (by rfl) ?_; dsimp only)); refine box_event ?hg (N := 4) ?hd (cs := #[.slice none 0 0]) (t := 53) ?hr ?_; (case hd => rfl); (case hg => rfl); (case hr => first | (go_simp; done) | (go_simp; rfl)); intro gb195 hg w16 hbox hb; have n0_ := ak (below_step (by exact hopb HB.out) hb); have n1_ := ak (hbox); have n2_ := ak ((by rw [hg]; exact (below_size (by exact hopb HB.out)) : w.heap.size ≤ gb195)); have n3_ := n2_; clear HB; have HB := n0_; have BK195 := n1_; have GW195 := n2_; have GE195 := n3_; clear n0_ n1_ n2_ n3_; clear hb hbox hg; have hcz17_0 : w16.cell? ⟨gb195, 0, none⟩ = some (.slice none 0 0) := (blk_cell BK195.out 0).trans rfl; have hfz17_0 := blk_frozen BK195.out 0))
         go_ret
         exact ⟨by first | rfl | (simp [*, errW_none, errW_some] <;> rfl), by repeat (first | exact HB.out | apply bA | apply bN | apply bD | refine bS ?_ GE195.out)⟩
        ·rw [if_neg c15] at H
         have c15b0 : decide ((((rd_T53 l0 x11_1).f0).length : Int) < 2) = false := decide_eq_false c15
         have c15b1 : decide (((rd_T53 l0 x11_1).f0).length < 2) = false := decide_eq_false (by omega)
         clear c15
         by_cases c18 : (((rd_T53 l0 x11_1).f0).length : Int) > 4
         ·rw [if_pos c18] at H
          have c18b0 : decide (4 < (((rd_T53 l0 x11_1).f0).length : Int)) = true := decide_eq_true c18
          have c18b1 : decide (4 < ((rd_T53 l0 x11_1).f0).length) = true := decide_eq_true (by omega)
          clear c18
          obtain rfl := Option.some.inj H
          have p194 : 0 ≤ (x11_1 : Int) := of_decide_eq_true (by assumption)
          have q194 : x11_1 < (l0.length : Int) := of_decide_eq_true (by assumption)
          obtain ⟨ad194, A194_0, c194_0, e194, hx194_0, hl194_0, hi194_0⟩ := at_T53 HR0.out x11_1 p194 q194
          cases e194
          replace hx194_0 := bc HB.out hx194_0
          have HR194_0 := ak hi194_0
          have HC194_0 := ak hl194_0
          clear hi194_0 hl194_0
          replace p194 := eq_true p194
          replace q194 := eq_true q194
          go_wp2_with (first | ((with_reducible refine gate_dst (N := 4) rfl ?_); (try (refine gate_guard (by rfl) ?_; dsimp only)); refine box_event ?hg (N := 4) ?hd (cs := #[.slice none 0 0]) (t := 53) ?hr ?_; (case hd => rfl); (case hg => rfl); (case hr => first | (go_simp; done) | (go_simp; rfl)); intro gb195 hg w19 hbox hb; have n0_ := ak (below_step (by exact hopb HB.out) hb); have n1_ := ak (hbox); have n2_ := ak ((by rw [hg]; exact (below_size (by exact hopb HB.out)) : w.heap.size ≤ gb195)); have n3_ := n2_; clear HB; have HB := n0_; have BK195 := n1_; have GW195 := n2_; have GE195 := n3_; clear n0_ n1_ n2_ n3_; clear hb hbox hg; have hcz20_0 : w19.cell? ⟨gb195, 0, none⟩ = some (.slice none 0 0) := (blk_cell BK195.out 0).trans rfl; have hfz20_0 := blk_frozen BK195.out 0))
          go_ret
          exact ⟨by first | rfl | (simp [*, errW_none, errW_some] <;> rfl), by repeat (first | exact HB.out | apply bA | apply bN | apply bD | refine bS ?_ GE195.out)⟩
         ·rw [if_neg c18] at H
          have c18b0 : decide (4 < (((rd_T53 l0 x11_1).f0).length : Int)) = false := decide_eq_false c18
          have c18b1 : decide (4 < ((rd_T53 l0 x11_1).f0).length) = false := decide_eq_false (by omega)
          clear c18
          have H' := ak H
          clear H
          have p194 : 0 ≤ (x11_1 : Int) := of_decide_eq_true (by assumption)
          have q194 : x11_1 < (l0.length : Int) := of_decide_eq_true (by assumption)
          obtain ⟨ad194, A194_0, c194_0, e194, hx194_0, hl194_0, hi194_0⟩ := at_T53 HR0.out x11_1 p194 q194
          cases e194
          replace hx194_0 := bc HB.out hx194_0
          have HR194_0 := ak hi194_0
          have HC194_0 := ak hl194_0
          clear hi194_0 hl194_0
          replace p194 := eq_true p194
          replace q194 := eq_true q194
          go_wp2_with (first | ((with_reducible refine gate_dst (N := 4) rfl ?_); (try (refine gate_guard (by rfl) ?_; dsimp only)); refine box_event ?hg (N := 4) ?hd (cs := #[.slice none 0 0]) (t := 53) ?hr ?_; (case hd => rfl); (case hg => rfl); (case hr => first | (go_simp; done) | (go_simp; rfl)); intro gb195 hg w21 hbox hb; have n0_ := ak (below_step (by exact hopb HB.out) hb); have n1_ := ak (hbox); have n2_ := ak ((by rw [hg]; exact (below_size (by exact hopb HB.out)) : w.heap.size ≤ gb195)); have n3_ := n2_; clear HB; have HB := n0_; have BK195 := n1_; have GW195 := n2_; have GE195 := n3_; clear n0_ n1_ n2_ n3_; clear hb hbox hg; have hcz22_0 : w21.cell? ⟨gb195, 0, none⟩ = some (.slice none 0 0) := (blk_cell BK195.out 0).trans rfl; have hfz22_0 := blk_frozen BK195.out 0))
          go_roundg k1
          case measure => have := HK1.out; omega
          case rel => exact ⟨(wrap64 (x11_1 + 1)), (by first | rfl | (simp [*]; done)), H', ⟨by have := HK1.out; omega⟩, ⟨by repeat (first | exact HB.out | apply bA | apply bN | apply bD | refine bS ?_ GE195.out)⟩⟩
      ·rw [if_neg c5] at H
       exact absurd H (by simp)
     ·rw [if_neg c4] at H
      exact absurd H (by simp)
    ·rw [if_neg c3] at H
     have c3b0 : decide (x11_1 < (l0.length : Int)) = false := decide_eq_false c3
     clear c3
     replace H := Option.bind_eq_some_iff.mp H
     obtain ⟨t190, A230, H⟩ := H
     try dsimp only at H
     have A23 := ak A230
     clear A230
     replace H := Option.bind_eq_some_iff.mp H
     obtain ⟨t193, A240, H⟩ := H
     try dsimp only at H
     have A24 := ak A240
     clear A240
     obtain rfl := Option.some.inj H
     go_wp2_with (first | ((with_reducible refine gate_callee (f := 45) rfl ?_); refine goesL_ (some 31) rfl rfl Try.func45 (by kernel_rfl) rfl #[.slice A0 l0.length c0] rfl (by (try simp only [List.map_toArray, List.map_cons, List.map_nil]); first | done | rfl | (simp only [List.length_drop, List.length_take]; rfl)) ?_; (with_reducible refine (impl_allPairs.calls k1 _ _ l0 t190 _ ?side1 ?side2 A23.out).mono ?_); (case side1 => repeat (first | exact (Kd.C_below HR0.out HB.out) | (with_reducible refine Kd.C_alloc ?_ _) | (with_reducible refine Kd.C_drewN ?_ _) | (with_reducible refine Kd.C_drew ?_))); (case side2 => exact HC0.out); rintro e w25 ⟨v191, rfl, ho0, hb⟩; refine ⟨_, rfl, ?_⟩; have HO192 := ak (Kd.R_lower ho0 (below_size (by exact hopb HB.out))); replace HB := ak (below_step (by exact hopb HB.out) hb); (try clear hb); (try clear ho0); obtain ⟨Ao26, co26, eo26⟩ := Kd.R_slice HO192.out; subst eo26) | ((with_reducible refine gate_callee (f := 51) rfl ?_); refine goesL_ (some 32) rfl rfl Try.func51 (by kernel_rfl) rfl #[.slice Ao26 t190.length co26] rfl (by (try simp only [List.map_toArray, List.map_cons, List.map_nil]); first | done | rfl | (simp only [List.length_drop, List.length_take]; rfl)) ?_; (with_reducible refine (impl_PairsValid.calls k1 _ _ t190 t193 _ ?side1 ?side2 A24.out).mono ?_); (case side1 => repeat (first | exact (Kd.R_reads' HO192.out).2.2 | (with_reducible refine Kd.C_alloc ?_ _) | (with_reducible refine Kd.C_drewN ?_ _) | (with_reducible refine Kd.C_drew ?_))); (case side2 => exact (Kd.R_reads' HO192.out).2.1); rintro e w27 ⟨rfl, hb⟩; refine ⟨_, rfl, ?_⟩; replace HO192 := ak (Kd.R_below (by (with_reducible repeat (first | apply Kd.R_alloc | apply Kd.R_drewN | apply Kd.R_drew)); exact HO192.out) hb); replace HB := ak (below_step (by exact hopb HB.out) hb); (try clear hb)))
     go_ret
     exact ⟨by first | rfl | (simp [*, errW_none, errW_some] <;> rfl), by exact hopb HB.out⟩

/-! ### impl_copyPages: function 31 -/
def impl_copyPages.l0 : Nat → List (S53) → List (S53) → Int → Int → Option ((List (S53)))
 | 0, _, _, _, _ => none
 | k + 1, x3, x6, x7, x8 => if x8 < x7 then (if 0 ≤ x8 then (if x8 < (x6.length : Int) then ((impl_copyOf_Pair.f ((rd_T53 x6 x8).f0)).bind fun t198 => (if x3.length < 5864062014805 then (impl_copyPages.l0 k (x3 ++ [(⟨t198⟩ : S53)]) x6 x7 (wrap64 (x8 + 1))) else (none))) else (none)) else (none)) else (some x3)
def impl_copyPages.f (k : Nat) (l0 : List (S53)) : Option ((List (S53))) := impl_copyPages.l0 k ([] : List (S53)) l0 (l0.length : Int) 0
theorem impl_copyPages.mono_l : ∀ k, (∀ y0 y1 y2 y3, LeO (impl_copyPages.l0 k y0 y1 y2 y3) (impl_copyPages.l0 (k + 1) y0 y1 y2 y3))
 | 0 => fun _ _ _ _ r h => by simp [impl_copyPages.l0] at h
 | k + 1 => by
  have ih0 := impl_copyPages.mono_l k
  ·intro y0 y1 y2 y3
   unfold impl_copyPages.l0
   repeat' first
   | (with_reducible exact ih0 _ _ _ _)
   | (with_reducible exact LeO.refl _)
   | (with_reducible exact LeO.none _)
   | (with_reducible refine LeO.ite ?_ ?_)
   | (with_reducible refine LeO.bind ?_ (fun _ => ?_))
   | exact ih0 _ _ _ _
   | exact LeO.none _
   | refine LeO.ite ?_ ?_
   | refine LeO.bind ?_ (fun _ => ?_)
theorem impl_copyPages.mono : ∀ a0 k, LeO (impl_copyPages.f k a0) (impl_copyPages.f (k + 1) a0) := by
 intro a0 k
 have ih0 := impl_copyPages.mono_l k
 unfold impl_copyPages.f
 repeat' first
   | (with_reducible exact ih0 _ _ _ _)
   | (with_reducible exact LeO.refl _)
   | (with_reducible exact LeO.none _)
   | (with_reducible refine LeO.ite ?_ ?_)
   | (with_reducible refine LeO.bind ?_ (fun _ => ?_))
   | exact ih0 _ _ _ _
   | exact LeO.none _
   | refine LeO.ite ?_ ?_
   | refine LeO.bind ?_ (fun _ => ?_)
theorem impl_copyPages.calls (k : Nat) (A0 : Option Addr) (c0 : Nat) (l0 : List (S53)) (r : List (S53)) (w : World) (hr0 : Kd.C k53 w A0 l0.length l0) (hc0 : l0.length ≤ c0) (h : impl_copyPages.f k l0 = some r) :
  Calls Try.prog 31 #[.slice A0 l0.length c0] w fun e w' => ∃ v0_ : Value, e = .returned (v0_) ∧ Kd.S k53 53 w' w.heap.size (fun _ => True) v0_ r ∧ Below w.heap.size w w' := by
 have hu53 := Try.underlying53
 have HR0 := ak hr0
 have HC0 := ak hc0
 clear hr0 hc0
 have HB := ak (Below.refl w.heap.size w)
 have H : (impl_copyPages.l0 k ([] : List (S53)) l0 (l0.length : Int) 0) = some r := h
 clear h
 have H' := ak H
 clear H
 go_enter Try.func31, Try.ntmps31
 go_wp2
 go_loopg [3, 8] k (fun kq v3 v8 w' => ∃ (x3_1 : List (S53)) (x8_1 : Int), v8 = .int .i64 x8_1 ∧ Aside0 (impl_copyPages.l0 kq x3_1 l0 (l0.length : Int) x8_1 = some r) ∧ Aside0 (kq ≤ k) ∧ Aside0 (Kd.S k53 53 w' w.heap.size (fun _ => True) v3 x3_1) ∧ Aside0 (Below w.heap.size w w'))
 case atStart => exact ⟨(([] : List (S53))), (0), (by first | rfl | (simp [*]; done)), H', ⟨Nat.le_refl _⟩, ⟨by first | exact Kd.S_nil _ _ _ _ _ | exact Kd.N_nil _ _ _ _ _ | exact Kd.V_nil _ _ _ _ _ | exact Kd.Q_nil _ _ _ _ _ | exact Kd.R_nil _ _ _ _ _⟩, ⟨by exact hopb HB.out⟩⟩
 case round =>
  clear H'
  obtain ⟨x3_1, x8_1, rfl, HA, HK1, HO_3, HB⟩ := hrel
  cases gk with
  | zero => exact absurd HA.out (by simp [impl_copyPages.l0])
  | succ k1 =>
   have H := HA.out
   clear HA
   simp only [impl_copyPages.l0] at H
   by_cases c2 : x8_1 < (l0.length : Int)
   ·rw [if_pos c2] at H
    have c2b0 : decide (x8_1 < (l0.length : Int)) = true := decide_eq_true c2
    clear c2
    by_cases c3 : 0 ≤ x8_1
    ·rw [if_pos c3] at H
     have c3b0 : decide (0 ≤ x8_1) = true := decide_eq_true c3
     clear c3
     by_cases c4 : x8_1 < (l0.length : Int)
     ·rw [if_pos c4] at H
      have c4b0 : decide (x8_1 < (l0.length : Int)) = true := decide_eq_true c4
      clear c4
      replace H := Option.bind_eq_some_iff.mp H
      obtain ⟨t198, A50, H⟩ := H
      try dsimp only at H
      have A5 := ak A50
      clear A50
      by_cases c6 : x3_1.length < 5864062014805
      ·rw [if_pos c6] at H
       have LMc6 := ak c6
       clear c6
       obtain ⟨y201, hy201⟩ : ∃ y_ : List (S53), y_ = (x3_1 ++ [(⟨t198⟩ : S53)]) := ⟨_, rfl⟩
       replace H : (impl_copyPages.l0 k1 y201 l0 (l0.length : Int) (wrap64 (x8_1 + 1))) = some r := by first | (rw [hy201]; exact H) | exact H
       have Ny201 := ak hy201
       clear hy201
       have H' := ak H
       clear H
       have p196 : 0 ≤ (x8_1 : Int) := of_decide_eq_true (by assumption)
       have q196 : x8_1 < (l0.length : Int) := of_decide_eq_true (by assumption)
       obtain ⟨ad196, A196_0, c196_0, e196, hx196_0, hl196_0, hi196_0⟩ := at_T53 HR0.out x8_1 p196 q196
       cases e196
       replace hx196_0 := bc HB.out hx196_0
       have HR196_0 := ak hi196_0
       have HC196_0 := ak hl196_0
       clear hi196_0 hl196_0
       replace p196 := eq_true p196
       replace q196 := eq_true q196
       go_wp2_with (first | ((with_reducible refine gate_dst (N := 5) rfl ?_); refine box_event ?hg (N := 5) ?hd (cs := #[.slice none 0 0]) (t := 53) ?hr ?_; (case hd => rfl); (case hg => rfl); (case hr => first | (go_simp; done) | (go_simp; rfl)); intro gb197 hg w7 hbox hb; have n0_ := ak (Kd.S_below (Kd.S_elderB (by (with_reducible repeat (first | apply Kd.S_alloc | apply Kd.S_drewN | apply Kd.S_drew)); exact HO_3.out) gb197 (Nat.le_of_eq hg.symm)) hb); have n1_ := ak (below_step (by exact hopb HB.out) hb); have n2_ := ak (hbox); have n3_ := ak ((by rw [hg]; exact (below_size (by exact hopb HB.out)) : w.heap.size ≤ gb197)); have n4_ := n3_; clear HO_3; clear HB; have HO_3 := n0_; have HB := n1_; have BK197 := n2_; have GW197 := n3_; have GE197 := n4_; clear n0_ n1_ n2_ n3_ n4_; clear hb hbox hg; have hcz8_0 : w7.cell? ⟨gb197, 0, none⟩ = some (.slice none 0 0) := (blk_cell BK197.out 0).trans rfl; have hfz8_0 := blk_frozen BK197.out 0) | ((with_reducible refine gate_callee (f := 46) rfl ?_); refine goesL_ (some 15) rfl rfl Try.func46 (by kernel_rfl) rfl #[.slice A196_0 ((rd_T53 l0 x8_1).f0).length c196_0] rfl (by (try simp only [List.map_toArray, List.map_cons, List.map_nil]); first | done | rfl | (simp only [List.length_drop, List.length_take]; rfl)) ?_; (with_reducible refine (impl_copyOf_Pair.calls _ _ ((rd_T53 l0 x8_1).f0) t198 _ ?side1 ?side2 A5.out).mono ?_); (case side1 => exact Kd.C_below HR196_0.out (by repeat (first | exact HB.out | apply bA | apply bN | apply bD | refine bS ?_ GE197.out))); (case side2 => exact HC196_0.out); rintro e w9 ⟨v199, rfl, ho0, hb⟩; refine ⟨_, rfl, ?_⟩; replace HO_3 := ak (Kd.S_elder' (by (with_reducible repeat (first | apply Kd.S_alloc | apply Kd.S_drewN | apply Kd.S_drew)); exact (Kd.S_mono (Kd.S_far (p := ⟨gb197, 0, none⟩) (Kd.S_mono HO_3.out (fun k_ hk => (⟨hk, hk.2⟩ : _ ∧ k_ ≠ gb197))) (fun _ hk => hk.2) (.slice A196_0 ((rd_T53 l0 x8_1).f0).length c196_0)) (fun _ h_ => h_.1))) (Kd.R_base ho0) hb); have HO200 := ak (Kd.R_lower ho0 (below_size (by repeat (first | exact HB.out | apply bA | apply bN | apply bD | refine bS ?_ GE197.out)))); replace BK197 := ak (blk_below (g := gb197) (o := .cells #[.slice A196_0 ((rd_T53 l0 x8_1).f0).length c196_0] 53 (0, 0)) (by (with_reducible repeat (first | refine kN ?_ _ | refine kD ?_ | refine kA ?_ _)); refine blk_put (cs := #[.slice none 0 0]) ?_ 0 _ rfl; exact hop BK197.out) hb); replace HB := ak (below_step (by repeat (first | exact HB.out | apply bA | apply bN | apply bD | refine bS ?_ GE197.out)) hb); (try clear hb); (try clear ho0); obtain ⟨Ao10, co10, eo10⟩ := Kd.R_slice HO200.out; subst eo10) | ((with_reducible refine gate_builtin (b := .append) (xs := #[.tmp 12, .tmp 17]) rfl ?_); at_builtin; refine Kd.S_append k53 (w0 := w) w.heap.size rfl (.tmp 12) (.tmp 17) 24 53 (.agg #[(.slice none 0 0)]) 24 rfl Try.underlying24 info53 rfl (by decide) (by omega) u3 x3_1 (⟨t198⟩ : S53) [.slice Ao10 t198.length co10] (fun k_ => k_ ≠ gb197) (fun k_ => some k_ = (.slice Ao10 t198.length co10 : Value).ownBlock) rfl rfl ?aP (fun k_ hk_ => ((Kd.R_mono (ok' := fun k_ => ((fun k_ => k_ ≠ gb197)) k_ ∧ some k_ ≠ (u3 : Value).ownBlock) (Kd.R_types (Kd.R_apart' (HO200.out) (Kd.S_typed HO_3.out) (by decide)) BK197.out (by decide)) (fun k_ hk => ⟨hk.2, hk.1.2⟩))).1 k_ hk_.symm) ?aF ?aO ?aB ?aS ?aL ?_; (case aP => exact k53_mkM _ _ _ (⟨t198⟩ : S53) (Kd.R_mono (Kd.R_tight rfl (Kd.R_mono (ok' := fun k_ => ((fun k_ => k_ ≠ gb197)) k_ ∧ some k_ ≠ (u3 : Value).ownBlock) (Kd.R_types (Kd.R_apart' (HO200.out) (Kd.S_typed HO_3.out) (by decide)) BK197.out (by decide)) (fun k_ hk => ⟨hk.2, hk.1.2⟩))) (fun _ h_ => h_))); (case aB => exact (by repeat (first | exact HB.out | apply bA | apply bN | apply bD | refine bS ?_ GE197.out))); (case aF => exact (fun k_ hk => Kd.freshB (g := gb197) (o := .cells #[.slice A196_0 ((rd_T53 l0 x8_1).f0).length c196_0] 53 (0, 0)) (by exact hop BK197.out) k_ hk)); (case aO => exact (by (with_reducible repeat (first | apply Kd.S_alloc | apply Kd.S_drewN | apply Kd.S_drew)); exact Kd.S_mono HO_3.out (fun k_ hk => ⟨hk.1.2, fun e_ => hk.2 e_⟩))); (case aS => exact (below_size (by repeat (first | exact HB.out | apply bA | apply bN | apply bD | refine bS ?_ GE197.out)))); (case aL => have := LMc6.out; omega); intro v202 w11 ho hb hg hat; rw [← Ny201.out] at ho; replace BK197 := ak (blk_grown (g := gb197) (o := .cells #[.slice A196_0 ((rd_T53 l0 x8_1).f0).length c196_0] 53 (0, 0)) (by exact hop BK197.out) hg (Kd.S_away HO_3.out (fun _ hk => hk.1.2))); replace HB := ak (hb); have HO203 := ak (ho); clear HO_3 HO200; clear ho hb hg hat))
       go_roundg k1
       case measure => have := HK1.out; omega
       case rel => exact ⟨(y201), (wrap64 (x8_1 + 1)), (by first | rfl | (simp [*]; done)), H', ⟨by have := HK1.out; omega⟩, ⟨by (with_reducible repeat (first | apply Kd.S_alloc | apply Kd.S_drewN | apply Kd.S_drew)); exact Kd.S_mono HO203.out (fun _ hk => trivial)⟩, ⟨by repeat (first | exact HB.out | apply bA | apply bN | apply bD | refine bS ?_ GE197.out)⟩⟩
      ·rw [if_neg c6] at H
       exact absurd H (by simp)
     ·rw [if_neg c4] at H
      exact absurd H (by simp)
    ·rw [if_neg c3] at H
     exact absurd H (by simp)
   ·rw [if_neg c2] at H
    have c2b0 : decide (x8_1 < (l0.length : Int)) = false := decide_eq_false c2
    clear c2
    obtain rfl := Option.some.inj H
    go_wp2
    go_ret
    exact ⟨_, by first | rfl | (simp [*, errW_none, errW_some] <;> rfl), by (with_reducible repeat (first | apply Kd.S_alloc | apply Kd.S_drewN | apply Kd.S_drew)); exact HO_3.out, by exact hopb HB.out⟩

/-! ### impl_pageOf: function 32 -/
def impl_pageOf.l0 : Nat → ByteArray → Int → List (S53) → Int → Int → Option (Int)
 | 0, _, _, _, _, _ => none
 | k + 1, x1, x5, x8, x9, x10 => if x10 < x9 then (if 0 ≤ x10 then (if x10 < (x8.length : Int) then (if 0 < (((rd_T53 x8 x10).f0).length : Int) then (if (Op.bytesLess (((rd_T65 ((rd_T53 x8 x10).f0) 0).f0).toList) x1.toList) = true then (impl_pageOf.l0 k x1 x10 x8 x9 (wrap64 (x10 + 1))) else (if ((rd_T65 ((rd_T53 x8 x10).f0) 0).f0).toList = x1.toList then (impl_pageOf.l0 k x1 x10 x8 x9 (wrap64 (x10 + 1))) else (impl_pageOf.l0 k x1 x5 x8 x9 (wrap64 (x10 + 1))))) else (none)) else (none)) else (none)) else (some x5)
def impl_pageOf.f (k : Nat) (l0 : List (S53)) (a1 : ByteArray) : Option (Int) := impl_pageOf.l0 k a1 0 l0 (l0.length : Int) 0
theorem impl_pageOf.mono_l : ∀ k, (∀ y0 y1 y2 y3 y4, LeO (impl_pageOf.l0 k y0 y1 y2 y3 y4) (impl_pageOf.l0 (k + 1) y0 y1 y2 y3 y4))
 | 0 => fun _ _ _ _ _ r h => by simp [impl_pageOf.l0] at h
 | k + 1 => by
  have ih0 := impl_pageOf.mono_l k
  ·intro y0 y1 y2 y3 y4
   unfold impl_pageOf.l0
   repeat' first
   | (with_reducible exact ih0 _ _ _ _ _)
   | (with_reducible exact LeO.refl _)
   | (with_reducible exact LeO.none _)
   | (with_reducible refine LeO.ite ?_ ?_)
   | (with_reducible refine LeO.bind ?_ (fun _ => ?_))
   | exact ih0 _ _ _ _ _
   | exact LeO.none _
   | refine LeO.ite ?_ ?_
   | refine LeO.bind ?_ (fun _ => ?_)
theorem impl_pageOf.mono : ∀ a0 a1 k, LeO (impl_pageOf.f k a0 a1) (impl_pageOf.f (k + 1) a0 a1) := by
 intro a0 a1 k
 have ih0 := impl_pageOf.mono_l k
 unfold impl_pageOf.f
 repeat' first
   | (with_reducible exact ih0 _ _ _ _ _)
   | (with_reducible exact LeO.refl _)
   | (with_reducible exact LeO.none _)
   | (with_reducible refine LeO.ite ?_ ?_)
   | (with_reducible refine LeO.bind ?_ (fun _ => ?_))
   | exact ih0 _ _ _ _ _
   | exact LeO.none _
   | refine LeO.ite ?_ ?_
   | refine LeO.bind ?_ (fun _ => ?_)
theorem impl_pageOf.calls (k : Nat) (A0 : Option Addr) (c0 : Nat) (l0 : List (S53)) (a1 : ByteArray) (r : Int) (w : World) (hr0 : Kd.C k53 w A0 l0.length l0) (hc0 : l0.length ≤ c0) (h : impl_pageOf.f k l0 a1 = some r) :
  Calls Try.prog 32 #[.slice A0 l0.length c0, .string a1] w fun e w' => e = .returned (.int .i64 r) ∧ Below w.heap.size w w' := by
 have hu53 := Try.underlying53
 have HR0 := ak hr0
 have HC0 := ak hc0
 clear hr0 hc0
 have HB := ak (Below.refl w.heap.size w)
 have H : (impl_pageOf.l0 k a1 0 l0 (l0.length : Int) 0) = some r := h
 clear h
 have H' := ak H
 clear H
 go_enter Try.func32, Try.ntmps32
 go_wp2
 go_loopg [5, 10] k (fun kq v5 v10 w' => ∃ (x5_1 : Int) (x10_1 : Int), v5 = .int .i64 x5_1 ∧ v10 = .int .i64 x10_1 ∧ Aside0 (impl_pageOf.l0 kq a1 x5_1 l0 (l0.length : Int) x10_1 = some r) ∧ Aside0 (kq ≤ k) ∧ Aside0 (Below w.heap.size w w'))
 case atStart => exact ⟨(0), (0), (by first | rfl | (simp [*]; done)), (by first | rfl | (simp [*]; done)), H', ⟨Nat.le_refl _⟩, ⟨by exact hopb HB.out⟩⟩
 case round =>
  clear H'
  try clear p2
  obtain ⟨x5_1, x10_1, rfl, rfl, HA, HK1, HB⟩ := hrel
  cases gk with
  | zero => exact absurd HA.out (by simp [impl_pageOf.l0])
  | succ k1 =>
   have H := HA.out
   clear HA
   simp only [impl_pageOf.l0] at H
   by_cases c3 : x10_1 < (l0.length : Int)
   ·rw [if_pos c3] at H
    have c3b0 : decide (x10_1 < (l0.length : Int)) = true := decide_eq_true c3
    clear c3
    by_cases c4 : 0 ≤ x10_1
    ·rw [if_pos c4] at H
     have c4b0 : decide (0 ≤ x10_1) = true := decide_eq_true c4
     clear c4
     by_cases c5 : x10_1 < (l0.length : Int)
     ·rw [if_pos c5] at H
      have c5b0 : decide (x10_1 < (l0.length : Int)) = true := decide_eq_true c5
      clear c5
      by_cases c6 : 0 < (((rd_T53 l0 x10_1).f0).length : Int)
      ·rw [if_pos c6] at H
       have c6b0 : decide (0 < (((rd_T53 l0 x10_1).f0).length : Int)) = true := decide_eq_true c6
       have c6b1 : decide (0 < ((rd_T53 l0 x10_1).f0).length) = true := decide_eq_true (by omega)
       clear c6
       by_cases c7 : (Op.bytesLess (((rd_T65 ((rd_T53 l0 x10_1).f0) 0).f0).toList) a1.toList) = true
       ·rw [if_pos c7] at H
        have c7b0 : (Op.bytesLess (((rd_T65 ((rd_T53 l0 x10_1).f0) 0).f0).toList) a1.toList) = true := c7
        clear c7
        have H' := ak H
        clear H
        have p204 : 0 ≤ (x10_1 : Int) := of_decide_eq_true (by assumption)
        have q204 : x10_1 < (l0.length : Int) := of_decide_eq_true (by assumption)
        obtain ⟨ad204, A204_0, c204_0, e204, hx204_0, hl204_0, hi204_0⟩ := at_T53 HR0.out x10_1 p204 q204
        cases e204
        replace hx204_0 := bc HB.out hx204_0
        have HR204_0 := ak hi204_0
        have HC204_0 := ak hl204_0
        clear hi204_0 hl204_0
        replace p204 := eq_true p204
        replace q204 := eq_true q204
        go_wp2_with (first | ((with_reducible refine gate_dst (N := 7) rfl ?_); refine box_event ?hg (N := 7) ?hd (cs := #[.slice none 0 0]) (t := 53) ?hr ?_; (case hd => rfl); (case hg => rfl); (case hr => first | (go_simp; done) | (go_simp; rfl)); intro gb205 hg w8 hbox hb; have n0_ := ak (below_step (by exact hopb HB.out) hb); have n1_ := ak (hbox); have n2_ := ak ((by rw [hg]; exact (below_size (by exact hopb HB.out)) : w.heap.size ≤ gb205)); have n3_ := n2_; clear HB; have HB := n0_; have BK205 := n1_; have GW205 := n2_; have GE205 := n3_; clear n0_ n1_ n2_ n3_; clear hb hbox hg; have hcz9_0 : w8.cell? ⟨gb205, 0, none⟩ = some (.slice none 0 0) := (blk_cell BK205.out 0).trans rfl; have hfz9_0 := blk_frozen BK205.out 0; have p206 : 0 ≤ (0 : Int) := (by omega); have q206 : 0 < (((rd_T53 l0 x10_1).f0).length : Int) := of_decide_eq_true (by assumption); obtain ⟨ad206, e206, hx206_0, hx206_1⟩ := at_T65 HR204_0.out 0 p206 q206; cases e206; have qi206 : (0 < ((rd_T53 l0 x10_1).f0).length) = True := eq_true (by omega); (try rw [show ((0 : Int)).toNat = 0 from rfl] at hx206_0); (try rw [show 0 * 2 = 0 from rfl] at hx206_0); (try rw [Addr.add_zero'] at hx206_0); (try rw [show ((0 : Int)).toNat = 0 from rfl] at hx206_1); (try rw [show 0 * 2 = 0 from rfl] at hx206_1); (try rw [Addr.add_zero'] at hx206_1); have hn206_0 : ad206.block ≠ gb205 := Nat.ne_of_lt (Nat.lt_of_lt_of_le (by have := World.block_lt_of_cell? _ _ hx206_0; first | rwa [add_block] at this | exact this) GW205.out); replace hx206_0 := (HB.out.cell (World.block_lt_of_cell? w _ hx206_0)).trans hx206_0; replace hx206_1 := (HB.out.cell (World.block_lt_of_cell? w _ hx206_1)).trans hx206_1; replace hx206_0 := (cell_far (p := ⟨gb205, 0, none⟩) (by first | (rw [add_block]; exact hn206_0) | (show (Addr.add _ _).block ≠ _; rw [add_block]; exact hn206_0) | exact hn206_0) (.slice (some ad206) ((rd_T53 l0 x10_1).f0).length c204_0)).trans hx206_0; replace hx206_1 := (cell_far (p := ⟨gb205, 0, none⟩) (by first | (rw [add_block]; exact hn206_0) | (show (Addr.add _ _).block ≠ _; rw [add_block]; exact hn206_0) | exact hn206_0) (.slice (some ad206) ((rd_T53 l0 x10_1).f0).length c204_0)).trans hx206_1; clear hn206_0; replace p206 := eq_true p206; replace q206 := eq_true q206))
        go_roundg k1
        case measure => have := HK1.out; omega
        case rel => exact ⟨(x10_1), (wrap64 (x10_1 + 1)), (by first | rfl | (simp [*]; done)), (by first | rfl | (simp [*]; done)), H', ⟨by have := HK1.out; omega⟩, ⟨by repeat (first | exact HB.out | apply bA | apply bN | apply bD | refine bS ?_ GE205.out)⟩⟩
       ·rw [if_neg c7] at H
        have c7b0 : (Op.bytesLess (((rd_T65 ((rd_T53 l0 x10_1).f0) 0).f0).toList) a1.toList) = false := by simpa using c7
        clear c7
        by_cases c10 : ((rd_T65 ((rd_T53 l0 x10_1).f0) 0).f0).toList = a1.toList
        ·rw [if_pos c10] at H
         have c10b0 : (((rd_T65 ((rd_T53 l0 x10_1).f0) 0).f0).toList == a1.toList) = true := beq_iff_eq.mpr c10
         have c10b1 : (((rd_T65 ((rd_T53 l0 x10_1).f0) 0).f0).toList != a1.toList) = false := bne_eq_false_iff_eq.mpr c10
         clear c10
         have H' := ak H
         clear H
         have p204 : 0 ≤ (x10_1 : Int) := of_decide_eq_true (by assumption)
         have q204 : x10_1 < (l0.length : Int) := of_decide_eq_true (by assumption)
         obtain ⟨ad204, A204_0, c204_0, e204, hx204_0, hl204_0, hi204_0⟩ := at_T53 HR0.out x10_1 p204 q204
         cases e204
         replace hx204_0 := bc HB.out hx204_0
         have HR204_0 := ak hi204_0
         have HC204_0 := ak hl204_0
         clear hi204_0 hl204_0
         replace p204 := eq_true p204
         replace q204 := eq_true q204
         go_wp2_with (first | ((with_reducible refine gate_dst (N := 7) rfl ?_); refine box_event ?hg (N := 7) ?hd (cs := #[.slice none 0 0]) (t := 53) ?hr ?_; (case hd => rfl); (case hg => rfl); (case hr => first | (go_simp; done) | (go_simp; rfl)); intro gb205 hg w11 hbox hb; have n0_ := ak (below_step (by exact hopb HB.out) hb); have n1_ := ak (hbox); have n2_ := ak ((by rw [hg]; exact (below_size (by exact hopb HB.out)) : w.heap.size ≤ gb205)); have n3_ := n2_; clear HB; have HB := n0_; have BK205 := n1_; have GW205 := n2_; have GE205 := n3_; clear n0_ n1_ n2_ n3_; clear hb hbox hg; have hcz12_0 : w11.cell? ⟨gb205, 0, none⟩ = some (.slice none 0 0) := (blk_cell BK205.out 0).trans rfl; have hfz12_0 := blk_frozen BK205.out 0; have p206 : 0 ≤ (0 : Int) := (by omega); have q206 : 0 < (((rd_T53 l0 x10_1).f0).length : Int) := of_decide_eq_true (by assumption); obtain ⟨ad206, e206, hx206_0, hx206_1⟩ := at_T65 HR204_0.out 0 p206 q206; cases e206; have qi206 : (0 < ((rd_T53 l0 x10_1).f0).length) = True := eq_true (by omega); (try rw [show ((0 : Int)).toNat = 0 from rfl] at hx206_0); (try rw [show 0 * 2 = 0 from rfl] at hx206_0); (try rw [Addr.add_zero'] at hx206_0); (try rw [show ((0 : Int)).toNat = 0 from rfl] at hx206_1); (try rw [show 0 * 2 = 0 from rfl] at hx206_1); (try rw [Addr.add_zero'] at hx206_1); have hn206_0 : ad206.block ≠ gb205 := Nat.ne_of_lt (Nat.lt_of_lt_of_le (by have := World.block_lt_of_cell? _ _ hx206_0; first | rwa [add_block] at this | exact this) GW205.out); replace hx206_0 := (HB.out.cell (World.block_lt_of_cell? w _ hx206_0)).trans hx206_0; replace hx206_1 := (HB.out.cell (World.block_lt_of_cell? w _ hx206_1)).trans hx206_1; replace hx206_0 := (cell_far (p := ⟨gb205, 0, none⟩) (by first | (rw [add_block]; exact hn206_0) | (show (Addr.add _ _).block ≠ _; rw [add_block]; exact hn206_0) | exact hn206_0) (.slice (some ad206) ((rd_T53 l0 x10_1).f0).length c204_0)).trans hx206_0; replace hx206_1 := (cell_far (p := ⟨gb205, 0, none⟩) (by first | (rw [add_block]; exact hn206_0) | (show (Addr.add _ _).block ≠ _; rw [add_block]; exact hn206_0) | exact hn206_0) (.slice (some ad206) ((rd_T53 l0 x10_1).f0).length c204_0)).trans hx206_1; clear hn206_0; replace p206 := eq_true p206; replace q206 := eq_true q206))
         go_roundg k1
         case measure => have := HK1.out; omega
         case rel => exact ⟨(x10_1), (wrap64 (x10_1 + 1)), (by first | rfl | (simp [*]; done)), (by first | rfl | (simp [*]; done)), H', ⟨by have := HK1.out; omega⟩, ⟨by repeat (first | exact HB.out | apply bA | apply bN | apply bD | refine bS ?_ GE205.out)⟩⟩
        ·rw [if_neg c10] at H
         have c10b0 : (((rd_T65 ((rd_T53 l0 x10_1).f0) 0).f0).toList == a1.toList) = false := beq_eq_false_iff_ne.mpr c10
         have c10b1 : (((rd_T65 ((rd_T53 l0 x10_1).f0) 0).f0).toList != a1.toList) = true := bne_iff_ne.mpr c10
         have H' := ak H
         clear H
         have p204 : 0 ≤ (x10_1 : Int) := of_decide_eq_true (by assumption)
         have q204 : x10_1 < (l0.length : Int) := of_decide_eq_true (by assumption)
         obtain ⟨ad204, A204_0, c204_0, e204, hx204_0, hl204_0, hi204_0⟩ := at_T53 HR0.out x10_1 p204 q204
         cases e204
         replace hx204_0 := bc HB.out hx204_0
         have HR204_0 := ak hi204_0
         have HC204_0 := ak hl204_0
         clear hi204_0 hl204_0
         replace p204 := eq_true p204
         replace q204 := eq_true q204
         go_wp2_with (first | ((with_reducible refine gate_dst (N := 7) rfl ?_); refine box_event ?hg (N := 7) ?hd (cs := #[.slice none 0 0]) (t := 53) ?hr ?_; (case hd => rfl); (case hg => rfl); (case hr => first | (go_simp; done) | (go_simp; rfl)); intro gb205 hg w13 hbox hb; have n0_ := ak (below_step (by exact hopb HB.out) hb); have n1_ := ak (hbox); have n2_ := ak ((by rw [hg]; exact (below_size (by exact hopb HB.out)) : w.heap.size ≤ gb205)); have n3_ := n2_; clear HB; have HB := n0_; have BK205 := n1_; have GW205 := n2_; have GE205 := n3_; clear n0_ n1_ n2_ n3_; clear hb hbox hg; have hcz14_0 : w13.cell? ⟨gb205, 0, none⟩ = some (.slice none 0 0) := (blk_cell BK205.out 0).trans rfl; have hfz14_0 := blk_frozen BK205.out 0; have p206 : 0 ≤ (0 : Int) := (by omega); have q206 : 0 < (((rd_T53 l0 x10_1).f0).length : Int) := of_decide_eq_true (by assumption); obtain ⟨ad206, e206, hx206_0, hx206_1⟩ := at_T65 HR204_0.out 0 p206 q206; cases e206; have qi206 : (0 < ((rd_T53 l0 x10_1).f0).length) = True := eq_true (by omega); (try rw [show ((0 : Int)).toNat = 0 from rfl] at hx206_0); (try rw [show 0 * 2 = 0 from rfl] at hx206_0); (try rw [Addr.add_zero'] at hx206_0); (try rw [show ((0 : Int)).toNat = 0 from rfl] at hx206_1); (try rw [show 0 * 2 = 0 from rfl] at hx206_1); (try rw [Addr.add_zero'] at hx206_1); have hn206_0 : ad206.block ≠ gb205 := Nat.ne_of_lt (Nat.lt_of_lt_of_le (by have := World.block_lt_of_cell? _ _ hx206_0; first | rwa [add_block] at this | exact this) GW205.out); replace hx206_0 := (HB.out.cell (World.block_lt_of_cell? w _ hx206_0)).trans hx206_0; replace hx206_1 := (HB.out.cell (World.block_lt_of_cell? w _ hx206_1)).trans hx206_1; replace hx206_0 := (cell_far (p := ⟨gb205, 0, none⟩) (by first | (rw [add_block]; exact hn206_0) | (show (Addr.add _ _).block ≠ _; rw [add_block]; exact hn206_0) | exact hn206_0) (.slice (some ad206) ((rd_T53 l0 x10_1).f0).length c204_0)).trans hx206_0; replace hx206_1 := (cell_far (p := ⟨gb205, 0, none⟩) (by first | (rw [add_block]; exact hn206_0) | (show (Addr.add _ _).block ≠ _; rw [add_block]; exact hn206_0) | exact hn206_0) (.slice (some ad206) ((rd_T53 l0 x10_1).f0).length c204_0)).trans hx206_1; clear hn206_0; replace p206 := eq_true p206; replace q206 := eq_true q206))
         go_roundg k1
         case measure => have := HK1.out; omega
         case rel => exact ⟨(x5_1), (wrap64 (x10_1 + 1)), (by first | rfl | (simp [*]; done)), (by first | rfl | (simp [*]; done)), H', ⟨by have := HK1.out; omega⟩, ⟨by repeat (first | exact HB.out | apply bA | apply bN | apply bD | refine bS ?_ GE205.out)⟩⟩
      ·rw [if_neg c6] at H
       exact absurd H (by simp)
     ·rw [if_neg c5] at H
      exact absurd H (by simp)
    ·rw [if_neg c4] at H
     exact absurd H (by simp)
   ·rw [if_neg c3] at H
    have c3b0 : decide (x10_1 < (l0.length : Int)) = false := decide_eq_false c3
    clear c3
    obtain rfl := Option.some.inj H
    go_wp2
    go_ret
    exact ⟨by first | rfl | (simp [*, errW_none, errW_some] <;> rfl), by exact hopb HB.out⟩

end Go.Proofs.Ytengnnhehjcfhaa.PFnExactPagesPut
