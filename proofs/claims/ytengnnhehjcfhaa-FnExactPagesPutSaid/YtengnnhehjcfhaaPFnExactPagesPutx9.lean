-- Written for this claim by a program of this session (wip/myprint in the proofs' repo)
import Derived.Test.YtengnnhehjcfhaaPFnExactPagesPutx0
import Derived.Test.YtengnnhehjcfhaaPFnExactPagesPutx6
import Derived.Test.YtengnnhehjcfhaaPFnExactPagesPutx7
import Derived.Test.YtengnnhehjcfhaaWZip
-- slim3
namespace Go.Proofs.Ytengnnhehjcfhaa.PFnExactPagesPut
open Go.RowKit Go.Proofs.YtengnnhehjcfhaaW.PrintWords Go.Proofs.YtengnnhehjcfhaaW.PrintLast Go.Proofs.YtengnnhehjcfhaaW.PrintMore
attribute [local go_sem] max2_int min2_int max_two min_two max_three min_three max_four min_four max2_strs min2_strs   -- for this text's walks alone
set_option linter.unusedVariables false
set_option linter.unusedSimpArgs false
set_option maxHeartbeats 8000000
set_option maxRecDepth 100000

/-! ### spec_l4Place: function 55 -/
def spec_l4Place.l0 : Nat → List (S65) → ByteArray → Int → Option (Int)
 | 0, _, _, _ => none
 | k + 1, x0, x1, x5 => if x5 < (x0.length : Int) then (if 0 ≤ x5 then (if (Op.bytesLess (((rd_T65 x0 x5).f0).toList) x1.toList) = true then (spec_l4Place.l0 k x0 x1 (wrap64 (x5 + 1))) else (some x5)) else (none)) else (some x5)
def spec_l4Place.f (k : Nat) (l0 : List (S65)) (a1 : ByteArray) : Option (Int) := spec_l4Place.l0 k l0 a1 0
theorem spec_l4Place.mono_l : ∀ k, (∀ y0 y1 y2, LeO (spec_l4Place.l0 k y0 y1 y2) (spec_l4Place.l0 (k + 1) y0 y1 y2))
 | 0 => fun _ _ _ r h => by simp [spec_l4Place.l0] at h
 | k + 1 => by
  have ih0 := spec_l4Place.mono_l k
  ·intro y0 y1 y2
   unfold spec_l4Place.l0
   repeat' first
   | (with_reducible exact ih0 _ _ _)
   | (with_reducible exact LeO.refl _)
   | (with_reducible exact LeO.none _)
   | (with_reducible refine LeO.ite ?_ ?_)
   | (with_reducible refine LeO.bind ?_ (fun _ => ?_))
   | exact ih0 _ _ _
   | exact LeO.none _
   | refine LeO.ite ?_ ?_
   | refine LeO.bind ?_ (fun _ => ?_)
theorem spec_l4Place.mono : ∀ a0 a1 k, LeO (spec_l4Place.f k a0 a1) (spec_l4Place.f (k + 1) a0 a1) := by
 intro a0 a1 k
 have ih0 := spec_l4Place.mono_l k
 unfold spec_l4Place.f
 repeat' first
   | (with_reducible exact ih0 _ _ _)
   | (with_reducible exact LeO.refl _)
   | (with_reducible exact LeO.none _)
   | (with_reducible refine LeO.ite ?_ ?_)
   | (with_reducible refine LeO.bind ?_ (fun _ => ?_))
   | exact ih0 _ _ _
   | exact LeO.none _
   | refine LeO.ite ?_ ?_
   | refine LeO.bind ?_ (fun _ => ?_)
theorem spec_l4Place.calls (k : Nat) (A0 : Option Addr) (c0 : Nat) (l0 : List (S65)) (a1 : ByteArray) (r : Int) (w : World) (hr0 : Kd.C k65 w A0 l0.length l0) (hc0 : l0.length ≤ c0) (h : spec_l4Place.f k l0 a1 = some r) :
  Calls Try.prog 55 #[.slice A0 l0.length c0, .string a1] w fun e w' => e = .returned (.int .i64 r) ∧ Drawn0 w w' := by
 have HR0 := ak hr0
 have HC0 := ak hc0
 clear hr0 hc0
 have H : (spec_l4Place.l0 k l0 a1 0) = some r := h
 clear h
 have H' := ak H
 clear H
 go_enter Try.func55, Try.ntmps55
 go_wp2
 go_loopg [5] k (fun kq v5 w' => ∃ (x5_1 : Int), v5 = .int .i64 x5_1 ∧ Aside0 (spec_l4Place.l0 kq l0 a1 x5_1 = some r) ∧ Aside0 (kq ≤ k) ∧ Drawn0 w w')
 case atStart => exact ⟨(0), (by first | rfl | (simp [*]; done)), H', ⟨Nat.le_refl _⟩, by repeat (first | exact Drawn0.refl _ | apply Drawn0.step)⟩
 case round =>
  clear H'
  try clear p2
  obtain ⟨x5_1, rfl, HA, HK1, ⟨m1, rfl⟩⟩ := hrel
  cases gk with
  | zero => exact absurd HA.out (by simp [spec_l4Place.l0])
  | succ k1 =>
   have H := HA.out
   clear HA
   simp only [spec_l4Place.l0] at H
   by_cases c3 : x5_1 < (l0.length : Int)
   ·rw [if_pos c3] at H
    have c3b0 : decide (x5_1 < (l0.length : Int)) = true := decide_eq_true c3
    clear c3
    by_cases c4 : 0 ≤ x5_1
    ·rw [if_pos c4] at H
     have c4b0 : decide (0 ≤ x5_1) = true := decide_eq_true c4
     clear c4
     by_cases c5 : (Op.bytesLess (((rd_T65 l0 x5_1).f0).toList) a1.toList) = true
     ·rw [if_pos c5] at H
      have c5b0 : (Op.bytesLess (((rd_T65 l0 x5_1).f0).toList) a1.toList) = true := c5
      clear c5
      have H' := ak H
      clear H
      have p252 : 0 ≤ (x5_1 : Int) := of_decide_eq_true (by assumption)
      have q252 : x5_1 < (l0.length : Int) := of_decide_eq_true (by assumption)
      obtain ⟨ad252, e252, hx252_0, hx252_1⟩ := at_T65 HR0.out x5_1 p252 q252
      cases e252
      replace p252 := eq_true p252
      replace q252 := eq_true q252
      go_wp2
      go_roundg k1
      case measure => have := HK1.out; omega
      case rel => exact ⟨(wrap64 (x5_1 + 1)), (by first | rfl | (simp [*]; done)), H', ⟨by have := HK1.out; omega⟩, by repeat (first | exact Drawn0.refl _ | apply Drawn0.step)⟩
     ·rw [if_neg c5] at H
      have c5b0 : (Op.bytesLess (((rd_T65 l0 x5_1).f0).toList) a1.toList) = false := by simpa using c5
      clear c5
      obtain rfl := Option.some.inj H
      have p252 : 0 ≤ (x5_1 : Int) := of_decide_eq_true (by assumption)
      have q252 : x5_1 < (l0.length : Int) := of_decide_eq_true (by assumption)
      obtain ⟨ad252, e252, hx252_0, hx252_1⟩ := at_T65 HR0.out x5_1 p252 q252
      cases e252
      replace p252 := eq_true p252
      replace q252 := eq_true q252
      go_wp2
      go_ret
      exact ⟨by first | rfl | (simp; done) | (simp [*]; done), by repeat (first | exact Drawn0.refl _ | apply Drawn0.step)⟩
    ·rw [if_neg c4] at H
     exact absurd H (by simp)
   ·rw [if_neg c3] at H
    have c3b0 : decide (x5_1 < (l0.length : Int)) = false := decide_eq_false c3
    clear c3
    obtain rfl := Option.some.inj H
    go_wp2
    go_ret
    exact ⟨by first | rfl | (simp; done) | (simp [*]; done), by repeat (first | exact Drawn0.refl _ | apply Drawn0.step)⟩

/-! ### spec_PairPut: function 49 -/
mutual
def spec_PairPut.j0 : Nat → List (S65) → ByteArray → Int → List (S65) → Bool → Option ((List (S65)) × Bool)
 | 0, _, _, _, _, _ => none
 | k + 1, x0, x1, x2, x8, x23 => if x23 = true then (some (x8, false)) else ((spec_l4Place.f k x0 x1).bind fun t259 => (if t259 < (x0.length : Int) then (if 0 ≤ t259 then (spec_PairPut.j1 k x0 x1 x2 x8 t259 (((rd_T65 x0 t259).f0).toList == x1.toList)) else (none)) else (spec_PairPut.j1 k x0 x1 x2 x8 t259 false)))
def spec_PairPut.j1 : Nat → List (S65) → ByteArray → Int → List (S65) → Int → Bool → Option ((List (S65)) × Bool)
 | 0, _, _, _, _, _, _ => none
 | k + 1, x0, x1, x2, x8, x9, x40 => if x40 = true then (if x8.length + x0.length < 5864062014805 then ((some (x8 ++ x0 : List (S65))).bind fun y261 => (if 0 ≤ x9 then (if x9 < (y261.length : Int) then (some ((y261.set (x9 : Int).toNat (⟨(rd_T65 y261 x9).f0, x2⟩ : S65)), true)) else (none)) else (none))) else (none)) else (if (x0.length : Int) ≥ 48 then (if x8.length + x0.length < 5864062014805 then (some ((x8 ++ x0), false)) else (none)) else (if 0 ≤ x9 then (if x9 ≤ (x0.length : Int) then ((some (x0.take (x9 : Int).toNat : List (S65))).bind fun y268 => (if x8.length + y268.length < 5864062014805 then ((some (x8 ++ y268 : List (S65))).bind fun y272 => (if y272.length < 5864062014805 then ((some (y272 ++ [(⟨x1, x2⟩ : S65)] : List (S65))).bind fun y275 => ((some (x0.drop (x9 : Int).toNat : List (S65))).bind fun y278 => (if y275.length + y278.length < 5864062014805 then (some ((y275 ++ y278), true)) else (none)))) else (none))) else (none))) else (none)) else (none)))
end
def spec_PairPut.f (k : Nat) (l0 : List (S65)) (a1 : ByteArray) (a2 : Int) : Option ((List (S65)) × Bool) := (some (([] : List (S65)) : List (S65))).bind fun y253 => ((spec_PairsValid.f k l0).bind fun t256 => (if t256 = true then ((spec_KeyValid.f k a1).bind fun t257 => (if t257 = true then ((spec_l1In.f a2 0 999).bind fun t258 => (spec_PairPut.j0 k l0 a1 a2 y253 (!t258))) else (spec_PairPut.j0 k l0 a1 a2 y253 true))) else (spec_PairPut.j0 k l0 a1 a2 y253 true)))
theorem spec_PairPut.mono_l : ∀ k, (∀ y0 y1 y2 y3 y4, LeO (spec_PairPut.j0 k y0 y1 y2 y3 y4) (spec_PairPut.j0 (k + 1) y0 y1 y2 y3 y4)) ∧ (∀ y0 y1 y2 y3 y4 y5, LeO (spec_PairPut.j1 k y0 y1 y2 y3 y4 y5) (spec_PairPut.j1 (k + 1) y0 y1 y2 y3 y4 y5))
 | 0 => ⟨fun _ _ _ _ _ r h => by simp [spec_PairPut.j0] at h, fun _ _ _ _ _ _ r h => by simp [spec_PairPut.j1] at h⟩
 | k + 1 => by
  obtain ⟨ih0, ih1⟩ := spec_PairPut.mono_l k
  refine ⟨?_, ?_⟩
  ·intro y0 y1 y2 y3 y4
   unfold spec_PairPut.j0
   repeat' first
   | (with_reducible exact ih0 _ _ _ _ _)
   | (with_reducible exact ih1 _ _ _ _ _ _)
   | (with_reducible exact spec_KeyValid.mono _ _)
   | (with_reducible exact spec_PairsValid.mono _ _)
   | (with_reducible exact spec_l4Place.mono _ _ _)
   | (with_reducible exact LeO.refl _)
   | (with_reducible exact LeO.none _)
   | (with_reducible refine LeO.ite ?_ ?_)
   | (with_reducible refine LeO.bind ?_ (fun _ => ?_))
   | exact ih0 _ _ _ _ _
   | exact ih1 _ _ _ _ _ _
   | exact LeO.none _
   | refine LeO.ite ?_ ?_
   | refine LeO.bind ?_ (fun _ => ?_)
  ·intro y0 y1 y2 y3 y4 y5
   unfold spec_PairPut.j1
   repeat' first
   | (with_reducible exact ih0 _ _ _ _ _)
   | (with_reducible exact ih1 _ _ _ _ _ _)
   | (with_reducible exact spec_KeyValid.mono _ _)
   | (with_reducible exact spec_PairsValid.mono _ _)
   | (with_reducible exact spec_l4Place.mono _ _ _)
   | (with_reducible exact LeO.refl _)
   | (with_reducible exact LeO.none _)
   | (with_reducible refine LeO.ite ?_ ?_)
   | (with_reducible refine LeO.bind ?_ (fun _ => ?_))
   | exact ih0 _ _ _ _ _
   | exact ih1 _ _ _ _ _ _
   | exact LeO.none _
   | refine LeO.ite ?_ ?_
   | refine LeO.bind ?_ (fun _ => ?_)
theorem spec_PairPut.mono : ∀ a0 a1 a2 k, LeO (spec_PairPut.f k a0 a1 a2) (spec_PairPut.f (k + 1) a0 a1 a2) := by
 intro a0 a1 a2 k
 obtain ⟨ih0, ih1⟩ := spec_PairPut.mono_l k
 unfold spec_PairPut.f
 repeat' first
   | (with_reducible exact ih0 _ _ _ _ _)
   | (with_reducible exact ih1 _ _ _ _ _ _)
   | (with_reducible exact spec_KeyValid.mono _ _)
   | (with_reducible exact spec_PairsValid.mono _ _)
   | (with_reducible exact spec_l4Place.mono _ _ _)
   | (with_reducible exact LeO.refl _)
   | (with_reducible exact LeO.none _)
   | (with_reducible refine LeO.ite ?_ ?_)
   | (with_reducible refine LeO.bind ?_ (fun _ => ?_))
   | exact ih0 _ _ _ _ _
   | exact ih1 _ _ _ _ _ _
   | exact LeO.none _
   | refine LeO.ite ?_ ?_
   | refine LeO.bind ?_ (fun _ => ?_)
theorem spec_PairPut.calls (k : Nat) (A0 : Option Addr) (c0 : Nat) (l0 : List (S65)) (a1 : ByteArray) (a2 : Int) (r1 : List (S65)) (r2 : Bool) (w : World) (hr0 : Kd.C k65 w A0 l0.length l0) (hc0 : l0.length ≤ c0) (h : spec_PairPut.f k l0 a1 a2 = some (r1, r2)) :
  Calls Try.prog 49 #[.slice A0 l0.length c0, .string a1, .int .i64 a2] w fun e w' => ∃ v0_ : Value, e = .returned (.tuple #[v0_, .bool r2]) ∧ Kd.R k65 65 w' w.heap.size (fun _ => True) v0_ r1 ∧ Below w.heap.size w w' := by
 have hu65 := Try.underlying65
 have HR0 := ak hr0
 have HC0 := ak hc0
 clear hr0 hc0
 have HB := ak (Below.refl w.heap.size w)
 have H : ((some (([] : List (S65)) : List (S65))).bind fun y253 => ((spec_PairsValid.f k l0).bind fun t256 => (if t256 = true then ((spec_KeyValid.f k a1).bind fun t257 => (if t257 = true then ((spec_l1In.f a2 0 999).bind fun t258 => (spec_PairPut.j0 k l0 a1 a2 y253 (!t258))) else (spec_PairPut.j0 k l0 a1 a2 y253 true))) else (spec_PairPut.j0 k l0 a1 a2 y253 true)))) = some (r1, r2) := h
 clear h
 obtain ⟨y253, hy253⟩ : ∃ y_ : List (S65), y_ = (([] : List (S65))) := ⟨_, rfl⟩
 replace H : ((spec_PairsValid.f k l0).bind fun t256 => (if t256 = true then ((spec_KeyValid.f k a1).bind fun t257 => (if t257 = true then ((spec_l1In.f a2 0 999).bind fun t258 => (spec_PairPut.j0 k l0 a1 a2 y253 (!t258))) else (spec_PairPut.j0 k l0 a1 a2 y253 true))) else (spec_PairPut.j0 k l0 a1 a2 y253 true))) = some (r1, r2) := by first | (rw [hy253]; exact H) | exact H
 have Ny253 := ak hy253
 clear hy253
 have HC4 := ak H
 clear H
 go_enter Try.func49, Try.ntmps49
 go_upto_region 2 with (first | ((with_reducible refine gate_dst (N := 10) rfl ?_); refine Kd.R_lit k65 _ 65 ?hg (N := 10) ?hd (xs := ([] : List (S65))) (inner := []) (ok := fun _ => True) (okp := fun _ => True) ?hr ?hp (fun _ hk => hk) trivial (Below.refl _ _) (Nat.le_refl _) (by simp) ?_; (case hd => rfl); (case hg => rfl); (case hr => first | (go_simp; done) | (go_simp; rfl)); (case hp => exact (Reps.none _ _)); intro v254 w5 ho6 hb hg_ hnew_; clear hg_ hnew_; (first | rw [← Ny253.out] at ho6 | (simp only [Int.reduceToNat] at ho6; rw [← Ny253.out] at ho6)); have HO255 := ak (Kd.R_lower ho6 (below_size (by exact hopb HB.out))); replace HB := ak (below_step (by exact hopb HB.out) hb); clear hb ho6))
 (try simp only [Act.put, lT, lZ, lS])
 go_cut [23] (fun v23 wc => ∃ (kq : Nat) (x23_3 : Bool), v23 = .bool x23_3 ∧ Aside0 (spec_PairPut.j0 kq l0 a1 a2 y253 x23_3 = some (r1, r2)) ∧ Aside0 (kq ≤ k) ∧ Aside0 (Kd.R k65 65 wc w.heap.size (fun _ => True) v254 y253) ∧ Aside0 (Below w.heap.size w wc))
 case first =>
  have H := HC4.out
  clear HC4
  replace H := Option.bind_eq_some_iff.mp H
  obtain ⟨t256, A70, H⟩ := H
  try dsimp only at H
  have A7 := ak A70
  clear A70
  by_cases c8 : t256 = true
  ·subst c8
   rw [if_pos rfl] at H
   replace H := Option.bind_eq_some_iff.mp H
   obtain ⟨t257, A90, H⟩ := H
   try dsimp only at H
   have A9 := ak A90
   clear A90
   by_cases c10 : t257 = true
   ·subst c10
    rw [if_pos rfl] at H
    replace H := Option.bind_eq_some_iff.mp H
    obtain ⟨t258, A110, H⟩ := H
    try dsimp only at H
    have A11 := ak A110
    clear A110
    have H' := ak H
    clear H
    go_wp2_with (first | ((with_reducible refine gate_callee (f := 54) rfl ?_); refine goesL_ (some 12) rfl rfl Try.func54 (by kernel_rfl) rfl #[.slice A0 l0.length c0] rfl (by (try simp only [List.map_toArray, List.map_cons, List.map_nil]); first | done | rfl | (simp only [List.length_drop, List.length_take]; rfl)) ?_; (with_reducible refine (spec_PairsValid.calls k _ _ l0 true _ ?side1 ?side2 A7.out).mono ?_); (case side1 => repeat (first | exact (Kd.C_below HR0.out HB.out) | (with_reducible refine Kd.C_alloc ?_ _) | (with_reducible refine Kd.C_drewN ?_ _) | (with_reducible refine Kd.C_drew ?_))); (case side2 => exact HC0.out); rintro e w12 ⟨rfl, hb⟩; refine ⟨_, rfl, ?_⟩; replace HO255 := ak (Kd.R_below (by (with_reducible repeat (first | apply Kd.R_alloc | apply Kd.R_drewN | apply Kd.R_drew)); exact HO255.out) hb); replace HB := ak (below_step (by exact hopb HB.out) hb); (try clear hb)) | (go_at_call 24; (with_reducible refine (spec_KeyValid.calls k a1 true _ A9.out).mono ?_); rintro e w' ⟨rfl, ⟨nd, rfl⟩⟩) | (go_at_call 48; (with_reducible refine (spec_l1In.calls a2 0 999 t258 _ A11.out).mono ?_); rintro e w' ⟨rfl, ⟨nd, rfl⟩⟩))
    go_meet
    case rel => exact ⟨_, (!t258), (by first | rfl | (simp [*]; done)), H', ⟨by first | omega | exact Nat.le_refl _⟩, ⟨by (with_reducible repeat (first | apply Kd.R_alloc | apply Kd.R_drewN | apply Kd.R_drew)); exact HO255.out⟩, ⟨by exact hopb HB.out⟩⟩
   ·replace c10 := Bool.eq_false_iff.mpr c10
    subst c10
    rw [if_neg (show ¬ (false = true) by decide)] at H
    have H' := ak H
    clear H
    go_wp2_with (first | ((with_reducible refine gate_callee (f := 54) rfl ?_); refine goesL_ (some 12) rfl rfl Try.func54 (by kernel_rfl) rfl #[.slice A0 l0.length c0] rfl (by (try simp only [List.map_toArray, List.map_cons, List.map_nil]); first | done | rfl | (simp only [List.length_drop, List.length_take]; rfl)) ?_; (with_reducible refine (spec_PairsValid.calls k _ _ l0 true _ ?side1 ?side2 A7.out).mono ?_); (case side1 => repeat (first | exact (Kd.C_below HR0.out HB.out) | (with_reducible refine Kd.C_alloc ?_ _) | (with_reducible refine Kd.C_drewN ?_ _) | (with_reducible refine Kd.C_drew ?_))); (case side2 => exact HC0.out); rintro e w13 ⟨rfl, hb⟩; refine ⟨_, rfl, ?_⟩; replace HO255 := ak (Kd.R_below (by (with_reducible repeat (first | apply Kd.R_alloc | apply Kd.R_drewN | apply Kd.R_drew)); exact HO255.out) hb); replace HB := ak (below_step (by exact hopb HB.out) hb); (try clear hb)) | (go_at_call 24; (with_reducible refine (spec_KeyValid.calls k a1 false _ A9.out).mono ?_); rintro e w' ⟨rfl, ⟨nd, rfl⟩⟩))
    go_meet
    case rel => exact ⟨_, (true), (by first | rfl | (simp [*]; done)), H', ⟨by first | omega | exact Nat.le_refl _⟩, ⟨by (with_reducible repeat (first | apply Kd.R_alloc | apply Kd.R_drewN | apply Kd.R_drew)); exact HO255.out⟩, ⟨by exact hopb HB.out⟩⟩
  ·replace c8 := Bool.eq_false_iff.mpr c8
   subst c8
   rw [if_neg (show ¬ (false = true) by decide)] at H
   have H' := ak H
   clear H
   go_wp2_with (first | ((with_reducible refine gate_callee (f := 54) rfl ?_); refine goesL_ (some 12) rfl rfl Try.func54 (by kernel_rfl) rfl #[.slice A0 l0.length c0] rfl (by (try simp only [List.map_toArray, List.map_cons, List.map_nil]); first | done | rfl | (simp only [List.length_drop, List.length_take]; rfl)) ?_; (with_reducible refine (spec_PairsValid.calls k _ _ l0 false _ ?side1 ?side2 A7.out).mono ?_); (case side1 => repeat (first | exact (Kd.C_below HR0.out HB.out) | (with_reducible refine Kd.C_alloc ?_ _) | (with_reducible refine Kd.C_drewN ?_ _) | (with_reducible refine Kd.C_drew ?_))); (case side2 => exact HC0.out); rintro e w14 ⟨rfl, hb⟩; refine ⟨_, rfl, ?_⟩; replace HO255 := ak (Kd.R_below (by (with_reducible repeat (first | apply Kd.R_alloc | apply Kd.R_drewN | apply Kd.R_drew)); exact HO255.out) hb); replace HB := ak (below_step (by exact hopb HB.out) hb); (try clear hb)))
   go_meet
   case rel => exact ⟨_, (true), (by first | rfl | (simp [*]; done)), H', ⟨by first | omega | exact Nat.le_refl _⟩, ⟨by (with_reducible repeat (first | apply Kd.R_alloc | apply Kd.R_drewN | apply Kd.R_drew)); exact HO255.out⟩, ⟨by exact hopb HB.out⟩⟩
 case rest =>
  clear HC4
  try clear c1
  try clear p2
  try clear c4
  try clear c5
  try clear c8
  try clear c10
  obtain ⟨kq, x23_3, rfl, HA, HJ3, HO_8, HB⟩ := hcut
  cases kq with
  | zero => exact absurd HA.out (by simp [spec_PairPut.j0])
  | succ kj3 =>
   have H := HA.out
   clear HA
   simp only [spec_PairPut.j0] at H
   by_cases c15 : x23_3 = true
   ·subst c15
    rw [if_pos rfl] at H
    simp only [Option.some.injEq, Prod.mk.injEq] at H
    obtain ⟨rfl, rfl⟩ := H
    go_wp2
    go_ret2
    exact ⟨_, by first | rfl | (simp [*, errW_none, errW_some] <;> rfl), by (with_reducible repeat (first | apply Kd.R_alloc | apply Kd.R_drewN | apply Kd.R_drew)); exact HO_8.out, by exact hopb HB.out⟩
   ·replace c15 := Bool.eq_false_iff.mpr c15
    subst c15
    rw [if_neg (show ¬ (false = true) by decide)] at H
    replace H := Option.bind_eq_some_iff.mp H
    obtain ⟨t259, A160, H⟩ := H
    try dsimp only at H
    have A16 := ak A160
    clear A160
    have HC17 := ak H
    clear H
    go_upto_region 5 with (first | ((with_reducible refine gate_callee (f := 55) rfl ?_); refine goesL_ (some 27) rfl rfl Try.func55 (by kernel_rfl) rfl #[.slice A0 l0.length c0, .string a1] rfl (by (try simp only [List.map_toArray, List.map_cons, List.map_nil]); first | done | rfl | (simp only [List.length_drop, List.length_take]; rfl)) ?_; (with_reducible refine (spec_l4Place.calls kj3 _ _ l0 a1 t259 _ ?side1 ?side2 A16.out).mono ?_); (case side1 => repeat (first | exact (Kd.C_below HR0.out HB.out) | (with_reducible refine Kd.C_alloc ?_ _) | (with_reducible refine Kd.C_drewN ?_ _) | (with_reducible refine Kd.C_drew ?_))); (case side2 => exact HC0.out); rintro e w' ⟨rfl, ⟨nd, rfl⟩⟩; refine ⟨_, rfl, ?_⟩))
    (try simp only [Act.put, lT, lZ, lS])
    go_cut [40] (fun v40 wc => ∃ (kq : Nat) (x40_16 : Bool), v40 = .bool x40_16 ∧ Aside0 (spec_PairPut.j1 kq l0 a1 a2 y253 t259 x40_16 = some (r1, r2)) ∧ Aside0 (kq ≤ kj3) ∧ Aside0 (Kd.R k65 65 wc w.heap.size (fun _ => True) v254 y253) ∧ Aside0 (Below w.heap.size w wc))
    case first =>
     have H := HC17.out
     clear HC17
     by_cases c18 : t259 < (l0.length : Int)
     ·rw [if_pos c18] at H
      have c18b0 : decide (t259 < (l0.length : Int)) = true := decide_eq_true c18
      clear c18
      (first | rw [c18b0] | (simp only [i64_w, i32_w]; rw [c18b0]) | skip)
      by_cases c19 : 0 ≤ t259
      ·rw [if_pos c19] at H
       have c19b0 : decide (0 ≤ t259) = true := decide_eq_true c19
       clear c19
       have H' := ak H
       clear H
       have p260 : 0 ≤ (t259 : Int) := of_decide_eq_true (by assumption)
       have q260 : t259 < (l0.length : Int) := of_decide_eq_true (by assumption)
       obtain ⟨ad260, e260, hx260_0, hx260_1⟩ := at_T65 HR0.out t259 p260 q260
       cases e260
       replace hx260_0 := bc HB.out hx260_0
       replace hx260_1 := bc HB.out hx260_1
       replace p260 := eq_true p260
       replace q260 := eq_true q260
       go_wp2
       go_meet
       case rel => exact ⟨_, ((((rd_T65 l0 t259).f0).toList == a1.toList)), (by first | rfl | (simp [*]; done)), H', ⟨by have := HJ3.out; first | omega | exact Nat.le_refl _⟩, ⟨by (with_reducible repeat (first | apply Kd.R_alloc | apply Kd.R_drewN | apply Kd.R_drew)); exact HO_8.out⟩, ⟨by exact hopb HB.out⟩⟩
      ·rw [if_neg c19] at H
       exact absurd H (by simp)
     ·rw [if_neg c18] at H
      have c18b0 : decide (t259 < (l0.length : Int)) = false := decide_eq_false c18
      clear c18
      (first | rw [c18b0] | (simp only [i64_w, i32_w]; rw [c18b0]) | skip)
      have H' := ak H
      clear H
      go_wp2
      go_meet
      case rel => exact ⟨_, (false), (by first | rfl | (simp [*]; done)), H', ⟨by have := HJ3.out; first | omega | exact Nat.le_refl _⟩, ⟨by (with_reducible repeat (first | apply Kd.R_alloc | apply Kd.R_drewN | apply Kd.R_drew)); exact HO_8.out⟩, ⟨by exact hopb HB.out⟩⟩
    case rest =>
     clear HC17
     try clear c1
     try clear p2
     try clear q2
     try clear hx2
     try clear c4
     try clear c5
     try clear c8
     try clear c10
     try clear c15
     try clear c18
     try clear c18b0
     try clear c19
     try clear c19b0
     try clear hx260_0
     try clear hx260_1
     try clear p2
     try clear p260
     try clear q260
     obtain ⟨kq, x40_16, rfl, HA, HJ16, HO_8, HB⟩ := hcut
     cases kq with
     | zero => exact absurd HA.out (by simp [spec_PairPut.j1])
     | succ kj16 =>
      have H := HA.out
      clear HA
      simp only [spec_PairPut.j1] at H
      by_cases c20 : x40_16 = true
      ·subst c20
       rw [if_pos rfl] at H
       by_cases c21 : y253.length + l0.length < 5864062014805
       ·rw [if_pos c21] at H
        have LMc21 := ak c21
        clear c21
        obtain ⟨y261, hy261⟩ : ∃ y_ : List (S65), y_ = (y253 ++ l0) := ⟨_, rfl⟩
        replace H : (if 0 ≤ t259 then (if t259 < (y261.length : Int) then (some ((y261.set (t259 : Int).toNat (⟨(rd_T65 y261 t259).f0, a2⟩ : S65)), true)) else (none)) else (none)) = some (r1, r2) := by first | (rw [hy261]; exact H) | exact H
        have Ny261 := ak hy261
        clear hy261
        by_cases c22 : 0 ≤ t259
        ·rw [if_pos c22] at H
         have c22b0 : decide (0 ≤ t259) = true := decide_eq_true c22
         clear c22
         by_cases c23 : t259 < (y261.length : Int)
         ·rw [if_pos c23] at H
          have c23b0 : decide (t259 < (y261.length : Int)) = true := decide_eq_true c23
          clear c23
          obtain ⟨y264, hy264⟩ : ∃ y_ : List (S65), y_ = (y261.set (t259 : Int).toNat (⟨(rd_T65 y261 t259).f0, a2⟩ : S65)) := ⟨_, rfl⟩
          replace H : (some (y264, true)) = some (r1, r2) := by first | (rw [hy264]; exact H) | exact H
          have Ny264 := ak hy264
          clear hy264
          simp only [Option.some.injEq, Prod.mk.injEq] at H
          obtain ⟨rfl, rfl⟩ := H
          go_wp2_with (first | ((with_reducible refine gate_builtin (b := .append) (xs := #[.tmp 41, .tmp 42]) rfl ?_); at_builtin; refine Kd.R_append_rows k65 (w0 := w) w.heap.size rfl (.tmp 41) (.tmp 42) 36 65 (.agg #[(.string ⟨#[]⟩), (.int .i64 0)]) 24 rfl Try.underlying36 info65 rfl (by decide) (by omega) v254 y253 l0 _ _ _ (fun _ => True) (fun _ => False) rfl rfl ?aO ?aR (fun _ _ h => h) (fun _ h => h.elim) ?aF ?aB ?aS ?aL ?_; (case aR => repeat (first | exact (Kd.C_below HR0.out HB.out) | (with_reducible refine Kd.C_alloc ?_ _) | (with_reducible refine Kd.C_drewN ?_ _) | (with_reducible refine Kd.C_drew ?_))); (case aB => exact (by exact hopb HB.out)); (case aF => exact (fun _ _ => trivial)); (case aO => exact (by (with_reducible repeat (first | apply Kd.R_alloc | apply Kd.R_drewN | apply Kd.R_drew)); exact HO_8.out)); (case aS => exact (below_size (by exact hopb HB.out))); (case aL => have := LMc21.out; omega); intro v262 w25 ho hb hg hat; rw [← Ny261.out] at ho; replace HB := ak (hb); have HO263 := ak (ho); clear HO_8; clear ho hb hg hat; have p24 : 0 ≤ (t259 : Int) := of_decide_eq_true (by assumption); have q24 : (t259 : Int) < ((y261.length : Int) : Int) := of_decide_eq_true (by assumption); obtain ⟨go24, co24, eo24, gb24, gl24, cl24, HG24⟩ := Kd.R_form HO263.out (by omega); (first | cases eo24 | (injection eo24 with ea_ en_ ec_; (first | subst ea_ | (injection ea_ with ea_; subst ea_)); subst ec_; clear en_)); have GB24 := ak gb24; have GG24 := ak HG24; clear gb24 gl24 HG24; obtain ⟨ce24, hcl24, hM24, hcc24, hfr24⟩ := Kd.R_elem HO263.out z65 (t259 : Int) p24 q24; obtain rfl := k65_openM hM24; have hx24_0 : w25.cell? ⟨go24, (t259 : Int).toNat * 2, none⟩ = some (.string ((rd_T65 y261 t259).f0)) := hcc24 0 _ rfl; have hx24_1 : w25.cell? ⟨go24, (t259 : Int).toNat * 2 + 1, none⟩ = some (.int .i64 ((rd_T65 y261 t259).f1)) := hcc24 1 _ rfl; have hf24_0 : w25.frozen? ⟨go24, (t259 : Int).toNat * 2, none⟩ = false := hfr24 0; have hf24_1 : w25.frozen? ⟨go24, (t259 : Int).toNat * 2 + 1, none⟩ = false := hfr24 1; clear hcl24 hcc24 hfr24 hM24; replace p24 := eq_true p24; replace q24 := eq_true q24; have HX26 := ak (show Kd.R k65 65 w25 w.heap.size (fun _ => True) (.slice (some ⟨go24, 0, none⟩) y261.length co24) y261 from (by (with_reducible repeat (first | apply Kd.R_alloc | apply Kd.R_drewN | apply Kd.R_drew)); exact HO263.out)); obtain ⟨ce26, hcl26, hM26, hcc26, hfr26⟩ := Kd.R_elem HX26.out z65 (t259 : Int) (of_decide_eq_true (by assumption)) (by have h_ : (t259 : Int) < ((y261.length : Int) : Int) := of_decide_eq_true (by assumption); first | exact h_ | (have e_ := (Kd.R_reads' HO263.out).1; omega) | simpa using h_); obtain rfl := k65_openM hM26; have HP26 := Kd.R_seg HX26.out (t259 : Int) (of_decide_eq_true (by assumption)) (by have h_ : (t259 : Int) < ((y261.length : Int) : Int) := of_decide_eq_true (by assumption); first | exact h_ | (have e_ := (Kd.R_reads' HO263.out).1; omega) | simpa using h_) (seg := [.int .i64 a2]) (j := 1) hcl26 hcc26 (show 2 ≤ 2 from by decide) (x' := (⟨(rd_T65 y261 t259).f0, a2⟩ : S65)) (k65_mkM _ _ _ (⟨(rd_T65 y261 t259).f0, a2⟩ : S65) ) (fun _ hk => hk); have hx26_1 := hcc26 1 _ rfl; (try simp only [show (k65).sz = 2 from rfl, Nat.mul_one, Nat.add_zero] at hx26_1); have hf26_1 := hfr26 1; (try simp only [show (k65).sz = 2 from rfl, Nat.mul_one, Nat.add_zero] at hf26_1); clear hcl26 hcc26 hfr26 hM26) | ((with_reducible refine gate_store (t := 3) (p := 48) rfl ?_); refine store_event (t := 3) (p := 48) (v := ?vo_w27) (w1 := (w25.setCell ⟨go24, (t259 : Int).toNat * 2 + 1, none⟩ (.int .i64 a2))) ?hg ?ho ?hn ?hr ?_; (case ho => rfl); (case hg => rfl); (case hn => rfl); (case hr => first | (go_simp; done) | (go_simp; rfl)); intro w27 hw; have hg : w25.grownBy w27 (some go24) := (by rw [hw]; exact HP26.2); have hp_ : Kd.R k65 65 w27 w.heap.size (fun _ => True) (.slice (some ⟨go24, 0, none⟩) y261.length co24) y264 := (by rw [hw, Ny264.out]; exact HP26.1); clear HP26; replace HO263 := ak (hp_); replace HB := ak ((by rw [hw]; exact below_set (HB.out) GB24.out : Below w.heap.size w w27)); clear hg hw hp_))
          go_ret2
          exact ⟨_, by first | rfl | (simp [*, errW_none, errW_some] <;> rfl), by (with_reducible repeat (first | apply Kd.R_alloc | apply Kd.R_drewN | apply Kd.R_drew)); exact HO263.out, by exact hopb HB.out⟩
         ·rw [if_neg c23] at H
          exact absurd H (by simp)
        ·rw [if_neg c22] at H
         exact absurd H (by simp)
       ·rw [if_neg c21] at H
        exact absurd H (by simp)
      ·replace c20 := Bool.eq_false_iff.mpr c20
       subst c20
       rw [if_neg (show ¬ (false = true) by decide)] at H
       by_cases c28 : (l0.length : Int) ≥ 48
       ·rw [if_pos c28] at H
        have c28b0 : decide (48 ≤ (l0.length : Int)) = true := decide_eq_true c28
        have c28b1 : decide (48 ≤ l0.length) = true := decide_eq_true (by omega)
        clear c28
        by_cases c29 : y253.length + l0.length < 5864062014805
        ·rw [if_pos c29] at H
         have LMc29 := ak c29
         clear c29
         obtain ⟨y265, hy265⟩ : ∃ y_ : List (S65), y_ = (y253 ++ l0) := ⟨_, rfl⟩
         replace H : (some (y265, false)) = some (r1, r2) := by first | (rw [hy265]; exact H) | exact H
         have Ny265 := ak hy265
         clear hy265
         simp only [Option.some.injEq, Prod.mk.injEq] at H
         obtain ⟨rfl, rfl⟩ := H
         go_wp2_with (first | ((with_reducible refine gate_builtin (b := .append) (xs := #[.tmp 53, .tmp 54]) rfl ?_); at_builtin; refine Kd.R_append_rows k65 (w0 := w) w.heap.size rfl (.tmp 53) (.tmp 54) 36 65 (.agg #[(.string ⟨#[]⟩), (.int .i64 0)]) 24 rfl Try.underlying36 info65 rfl (by decide) (by omega) v254 y253 l0 _ _ _ (fun _ => True) (fun _ => False) rfl rfl ?aO ?aR (fun _ _ h => h) (fun _ h => h.elim) ?aF ?aB ?aS ?aL ?_; (case aR => repeat (first | exact (Kd.C_below HR0.out HB.out) | (with_reducible refine Kd.C_alloc ?_ _) | (with_reducible refine Kd.C_drewN ?_ _) | (with_reducible refine Kd.C_drew ?_))); (case aB => exact (by exact hopb HB.out)); (case aF => exact (fun _ _ => trivial)); (case aO => exact (by (with_reducible repeat (first | apply Kd.R_alloc | apply Kd.R_drewN | apply Kd.R_drew)); exact HO_8.out)); (case aS => exact (below_size (by exact hopb HB.out))); (case aL => have := LMc29.out; omega); intro v266 w30 ho hb hg hat; rw [← Ny265.out] at ho; replace HB := ak (hb); have HO267 := ak (ho); clear HO_8; clear ho hb hg hat))
         go_ret2
         exact ⟨_, by first | rfl | (simp [*, errW_none, errW_some] <;> rfl), by (with_reducible repeat (first | apply Kd.R_alloc | apply Kd.R_drewN | apply Kd.R_drew)); exact HO267.out, by exact hopb HB.out⟩
        ·rw [if_neg c29] at H
         exact absurd H (by simp)
       ·rw [if_neg c28] at H
        have c28b0 : decide (48 ≤ (l0.length : Int)) = false := decide_eq_false c28
        have c28b1 : decide (48 ≤ l0.length) = false := decide_eq_false (by omega)
        clear c28
        by_cases c31 : 0 ≤ t259
        ·rw [if_pos c31] at H
         have c31b0 := eq_true c31
         have c31b1 : decide (0 ≤ t259) = true := decide_eq_true c31
         clear c31
         by_cases c32 : t259 ≤ (l0.length : Int)
         ·rw [if_pos c32] at H
          have c32b0 := eq_true c32
          have c32b1 : decide (t259 ≤ (l0.length : Int)) = true := decide_eq_true c32
          clear c32
          obtain ⟨y268, hy268⟩ : ∃ y_ : List (S65), y_ = (l0.take (t259 : Int).toNat) := ⟨_, rfl⟩
          replace H : (if y253.length + y268.length < 5864062014805 then ((some (y253 ++ y268 : List (S65))).bind fun y272 => (if y272.length < 5864062014805 then ((some (y272 ++ [(⟨a1, a2⟩ : S65)] : List (S65))).bind fun y275 => ((some (l0.drop (t259 : Int).toNat : List (S65))).bind fun y278 => (if y275.length + y278.length < 5864062014805 then (some ((y275 ++ y278), true)) else (none)))) else (none))) else (none)) = some (r1, r2) := by first | (rw [hy268]; exact H) | exact H
          have Ny268 := ak hy268
          clear hy268
          by_cases c33 : y253.length + y268.length < 5864062014805
          ·rw [if_pos c33] at H
           have LMc33 := ak c33
           clear c33
           obtain ⟨y272, hy272⟩ : ∃ y_ : List (S65), y_ = (y253 ++ y268) := ⟨_, rfl⟩
           replace H : (if y272.length < 5864062014805 then ((some (y272 ++ [(⟨a1, a2⟩ : S65)] : List (S65))).bind fun y275 => ((some (l0.drop (t259 : Int).toNat : List (S65))).bind fun y278 => (if y275.length + y278.length < 5864062014805 then (some ((y275 ++ y278), true)) else (none)))) else (none)) = some (r1, r2) := by first | (rw [hy272]; exact H) | exact H
           have Ny272 := ak hy272
           clear hy272
           by_cases c34 : y272.length < 5864062014805
           ·rw [if_pos c34] at H
            have LMc34 := ak c34
            clear c34
            obtain ⟨y275, hy275⟩ : ∃ y_ : List (S65), y_ = (y272 ++ [(⟨a1, a2⟩ : S65)]) := ⟨_, rfl⟩
            replace H : ((some (l0.drop (t259 : Int).toNat : List (S65))).bind fun y278 => (if y275.length + y278.length < 5864062014805 then (some ((y275 ++ y278), true)) else (none))) = some (r1, r2) := by first | (rw [hy275]; exact H) | exact H
            have Ny275 := ak hy275
            clear hy275
            have c35b0 := eq_true (of_decide_eq_true (by assumption) : 0 ≤ t259)
            have c36b0 := eq_true (of_decide_eq_true (by assumption) : t259 ≤ (l0.length : Int))
            obtain ⟨y278, hy278⟩ : ∃ y_ : List (S65), y_ = (l0.drop (t259 : Int).toNat) := ⟨_, rfl⟩
            replace H : (if y275.length + y278.length < 5864062014805 then (some ((y275 ++ y278), true)) else (none)) = some (r1, r2) := by first | (rw [hy278]; exact H) | exact H
            have Ny278 := ak hy278
            clear hy278
            by_cases c37 : y275.length + y278.length < 5864062014805
            ·rw [if_pos c37] at H
             have LMc37 := ak c37
             clear c37
             obtain ⟨y282, hy282⟩ : ∃ y_ : List (S65), y_ = (y275 ++ y278) := ⟨_, rfl⟩
             replace H : (some (y282, true)) = some (r1, r2) := by first | (rw [hy282]; exact H) | exact H
             have Ny282 := ak hy282
             clear hy282
             simp only [Option.some.injEq, Prod.mk.injEq] at H
             obtain ⟨rfl, rfl⟩ := H
             have q38 : (t259 : Int) ≤ ((l0.length : Int) : Int) := of_decide_eq_true (by assumption)
             obtain ⟨i038, hi038, _, hsz38, _⟩ := info_parts info65
             have hroom38 : l0.length ≤ c0 := HC0.out
             have hC38 : Kd.C k65 _ A0 l0.length l0 := HR0.out
             have hcut38 := cut_to (P := Try.prog) 36 65 .i64 Try.underlying36 hi038 A0 l0.length c0 t259 (of_decide_eq_true (by assumption)) q38 hroom38
             have hr38 := Kd.C_take (m := (t259 : Int).toNat) hC38 (by omega)
             have hy38 : y268.length = (t259 : Int).toNat := (by rw [Ny268.out, List.length_take]; omega)
             rw [← Ny268.out] at hr38
             rw [← hy38] at hcut38
             have HR271 := ak hr38
             have HC271 := ak (show y268.length ≤ c0 from by omega)
             clear hr38 hC38 hroom38 hi038 hsz38
             have KY38 := ak hy38
             clear hy38
             replace q38 := eq_true q38
             go_wp2_with (first | ((with_reducible refine gate_builtin (b := .append) (xs := #[.tmp 56, .tmp 59]) rfl ?_); at_builtin; refine Kd.R_append_rows k65 (w0 := w) w.heap.size rfl (.tmp 56) (.tmp 59) 36 65 (.agg #[(.string ⟨#[]⟩), (.int .i64 0)]) 24 rfl Try.underlying36 info65 rfl (by decide) (by omega) v254 y253 y268 _ _ _ (fun _ => True) (fun _ => False) rfl rfl ?aO ?aR (fun _ _ h => h) (fun _ h => h.elim) ?aF ?aB ?aS ?aL ?_; (case aR => repeat (first | exact (Kd.C_below HR271.out HB.out) | (with_reducible refine Kd.C_alloc ?_ _) | (with_reducible refine Kd.C_drewN ?_ _) | (with_reducible refine Kd.C_drew ?_))); (case aB => exact (by exact hopb HB.out)); (case aF => exact (fun _ _ => trivial)); (case aO => exact (by (with_reducible repeat (first | apply Kd.R_alloc | apply Kd.R_drewN | apply Kd.R_drew)); exact HO_8.out)); (case aS => exact (below_size (by exact hopb HB.out))); (case aL => have := LMc33.out; omega); intro v273 w39 ho hb hg hat; rw [← Ny272.out] at ho; replace HB := ak (hb); have HO274 := ak (ho); clear HO_8; clear ho hb hg hat) | ((with_reducible refine gate_builtin (b := .append) (xs := #[.tmp 61, .tmp 65]) rfl ?_); at_builtin; refine Kd.R_append k65 (w0 := w) w.heap.size rfl (.tmp 61) (.tmp 65) 36 65 (.agg #[(.string ⟨#[]⟩), (.int .i64 0)]) 24 rfl Try.underlying36 info65 rfl (by decide) (by omega) v273 y272 (⟨a1, a2⟩ : S65) [.string a1, .int .i64 a2] (fun _ => True) (fun _ => False) rfl rfl ?aP (fun _ hk => hk.elim) ?aF ?aO ?aB ?aS ?aL ?_; (case aP => exact k65_mkM _ _ _ (⟨a1, a2⟩ : S65)); (case aB => exact (by exact hopb HB.out)); (case aF => exact (fun _ _ => trivial)); (case aO => exact (by (with_reducible repeat (first | apply Kd.R_alloc | apply Kd.R_drewN | apply Kd.R_drew)); exact HO274.out)); (case aS => exact (below_size (by exact hopb HB.out))); (case aL => have := LMc34.out; omega); intro v276 w40 ho hb hg hat; rw [← Ny275.out] at ho; replace HB := ak (hb); have HO277 := ak (ho); clear HO274; clear ho hb hg hat; have q41 : (t259 : Int) ≤ ((l0.length : Int) : Int) := of_decide_eq_true (by assumption); obtain ⟨i041, hi041, _, hsz41, _⟩ := info_parts info65; have hroom41 : l0.length ≤ c0 := HC0.out; have hC41 : Kd.C k65 _ A0 l0.length l0 := HR0.out; have q041 : (0 : Int) ≤ (t259 : Int) := of_decide_eq_true (by assumption); have hcut41 := cut_from (P := Try.prog) 36 65 .i64 Try.underlying36 hi041 2 hsz41 A0 l0.length c0 t259 q041 q41; have hr41 := Kd.C_drop (m := (t259 : Int).toNat) (c := c0) hC41 (by omega) hroom41; obtain ⟨A41, hA41⟩ : ∃ A1, A1 = (if c0 = (t259 : Int).toNat then A0 else (A0 : Option Addr).map (·.add ((t259 : Int).toNat * 2))) := ⟨_, rfl⟩; obtain ⟨c41, hc41⟩ : ∃ c1, c1 = c0 - (t259 : Int).toNat := ⟨_, rfl⟩; have hy41 : y278.length = l0.length - (t259 : Int).toNat := (by rw [Ny278.out, List.length_drop] <;> omega); rw [show (l0).drop (t259 : Int).toNat = y278 from Ny278.out.symm] at hr41; replace hr41 : Kd.C k65 _ A41 y278.length y278 := (by rw [hA41]; exact hr41); rw [← hy41, ← hA41, ← hc41] at hcut41; have HR281 := ak hr41; have HC281 := ak (show y278.length ≤ c41 from by rw [hy41, hc41]; exact Nat.sub_le_sub_right hroom41 _); clear hr41 hC41 hroom41 hi041 hsz41 hc41; have KY41 := ak hy41; have KA41 := ak hA41; clear hy41 hA41; replace q41 := eq_true q41) | ((with_reducible refine gate_builtin (b := .append) (xs := #[.tmp 67, .tmp 70]) rfl ?_); at_builtin; refine Kd.R_append_rows k65 (w0 := w) w.heap.size rfl (.tmp 67) (.tmp 70) 36 65 (.agg #[(.string ⟨#[]⟩), (.int .i64 0)]) 24 rfl Try.underlying36 info65 rfl (by decide) (by omega) v276 y275 y278 _ _ _ (fun _ => True) (fun _ => False) rfl rfl ?aO ?aR (fun _ _ h => h) (fun _ h => h.elim) ?aF ?aB ?aS ?aL ?_; (case aR => repeat (first | exact (Kd.C_below HR281.out HB.out) | (with_reducible refine Kd.C_alloc ?_ _) | (with_reducible refine Kd.C_drewN ?_ _) | (with_reducible refine Kd.C_drew ?_))); (case aB => exact (by exact hopb HB.out)); (case aF => exact (fun _ _ => trivial)); (case aO => exact (by (with_reducible repeat (first | apply Kd.R_alloc | apply Kd.R_drewN | apply Kd.R_drew)); exact HO277.out)); (case aS => exact (below_size (by exact hopb HB.out))); (case aL => have := LMc37.out; omega); intro v283 w42 ho hb hg hat; rw [← Ny282.out] at ho; replace HB := ak (hb); have HO284 := ak (ho); clear HO277; clear ho hb hg hat))
             go_ret2
             exact ⟨_, by first | rfl | (simp [*, errW_none, errW_some] <;> rfl), by (with_reducible repeat (first | apply Kd.R_alloc | apply Kd.R_drewN | apply Kd.R_drew)); exact HO284.out, by exact hopb HB.out⟩
            ·rw [if_neg c37] at H
             exact absurd H (by simp)
           ·rw [if_neg c34] at H
            exact absurd H (by simp)
          ·rw [if_neg c33] at H
           exact absurd H (by simp)
         ·rw [if_neg c32] at H
          exact absurd H (by simp)
        ·rw [if_neg c31] at H
         exact absurd H (by simp)

end Go.Proofs.Ytengnnhehjcfhaa.PFnExactPagesPut
