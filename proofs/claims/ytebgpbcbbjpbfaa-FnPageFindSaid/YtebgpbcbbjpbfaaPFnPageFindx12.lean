-- Written for this claim by a program of this session (wip/myprint in the proofs' repo)
import Derived.Test.YtebgpbcbbjpbfaaPFnPageFindx0
import Derived.Test.YtebgpbcbbjpbfaaPFnPageFindx2
import Derived.Test.YtebgpbcbbjpbfaaPFnPageFindx6
import Derived.Test.YtebgpbcbbjpbfaaPFnPageFindx7
import Derived.Test.YtebgpbcbbjpbfaaPFnPageFindx11
import Derived.Test.YtebgpbcbbjpbfaaWZip
-- slim3
namespace Go.Proofs.Ytebgpbcbbjpbfaa.PFnPageFind
open Go.RowKit Go.Proofs.YtebgpbcbbjpbfaaW.PrintWords Go.Proofs.YtebgpbcbbjpbfaaW.PrintLast Go.Proofs.YtebgpbcbbjpbfaaW.PrintMore
attribute [local go_sem] max2_int min2_int max_two min_two max_three min_three max_four min_four max2_strs min2_strs   -- for this text's walks alone
set_option linter.unusedVariables false
set_option linter.unusedSimpArgs false
set_option maxHeartbeats 8000000
set_option maxRecDepth 100000

/-! ### spec_KeyAt: function 104 -/
def spec_KeyAt.l0 : Nat → Int → ByteArray → Int → Option (ByteArray)
 | 0, _, _, _ => none
 | k + 1, x0, x3, x4 => if x4 < 4 then ((spec_l1Weight.f x4).bind fun t524 => (if t524 = 0 then (none) else ((some (([(wrap64 (97 + (wrap64 (Int.tdiv x0 t524)))) % 256] : List Int) : List Int)).bind fun y525 => (if x3.size + (strOfNums y525).size ≤ 9223372036854775807 then ((spec_l1Weight.f x4).bind fun t528 => (if t528 = 0 then (none) else (if (Int.tmod x0 t528) = 0 then (some (x3 ++ (strOfNums y525))) else (spec_KeyAt.l0 k (wrap64 ((Int.tmod x0 t528) - 1)) (x3 ++ (strOfNums y525)) (wrap64 (x4 + 1)))))) else (none))))) else (some x3)
def spec_KeyAt.f (k : Nat) (a0 : Int) : Option (ByteArray) := (spec_l1In.f a0 0 475253).bind fun t523 => (if t523 = true then (spec_KeyAt.l0 k a0 (⟨#[]⟩ : ByteArray) 0) else (some (⟨#[]⟩ : ByteArray)))
theorem spec_KeyAt.mono_l : ∀ k, (∀ y0 y1 y2, LeO (spec_KeyAt.l0 k y0 y1 y2) (spec_KeyAt.l0 (k + 1) y0 y1 y2))
 | 0 => fun _ _ _ r h => by simp [spec_KeyAt.l0] at h
 | k + 1 => by
  have ih0 := spec_KeyAt.mono_l k
  ·intro y0 y1 y2
   unfold spec_KeyAt.l0
   repeat' first
   | (with_reducible exact ih0 _ _ _)
   | (with_reducible exact LeO.refl _)
   | (with_reducible exact LeO.none _)
   | (with_reducible refine LeO.ite ?_ ?_)
   | (with_reducible refine LeO.bind ?_ (fun _ => ?_))
   | exact ih0 _ _ _
   | exact LeO.none _
   | refine LeO.ite ?_ ?_
   | refine LeO.bind ?_ (fun _ => ?_)
theorem spec_KeyAt.mono : ∀ a0 k, LeO (spec_KeyAt.f k a0) (spec_KeyAt.f (k + 1) a0) := by
 intro a0 k
 have ih0 := spec_KeyAt.mono_l k
 unfold spec_KeyAt.f
 repeat' first
   | (with_reducible exact ih0 _ _ _)
   | (with_reducible exact LeO.refl _)
   | (with_reducible exact LeO.none _)
   | (with_reducible refine LeO.ite ?_ ?_)
   | (with_reducible refine LeO.bind ?_ (fun _ => ?_))
   | exact ih0 _ _ _
   | exact LeO.none _
   | refine LeO.ite ?_ ?_
   | refine LeO.bind ?_ (fun _ => ?_)
theorem spec_KeyAt.calls (k : Nat) (a0 : Int) (r : ByteArray) (w : World) (h : spec_KeyAt.f k a0 = some r) :
  Calls Try.prog 104 #[.int .i64 a0] w fun e w' => e = .returned (.string r) ∧ Below w.heap.size w w' := by
 have HB := ak (Below.refl w.heap.size w)
 have H : ((spec_l1In.f a0 0 475253).bind fun t523 => (if t523 = true then (spec_KeyAt.l0 k a0 (⟨#[]⟩ : ByteArray) 0) else (some (⟨#[]⟩ : ByteArray)))) = some r := h
 clear h
 replace H := Option.bind_eq_some_iff.mp H
 obtain ⟨t523, A20, H⟩ := H
 try dsimp only at H
 have A2 := ak A20
 clear A20
 by_cases c3 : t523 = true
 ·subst c3
  rw [if_pos rfl] at H
  have H' := ak H
  clear H
  go_enter Try.func104, Try.ntmps104
  go_wp2_with (first | ((with_reducible refine gate_callee (f := 81) rfl ?_); refine goesL_ (some 6) rfl rfl Try.func81 (by kernel_rfl) rfl #[.int .i64 a0, .int .i64 0, .int .i64 475253] rfl (by (try simp only [List.map_toArray, List.map_cons, List.map_nil]); first | done | rfl | (simp only [List.length_drop, List.length_take]; rfl)) ?_; (with_reducible refine (spec_l1In.calls a0 0 475253 true _ A2.out).mono ?_); rintro e w' ⟨rfl, ⟨nd, rfl⟩⟩; refine ⟨_, rfl, ?_⟩))
  go_loopg [0, 3, 4] k (fun kq v0 v3 v4 w' => ∃ (x0_1 : Int) (x3_1 : ByteArray) (x4_1 : Int), v0 = .int .i64 x0_1 ∧ v3 = .string x3_1 ∧ v4 = .int .i64 x4_1 ∧ Aside0 (spec_KeyAt.l0 kq x0_1 x3_1 x4_1 = some r) ∧ Aside0 (kq ≤ k) ∧ Aside0 (Below w.heap.size w w'))
  case atStart => exact ⟨(a0), ((⟨#[]⟩ : ByteArray)), (0), (by first | rfl | (simp; done) | (simp [bne]; done) | (simp [*]; done)), (by first | rfl | (simp; done) | (simp [bne]; done) | (simp [*]; done)), (by first | rfl | (simp; done) | (simp [bne]; done) | (simp [*]; done)), H', ⟨Nat.le_refl _⟩, ⟨by exact hopb HB.out⟩⟩
  case round =>
   clear H'
   try clear c1
   try clear p2
   try clear c3
   obtain ⟨x0_1, x3_1, x4_1, rfl, rfl, rfl, HA, HK1, HB⟩ := hrel
   cases gk with
   | zero => exact absurd HA.out (by simp [spec_KeyAt.l0])
   | succ k1 =>
    have H := HA.out
    clear HA
    simp only [spec_KeyAt.l0] at H
    by_cases c4 : x4_1 < 4
    ·rw [if_pos c4] at H
     have c4b0 : decide (x4_1 < 4) = true := decide_eq_true c4
     clear c4
     replace H := Option.bind_eq_some_iff.mp H
     obtain ⟨t524, A50, H⟩ := H
     try dsimp only at H
     have A5 := ak A50
     clear A50
     by_cases c6 : t524 = 0
     ·rw [if_pos c6] at H
      exact absurd H (by simp)
     ·rw [if_neg c6] at H
      have c6b0 : (t524 == 0) = false := beq_eq_false_iff_ne.mpr c6
      have c6b1 : (t524 != 0) = true := bne_iff_ne.mpr c6
      obtain ⟨y525, hy525⟩ : ∃ y_ : List Int, y_ = (([(wrap64 (97 + (wrap64 (Int.tdiv x0_1 t524)))) % 256] : List Int)) := ⟨_, rfl⟩
      replace H : (if x3_1.size + (strOfNums y525).size ≤ 9223372036854775807 then ((spec_l1Weight.f x4_1).bind fun t528 => (if t528 = 0 then (none) else (if (Int.tmod x0_1 t528) = 0 then (some (x3_1 ++ (strOfNums y525))) else (spec_KeyAt.l0 k1 (wrap64 ((Int.tmod x0_1 t528) - 1)) (x3_1 ++ (strOfNums y525)) (wrap64 (x4_1 + 1)))))) else (none)) = some r := by first | (rw [hy525]; exact H) | exact H
      have Ny525 := ak hy525
      clear hy525
      by_cases c7 : x3_1.size + (strOfNums y525).size ≤ 9223372036854775807
      ·rw [if_pos c7] at H
       have c7b0 := eq_true c7
       have c7b1 : decide (x3_1.size + (strOfNums y525).size ≤ 9223372036854775807) = true := decide_eq_true c7
       try have c7b2 : (9223372036854775807 < x3_1.size + (strOfNums y525).size) = False := eq_false (Nat.not_lt.2 c7)
       replace H := Option.bind_eq_some_iff.mp H
       obtain ⟨t528, A80, H⟩ := H
       try dsimp only at H
       have A8 := ak A80
       clear A80
       by_cases c9 : t528 = 0
       ·rw [if_pos c9] at H
        exact absurd H (by simp)
       ·rw [if_neg c9] at H
        have c9b0 : (t528 == 0) = false := beq_eq_false_iff_ne.mpr c9
        have c9b1 : (t528 != 0) = true := bne_iff_ne.mpr c9
        by_cases c10 : (Int.tmod x0_1 t528) = 0
        ·rw [if_pos c10] at H
         have c10b0 : ((Int.tmod x0_1 t528) == 0) = true := beq_iff_eq.mpr c10
         have c10b1 : ((Int.tmod x0_1 t528) != 0) = false := bne_eq_false_iff_eq.mpr c10
         clear c10
         obtain rfl := Option.some.inj H
         go_wp2_with (first | ((with_reducible refine gate_callee (f := 114) rfl ?_); refine goesL_ (some 15) rfl rfl Try.func114 (by kernel_rfl) rfl #[.int .i64 x4_1] rfl (by (try simp only [List.map_toArray, List.map_cons, List.map_nil]); first | done | rfl | (simp only [List.length_drop, List.length_take]; rfl)) ?_; (with_reducible refine (spec_l1Weight.calls x4_1 t524 _ A5.out).mono ?_); rintro e w' ⟨rfl, ⟨nd, rfl⟩⟩; refine ⟨_, rfl, ?_⟩) | ((with_reducible refine gate_dst (N := 19) rfl ?_); refine Kd.R_lit (Kd.int .u8) _ 5 ?hg (N := 19) ?hd (xs := ([(wrap64 (97 + (wrap64 (Int.tdiv x0_1 t524)))) % 256] : List Int)) (inner := [.int .u8 ((wrap64 (97 + (wrap64 (Int.tdiv x0_1 t524)))) % 256)]) (ok := fun _ => True) (okp := fun _ => True) ?hr ?hp (fun _ hk => hk) trivial (Below.refl _ _) (Nat.le_refl _) (by simp) ?_; (case hd => rfl); (case hg => rfl); (case hr => first | (go_simp; done) | (go_simp; rfl)); (case hp => exact (Reps.one (show Kd.M (Kd.int .u8) _ _ _ ((wrap64 (97 + (wrap64 (Int.tdiv x0_1 t524)))) % 256) [.int .u8 ((wrap64 (97 + (wrap64 (Int.tdiv x0_1 t524)))) % 256)] from rfl) (Reps.none _ _))); intro v526 w11 ho12 hb hg_ hnew_; clear hg_ hnew_; (first | rw [← Ny525.out] at ho12 | (simp only [Int.reduceToNat] at ho12; rw [← Ny525.out] at ho12)); have HO527 := ak (Kd.R_lower ho12 (below_size (by exact hopb HB.out))); replace HB := ak (below_step (by exact hopb HB.out) hb); clear hb ho12; have hcv13 := own_string (P := Try.prog) Try.underlying31 Try.underlying5 Try.underlying9 (Kd.own_of_R HO527.out)) | ((with_reducible refine gate_callee (f := 114) rfl ?_); refine goesL_ (some 24) rfl rfl Try.func114 (by kernel_rfl) rfl #[.int .i64 x4_1] rfl (by (try simp only [List.map_toArray, List.map_cons, List.map_nil]); first | done | rfl | (simp only [List.length_drop, List.length_take]; rfl)) ?_; (with_reducible refine (spec_l1Weight.calls x4_1 t528 _ A8.out).mono ?_); rintro e w' ⟨rfl, ⟨nd, rfl⟩⟩; refine ⟨_, rfl, ?_⟩))
         go_ret
         exact ⟨by first | rfl | (simp only [u8_w_, w64_u8_] <;> rfl) | (simp [errW_none, errW_some] <;> rfl) | (simp [*, errW_none, errW_some] <;> rfl), by exact hopb HB.out⟩
        ·rw [if_neg c10] at H
         have c10b0 : ((Int.tmod x0_1 t528) == 0) = false := beq_eq_false_iff_ne.mpr c10
         have c10b1 : ((Int.tmod x0_1 t528) != 0) = true := bne_iff_ne.mpr c10
         have H' := ak H
         clear H
         go_wp2_with (first | ((with_reducible refine gate_callee (f := 114) rfl ?_); refine goesL_ (some 15) rfl rfl Try.func114 (by kernel_rfl) rfl #[.int .i64 x4_1] rfl (by (try simp only [List.map_toArray, List.map_cons, List.map_nil]); first | done | rfl | (simp only [List.length_drop, List.length_take]; rfl)) ?_; (with_reducible refine (spec_l1Weight.calls x4_1 t524 _ A5.out).mono ?_); rintro e w' ⟨rfl, ⟨nd, rfl⟩⟩; refine ⟨_, rfl, ?_⟩) | ((with_reducible refine gate_dst (N := 19) rfl ?_); refine Kd.R_lit (Kd.int .u8) _ 5 ?hg (N := 19) ?hd (xs := ([(wrap64 (97 + (wrap64 (Int.tdiv x0_1 t524)))) % 256] : List Int)) (inner := [.int .u8 ((wrap64 (97 + (wrap64 (Int.tdiv x0_1 t524)))) % 256)]) (ok := fun _ => True) (okp := fun _ => True) ?hr ?hp (fun _ hk => hk) trivial (Below.refl _ _) (Nat.le_refl _) (by simp) ?_; (case hd => rfl); (case hg => rfl); (case hr => first | (go_simp; done) | (go_simp; rfl)); (case hp => exact (Reps.one (show Kd.M (Kd.int .u8) _ _ _ ((wrap64 (97 + (wrap64 (Int.tdiv x0_1 t524)))) % 256) [.int .u8 ((wrap64 (97 + (wrap64 (Int.tdiv x0_1 t524)))) % 256)] from rfl) (Reps.none _ _))); intro v526 w14 ho15 hb hg_ hnew_; clear hg_ hnew_; (first | rw [← Ny525.out] at ho15 | (simp only [Int.reduceToNat] at ho15; rw [← Ny525.out] at ho15)); have HO527 := ak (Kd.R_lower ho15 (below_size (by exact hopb HB.out))); replace HB := ak (below_step (by exact hopb HB.out) hb); clear hb ho15; have hcv16 := own_string (P := Try.prog) Try.underlying31 Try.underlying5 Try.underlying9 (Kd.own_of_R HO527.out)) | ((with_reducible refine gate_callee (f := 114) rfl ?_); refine goesL_ (some 24) rfl rfl Try.func114 (by kernel_rfl) rfl #[.int .i64 x4_1] rfl (by (try simp only [List.map_toArray, List.map_cons, List.map_nil]); first | done | rfl | (simp only [List.length_drop, List.length_take]; rfl)) ?_; (with_reducible refine (spec_l1Weight.calls x4_1 t528 _ A8.out).mono ?_); rintro e w' ⟨rfl, ⟨nd, rfl⟩⟩; refine ⟨_, rfl, ?_⟩))
         go_roundg k1
         case measure => have := HK1.out; omega
         case rel => exact ⟨(wrap64 ((Int.tmod x0_1 t528) - 1)), (x3_1 ++ (strOfNums y525)), (wrap64 (x4_1 + 1)), (by first | rfl | (simp; done) | (simp [bne]; done) | (simp [*]; done)), (by first | rfl | (simp; done) | (simp [bne]; done) | (simp [*]; done)), (by first | rfl | (simp; done) | (simp [bne]; done) | (simp [*]; done)), H', ⟨by have := HK1.out; omega⟩, ⟨by exact hopb HB.out⟩⟩
      ·rw [if_neg c7] at H
       exact absurd H (by simp)
    ·rw [if_neg c4] at H
     have c4b0 : decide (x4_1 < 4) = false := decide_eq_false c4
     clear c4
     obtain rfl := Option.some.inj H
     go_wp2
     go_ret
     exact ⟨by first | rfl | (simp only [u8_w_, w64_u8_] <;> rfl) | (simp [errW_none, errW_some] <;> rfl) | (simp [*, errW_none, errW_some] <;> rfl), by exact hopb HB.out⟩
 ·replace c3 := Bool.eq_false_iff.mpr c3
  subst c3
  rw [if_neg (show ¬ (false = true) by decide)] at H
  obtain rfl := Option.some.inj H
  go_enter Try.func104, Try.ntmps104
  go_wp2_with (first | ((with_reducible refine gate_callee (f := 81) rfl ?_); refine goesL_ (some 6) rfl rfl Try.func81 (by kernel_rfl) rfl #[.int .i64 a0, .int .i64 0, .int .i64 475253] rfl (by (try simp only [List.map_toArray, List.map_cons, List.map_nil]); first | done | rfl | (simp only [List.length_drop, List.length_take]; rfl)) ?_; (with_reducible refine (spec_l1In.calls a0 0 475253 false _ A2.out).mono ?_); rintro e w' ⟨rfl, ⟨nd, rfl⟩⟩; refine ⟨_, rfl, ?_⟩))
  go_ret
  exact ⟨by first | rfl | (simp only [u8_w_, w64_u8_] <;> rfl) | (simp [errW_none, errW_some] <;> rfl) | (simp [*, errW_none, errW_some] <;> rfl), by exact hopb HB.out⟩

/-! ### spec_l20Pairs: function 66 -/
mutual
def spec_l20Pairs.l0 : Nat → Int → List (S71) → Int → List Int → Int → Option ((List (S71)) × Int)
 | 0, _, _, _, _, _ => none
 | k + 1, x1, x5, x6, x1000, x1001 => if x6 > 0 then ((spec_l20Key.f k x1000 x1001 0).bind fun bt534 => ((spec_l20Value.f k x1000 bt534.2 0).bind fun bt536 => ((spec_PairPut.f k x5 bt534.1 bt536.1).bind fun bt538 => (spec_l20Pairs.l0 k x1 bt538.1 (wrap64 (x6 - 1)) x1000 bt536.2)))) else ((spec_l20Rd_pick.f k x1000 x1001 16).bind fun bt542 => (if bt542.1 = 15 then (spec_l20Pairs.l1 k x1 x5 0 x1000 bt542.2) else (spec_l20Pairs.j3 k x1 x5 x1000 bt542.2)))
def spec_l20Pairs.j3 : Nat → Int → List (S71) → List Int → Int → Option ((List (S71)) × Int)
 | 0, _, _, _, _ => none
 | k + 1, x1, x5, x1000, x1001 => (spec_l20Rd_odd.f k x1000 x1001 x1).bind fun bt549 => (if bt549.1 = true then ((some (([(⟨(⟨#[]⟩ : ByteArray), 0⟩ : S71), (⟨(⟨#[122, 122, 122, 122]⟩ : ByteArray), (-1)⟩ : S71), (⟨(⟨#[122, 122, 122, 122]⟩ : ByteArray), 1000⟩ : S71), (⟨(⟨#[97]⟩ : ByteArray), 1⟩ : S71), (⟨(⟨#[65]⟩ : ByteArray), 0⟩ : S71)] : List (S71)) : List (S71))).bind fun y551 => ((spec_l20Rd_pick.f k x1000 bt549.2 5).bind fun bt554 => (if 0 ≤ bt554.1 then (if bt554.1 < (y551.length : Int) then (if x5.length < 5864062014805 then (some ((x5 ++ [(⟨(rd_T71 y551 bt554.1).f0, (rd_T71 y551 bt554.1).f1⟩ : S71)]), bt554.2)) else (none)) else (none)) else (none)))) else (some (x5, bt549.2)))
def spec_l20Pairs.l1 : Nat → Int → List (S71) → Int → List Int → Int → Option ((List (S71)) × Int)
 | 0, _, _, _, _, _ => none
 | k + 1, x1, x5, x9, x1000, x1001 => if (x5.length : Int) < 48 then (spec_l20Pairs.j2 k x1 x5 x9 (decide (x9 < 200)) x1000 x1001) else (spec_l20Pairs.j2 k x1 x5 x9 false x1000 x1001)
def spec_l20Pairs.j2 : Nat → Int → List (S71) → Int → Bool → List Int → Int → Option ((List (S71)) × Int)
 | 0, _, _, _, _, _, _ => none
 | k + 1, x1, x5, x9, x38, x1000, x1001 => if x38 = true then ((spec_KeyAt.f k (wrap64 (x9 * 9))).bind fun t544 => ((spec_PairPut.f k x5 t544 x9).bind fun bt545 => (spec_l20Pairs.l1 k x1 bt545.1 (wrap64 (x9 + 1)) x1000 x1001))) else (spec_l20Pairs.j3 k x1 x5 x1000 x1001)
end
def spec_l20Pairs.f (k : Nat) (s0_0 : List Int) (s0_1 : Int) (a1 : Int) : Option ((List (S71)) × Int) := (spec_l20Rd_pick.f k s0_0 s0_1 9).bind fun bt532 => (spec_l20Pairs.l0 k a1 (([] : List (S71))) bt532.1 s0_0 bt532.2)
theorem spec_l20Pairs.mono_l : ∀ k, (∀ y0 y1 y2 y3 y4, LeO (spec_l20Pairs.l0 k y0 y1 y2 y3 y4) (spec_l20Pairs.l0 (k + 1) y0 y1 y2 y3 y4)) ∧ (∀ y0 y1 y2 y3, LeO (spec_l20Pairs.j3 k y0 y1 y2 y3) (spec_l20Pairs.j3 (k + 1) y0 y1 y2 y3)) ∧ (∀ y0 y1 y2 y3 y4, LeO (spec_l20Pairs.l1 k y0 y1 y2 y3 y4) (spec_l20Pairs.l1 (k + 1) y0 y1 y2 y3 y4)) ∧ (∀ y0 y1 y2 y3 y4 y5, LeO (spec_l20Pairs.j2 k y0 y1 y2 y3 y4 y5) (spec_l20Pairs.j2 (k + 1) y0 y1 y2 y3 y4 y5))
 | 0 => ⟨fun _ _ _ _ _ r h => by simp [spec_l20Pairs.l0] at h, fun _ _ _ _ r h => by simp [spec_l20Pairs.j3] at h, fun _ _ _ _ _ r h => by simp [spec_l20Pairs.l1] at h, fun _ _ _ _ _ _ r h => by simp [spec_l20Pairs.j2] at h⟩
 | k + 1 => by
  obtain ⟨ih0, ih1, ih2, ih3⟩ := spec_l20Pairs.mono_l k
  refine ⟨?_, ?_, ?_, ?_⟩
  ·intro y0 y1 y2 y3 y4
   unfold spec_l20Pairs.l0
   repeat' first
   | (with_reducible exact ih0 _ _ _ _ _)
   | (with_reducible exact ih1 _ _ _ _)
   | (with_reducible exact ih2 _ _ _ _ _)
   | (with_reducible exact ih3 _ _ _ _ _ _)
   | (with_reducible exact spec_KeyAt.mono _ _)
   | (with_reducible exact spec_PairPut.mono _ _ _ _)
   | (with_reducible exact spec_l20Key.mono _ _ _ _)
   | (with_reducible exact spec_l20Rd_odd.mono _ _ _ _)
   | (with_reducible exact spec_l20Rd_pick.mono _ _ _ _)
   | (with_reducible exact spec_l20Value.mono _ _ _ _)
   | (with_reducible exact LeO.refl _)
   | (with_reducible exact LeO.none _)
   | (with_reducible refine LeO.ite ?_ ?_)
   | (with_reducible refine LeO.bind ?_ (fun _ => ?_))
   | exact ih0 _ _ _ _ _
   | exact ih1 _ _ _ _
   | exact ih2 _ _ _ _ _
   | exact ih3 _ _ _ _ _ _
   | exact LeO.none _
   | refine LeO.ite ?_ ?_
   | refine LeO.bind ?_ (fun _ => ?_)
  ·intro y0 y1 y2 y3
   unfold spec_l20Pairs.j3
   repeat' first
   | (with_reducible exact ih0 _ _ _ _ _)
   | (with_reducible exact ih1 _ _ _ _)
   | (with_reducible exact ih2 _ _ _ _ _)
   | (with_reducible exact ih3 _ _ _ _ _ _)
   | (with_reducible exact spec_KeyAt.mono _ _)
   | (with_reducible exact spec_PairPut.mono _ _ _ _)
   | (with_reducible exact spec_l20Key.mono _ _ _ _)
   | (with_reducible exact spec_l20Rd_odd.mono _ _ _ _)
   | (with_reducible exact spec_l20Rd_pick.mono _ _ _ _)
   | (with_reducible exact spec_l20Value.mono _ _ _ _)
   | (with_reducible exact LeO.refl _)
   | (with_reducible exact LeO.none _)
   | (with_reducible refine LeO.ite ?_ ?_)
   | (with_reducible refine LeO.bind ?_ (fun _ => ?_))
   | exact ih0 _ _ _ _ _
   | exact ih1 _ _ _ _
   | exact ih2 _ _ _ _ _
   | exact ih3 _ _ _ _ _ _
   | exact LeO.none _
   | refine LeO.ite ?_ ?_
   | refine LeO.bind ?_ (fun _ => ?_)
  ·intro y0 y1 y2 y3 y4
   unfold spec_l20Pairs.l1
   repeat' first
   | (with_reducible exact ih0 _ _ _ _ _)
   | (with_reducible exact ih1 _ _ _ _)
   | (with_reducible exact ih2 _ _ _ _ _)
   | (with_reducible exact ih3 _ _ _ _ _ _)
   | (with_reducible exact spec_KeyAt.mono _ _)
   | (with_reducible exact spec_PairPut.mono _ _ _ _)
   | (with_reducible exact spec_l20Key.mono _ _ _ _)
   | (with_reducible exact spec_l20Rd_odd.mono _ _ _ _)
   | (with_reducible exact spec_l20Rd_pick.mono _ _ _ _)
   | (with_reducible exact spec_l20Value.mono _ _ _ _)
   | (with_reducible exact LeO.refl _)
   | (with_reducible exact LeO.none _)
   | (with_reducible refine LeO.ite ?_ ?_)
   | (with_reducible refine LeO.bind ?_ (fun _ => ?_))
   | exact ih0 _ _ _ _ _
   | exact ih1 _ _ _ _
   | exact ih2 _ _ _ _ _
   | exact ih3 _ _ _ _ _ _
   | exact LeO.none _
   | refine LeO.ite ?_ ?_
   | refine LeO.bind ?_ (fun _ => ?_)
  ·intro y0 y1 y2 y3 y4 y5
   unfold spec_l20Pairs.j2
   repeat' first
   | (with_reducible exact ih0 _ _ _ _ _)
   | (with_reducible exact ih1 _ _ _ _)
   | (with_reducible exact ih2 _ _ _ _ _)
   | (with_reducible exact ih3 _ _ _ _ _ _)
   | (with_reducible exact spec_KeyAt.mono _ _)
   | (with_reducible exact spec_PairPut.mono _ _ _ _)
   | (with_reducible exact spec_l20Key.mono _ _ _ _)
   | (with_reducible exact spec_l20Rd_odd.mono _ _ _ _)
   | (with_reducible exact spec_l20Rd_pick.mono _ _ _ _)
   | (with_reducible exact spec_l20Value.mono _ _ _ _)
   | (with_reducible exact LeO.refl _)
   | (with_reducible exact LeO.none _)
   | (with_reducible refine LeO.ite ?_ ?_)
   | (with_reducible refine LeO.bind ?_ (fun _ => ?_))
   | exact ih0 _ _ _ _ _
   | exact ih1 _ _ _ _
   | exact ih2 _ _ _ _ _
   | exact ih3 _ _ _ _ _ _
   | exact LeO.none _
   | refine LeO.ite ?_ ?_
   | refine LeO.bind ?_ (fun _ => ?_)
theorem spec_l20Pairs.mono : ∀ a0 a1 a2 k, LeO (spec_l20Pairs.f k a0 a1 a2) (spec_l20Pairs.f (k + 1) a0 a1 a2) := by
 intro a0 a1 a2 k
 obtain ⟨ih0, ih1, ih2, ih3⟩ := spec_l20Pairs.mono_l k
 unfold spec_l20Pairs.f
 repeat' first
   | (with_reducible exact ih0 _ _ _ _ _)
   | (with_reducible exact ih1 _ _ _ _)
   | (with_reducible exact ih2 _ _ _ _ _)
   | (with_reducible exact ih3 _ _ _ _ _ _)
   | (with_reducible exact spec_KeyAt.mono _ _)
   | (with_reducible exact spec_PairPut.mono _ _ _ _)
   | (with_reducible exact spec_l20Key.mono _ _ _ _)
   | (with_reducible exact spec_l20Rd_odd.mono _ _ _ _)
   | (with_reducible exact spec_l20Rd_pick.mono _ _ _ _)
   | (with_reducible exact spec_l20Value.mono _ _ _ _)
   | (with_reducible exact LeO.refl _)
   | (with_reducible exact LeO.none _)
   | (with_reducible refine LeO.ite ?_ ?_)
   | (with_reducible refine LeO.bind ?_ (fun _ => ?_))
   | exact ih0 _ _ _ _ _
   | exact ih1 _ _ _ _
   | exact ih2 _ _ _ _ _
   | exact ih3 _ _ _ _ _ _
   | exact LeO.none _
   | refine LeO.ite ?_ ?_
   | refine LeO.bind ?_ (fun _ => ?_)
theorem spec_l20Pairs.calls (k : Nat) (g : Nat) (s0_0 : List Int) (s0_1 : Int) (a1 : Int) (r1 : List (S71)) (r2 : Int) (w0 w : World) (hI : IsS116 w0 w g s0_0 s0_1) (hB : Below w0.heap.size w0 w) (h : spec_l20Pairs.f k s0_0 s0_1 a1 = some (r1, r2)) :
  Calls Try.prog 66 #[.pointer (some ⟨g, 0, none⟩), .int .i64 a1] w fun e w' => ∃ v0_ : Value, e = .returned (v0_) ∧ Kd.R k71 71 w' w.heap.size (fun _ => True) v0_ r1 ∧ IsS116 w0 w' g s0_0 r2 ∧ Below w0.heap.size w0 w' ∧ KeepBut w w' g none := by
 have hu71 := Try.underlying71
 have HI0 := ak hI
 have HK := ak (KeepBut.refl w g none)
 have HL := ak hB.size
 clear hI
 have HW0 := ak hB.size
 have HB := ak hB
 clear hB
 have H : ((spec_l20Rd_pick.f k s0_0 s0_1 9).bind fun bt532 => (spec_l20Pairs.l0 k a1 (([] : List (S71))) bt532.1 s0_0 bt532.2)) = some (r1, r2) := h
 clear h
 obtain ⟨y529, hy529⟩ : ∃ y_ : List (S71), y_ = (([] : List (S71))) := ⟨_, rfl⟩
 replace H : ((spec_l20Rd_pick.f k s0_0 s0_1 9).bind fun bt532 => (spec_l20Pairs.l0 k a1 y529 bt532.1 s0_0 bt532.2)) = some (r1, r2) := by first | (rw [hy529]; exact H) | exact H
 have Ny529 := ak hy529
 clear hy529
 replace H := Option.bind_eq_some_iff.mp H
 obtain ⟨⟨t532, t533⟩, A30, H⟩ := H
 try dsimp only at H
 have A3 := ak A30
 clear A30
 have H' := ak H
 clear H
 go_enter Try.func66, Try.ntmps66
 go_wp2_with (first | ((with_reducible refine gate_dst (N := 12) rfl ?_); refine Kd.R_lit k71 _ 71 ?hg (N := 12) ?hd (xs := ([] : List (S71))) (inner := []) (ok := fun _ => True) (okp := fun _ => True) ?hr ?hp (fun _ hk => hk) trivial (Below.refl _ _) (Nat.le_refl _) (by simp) ?_; (case hd => rfl); (case hg => rfl); (case hr => first | (go_simp; done) | (go_simp; rfl)); (case hp => exact (Reps.none _ _)); intro v530 w4 ho5 hb hg_ hnew_; clear hg_ hnew_; (first | rw [← Ny529.out] at ho5 | (simp only [Int.reduceToNat] at ho5; rw [← Ny529.out] at ho5)); have HO531 := ak (Kd.R_lower ho5 (keep_size (w := w) (g := g) (row := none) (by repeat (first | exact HK.out | apply KeepBut.set_ | apply keep_drewN | apply keep_drew | apply keep_alloc)))); replace HK := ak (KeepBut.trans (by repeat (first | exact HK.out | apply KeepBut.set_ | apply keep_drewN | apply keep_drew | apply keep_alloc)) (KeepBut.of_below hb g none) (.inl rfl)); replace HB := ak (below_step (by repeat (first | exact HB.out | apply bA | apply bN | apply bD | refine bS ?_ (IsS116.ge HI0.out))) hb); replace HI0 := ak (IsS116.below (by repeat (first | exact HI0.out | apply IsS116.alloc | apply IsS116.drewN | apply IsS116.drew | apply IsS116.set_1)) hb); clear hb ho5) | ((with_reducible refine gate_callee (f := 102) rfl ?_); refine goesL_ (some 14) rfl rfl Try.func102 (by kernel_rfl) rfl #[.pointer (some ⟨g, 0, none⟩), .int .i64 9] rfl (by (try simp only [List.map_toArray, List.map_cons, List.map_nil]); first | done | rfl | (simp only [List.length_drop, List.length_take]; rfl)) ?_; (with_reducible refine (spec_l20Rd_pick.calls k g s0_0 s0_1 9 t532 t533 w0 _ ?side1 ?side2 A3.out).mono ?_); (case side1 => repeat (first | exact HI0.out | apply IsS116.alloc | apply IsS116.drewN | apply IsS116.drew | apply IsS116.set_1)); (case side2 => repeat (first | exact HB.out | apply bA | apply bN | apply bD | refine bS ?_ (IsS116.ge HI0.out))); rintro e w6 ⟨rfl, hi, hb, hk⟩; refine ⟨_, rfl, ?_⟩; replace HO531 := ak (Kd.R_mono (Kd.R_keep (IsS116.apart (show IsS116 w0 _ g s0_0 s0_1 from by repeat (first | exact HI0.out | apply IsS116.alloc | apply IsS116.drewN | apply IsS116.drew | apply IsS116.set_1)) (by (with_reducible repeat (first | apply Kd.R_alloc | apply Kd.R_drewN | apply Kd.R_drew)); exact HO531.out) (by decide)) hk (fun _ h => h.2)) (fun _ h => h.1)); replace HK := ak (KeepBut.trans (by repeat (first | exact HK.out | apply KeepBut.set_ | apply keep_drewN | apply keep_drew | apply keep_alloc)) hk (.inl rfl)); replace HB := ak (hb); replace HI0 := ak (hi); (try clear hb)))
 go_loopg [5, 6] k (fun kq v5 v6 w' => ∃ (x5_1 : List (S71)) (x6_1 : Int) (x1001_1 : Int), v6 = .int .i64 x6_1 ∧ Aside0 (spec_l20Pairs.l0 kq a1 x5_1 x6_1 s0_0 x1001_1 = some (r1, r2)) ∧ Aside0 (kq ≤ k) ∧ Aside0 (Kd.R k71 71 w' w.heap.size (fun _ => True) v5 x5_1) ∧ Aside0 (IsS116 w0 w' g s0_0 x1001_1) ∧ Aside0 (KeepBut w w' g none) ∧ Aside0 (Below w0.heap.size w0 w'))
 case atStart => exact ⟨(y529), (t532), (t533), (by first | rfl | (simp; done) | (simp [bne]; done) | (simp [*]; done)), H', ⟨Nat.le_refl _⟩, ⟨by (with_reducible repeat (first | apply Kd.R_alloc | apply Kd.R_drewN | apply Kd.R_drew)); exact HO531.out⟩, ⟨by repeat (first | exact HI0.out | apply IsS116.alloc | apply IsS116.drewN | apply IsS116.drew | apply IsS116.set_1)⟩, ⟨by repeat (first | exact HK.out | apply KeepBut.set_ | apply keep_drewN | apply keep_drew | apply keep_alloc)⟩, ⟨by repeat (first | exact HB.out | apply bA | apply bN | apply bD | refine bS ?_ (IsS116.ge HI0.out))⟩⟩
 case round =>
  clear H'
  try clear c1
  try clear p2
  try clear c6
  obtain ⟨x5_1, x6_1, x1001_1, rfl, HA, HK1, HO_5, HI0, HK, HB⟩ := hrel
  cases gk with
  | zero => exact absurd HA.out (by simp [spec_l20Pairs.l0])
  | succ k1 =>
   have H := HA.out
   clear HA
   simp only [spec_l20Pairs.l0] at H
   by_cases c7 : x6_1 > 0
   ·rw [if_pos c7] at H
    have c7b0 : decide (0 < x6_1) = true := decide_eq_true c7
    clear c7
    replace H := Option.bind_eq_some_iff.mp H
    obtain ⟨⟨t534, t535⟩, A80, H⟩ := H
    try dsimp only at H
    have A8 := ak A80
    clear A80
    replace H := Option.bind_eq_some_iff.mp H
    obtain ⟨⟨t536, t537⟩, A90, H⟩ := H
    try dsimp only at H
    have A9 := ak A90
    clear A90
    replace H := Option.bind_eq_some_iff.mp H
    obtain ⟨⟨t538, t539⟩, A100, H⟩ := H
    try dsimp only at H
    have A10 := ak A100
    clear A100
    have H' := ak H
    clear H
    go_wp2_with (first | ((with_reducible refine gate_callee (f := 103) rfl ?_); refine goesL_ (some 22) rfl rfl Try.func103 (by kernel_rfl) rfl #[.pointer (some ⟨g, 0, none⟩), .int .i64 0] rfl (by (try simp only [List.map_toArray, List.map_cons, List.map_nil]); first | done | rfl | (simp only [List.length_drop, List.length_take]; rfl)) ?_; (with_reducible refine (spec_l20Key.calls k1 g s0_0 x1001_1 0 t534 t535 w0 _ ?side1 ?side2 A8.out).mono ?_); (case side1 => repeat (first | exact HI0.out | apply IsS116.alloc | apply IsS116.drewN | apply IsS116.drew | apply IsS116.set_1)); (case side2 => repeat (first | exact HB.out | apply bA | apply bN | apply bD | refine bS ?_ (IsS116.ge HI0.out))); rintro e w11 ⟨rfl, hi, hb, hk⟩; refine ⟨_, rfl, ?_⟩; replace HO_5 := ak (Kd.R_mono (Kd.R_keep (IsS116.apart (show IsS116 w0 _ g s0_0 x1001_1 from by repeat (first | exact HI0.out | apply IsS116.alloc | apply IsS116.drewN | apply IsS116.drew | apply IsS116.set_1)) (by (with_reducible repeat (first | apply Kd.R_alloc | apply Kd.R_drewN | apply Kd.R_drew)); exact HO_5.out) (by decide)) hk (fun _ h => h.2)) (fun _ h => h.1)); replace HK := ak (KeepBut.trans (by repeat (first | exact HK.out | apply KeepBut.set_ | apply keep_drewN | apply keep_drew | apply keep_alloc)) hk (.inl rfl)); replace HB := ak (hb); replace HI0 := ak (hi); (try clear hb)) | ((with_reducible refine gate_callee (f := 94) rfl ?_); refine goesL_ (some 24) rfl rfl Try.func94 (by kernel_rfl) rfl #[.pointer (some ⟨g, 0, none⟩), .int .i64 0] rfl (by (try simp only [List.map_toArray, List.map_cons, List.map_nil]); first | done | rfl | (simp only [List.length_drop, List.length_take]; rfl)) ?_; (with_reducible refine (spec_l20Value.calls k1 g s0_0 t535 0 t536 t537 w0 _ ?side1 ?side2 A9.out).mono ?_); (case side1 => repeat (first | exact HI0.out | apply IsS116.alloc | apply IsS116.drewN | apply IsS116.drew | apply IsS116.set_1)); (case side2 => repeat (first | exact HB.out | apply bA | apply bN | apply bD | refine bS ?_ (IsS116.ge HI0.out))); rintro e w12 ⟨rfl, hi, hb, hk⟩; refine ⟨_, rfl, ?_⟩; replace HO_5 := ak (Kd.R_mono (Kd.R_keep (IsS116.apart (show IsS116 w0 _ g s0_0 t535 from by repeat (first | exact HI0.out | apply IsS116.alloc | apply IsS116.drewN | apply IsS116.drew | apply IsS116.set_1)) (by (with_reducible repeat (first | apply Kd.R_alloc | apply Kd.R_drewN | apply Kd.R_drew)); exact HO_5.out) (by decide)) hk (fun _ h => h.2)) (fun _ h => h.1)); replace HK := ak (KeepBut.trans (by repeat (first | exact HK.out | apply KeepBut.set_ | apply keep_drewN | apply keep_drew | apply keep_alloc)) hk (.inl rfl)); replace HB := ak (hb); replace HI0 := ak (hi); (try clear hb); obtain ⟨Ao13, co13, eo13⟩ := Kd.R_slice HO_5.out; subst eo13) | ((with_reducible refine gate_callee (f := 83) rfl ?_); refine goesL_ (some 25) rfl rfl Try.func83 (by kernel_rfl) rfl #[.slice Ao13 x5_1.length co13, .string t534, .int .i64 t536] rfl (by (try simp only [List.map_toArray, List.map_cons, List.map_nil]); first | done | rfl | (simp only [List.length_drop, List.length_take]; rfl)) ?_; (with_reducible refine (spec_PairPut.calls k1 _ _ x5_1 t534 t536 t538 t539 _ ?side1 ?side2 A10.out).mono ?_); (case side1 => repeat (first | exact (Kd.R_reads' HO_5.out).2.2 | (with_reducible refine Kd.C_alloc ?_ _) | (with_reducible refine Kd.C_drewN ?_ _) | (with_reducible refine Kd.C_drew ?_))); (case side2 => exact (Kd.R_reads' HO_5.out).2.1); rintro e w14 ⟨v540, rfl, ho0, hb⟩; refine ⟨_, rfl, ?_⟩; have HO541 := ak (Kd.R_lower (Kd.R_new' ho0 (Kd.R_lt (by (with_reducible repeat (first | apply Kd.R_alloc | apply Kd.R_drewN | apply Kd.R_drew)); exact HO_5.out))) (keep_size (w := w) (g := g) (row := none) (by repeat (first | exact HK.out | apply KeepBut.set_ | apply keep_drewN | apply keep_drew | apply keep_alloc)))); replace HO_5 := ak (Kd.R_elder' (by (with_reducible repeat (first | apply Kd.R_alloc | apply Kd.R_drewN | apply Kd.R_drew)); exact HO_5.out) (Kd.R_base ho0) hb); replace HK := ak (KeepBut.trans (by repeat (first | exact HK.out | apply KeepBut.set_ | apply keep_drewN | apply keep_drew | apply keep_alloc)) (KeepBut.of_below hb g none) (.inl rfl)); replace HB := ak (below_step (by repeat (first | exact HB.out | apply bA | apply bN | apply bD | refine bS ?_ (IsS116.ge HI0.out))) hb); replace HI0 := ak (IsS116.below (by repeat (first | exact HI0.out | apply IsS116.alloc | apply IsS116.drewN | apply IsS116.drew | apply IsS116.set_1)) hb); (try clear hb); (try clear ho0)))
    go_roundg k1
    case measure => have := HK1.out; omega
    case rel => exact ⟨(t538), (wrap64 (x6_1 - 1)), (t537), (by first | rfl | (simp; done) | (simp [bne]; done) | (simp [*]; done)), H', ⟨by have := HK1.out; omega⟩, ⟨by (with_reducible repeat (first | apply Kd.R_alloc | apply Kd.R_drewN | apply Kd.R_drew)); exact Kd.R_mono HO541.out (fun _ hk => trivial)⟩, ⟨by repeat (first | exact HI0.out | apply IsS116.alloc | apply IsS116.drewN | apply IsS116.drew | apply IsS116.set_1)⟩, ⟨by repeat (first | exact HK.out | apply KeepBut.set_ | apply keep_drewN | apply keep_drew | apply keep_alloc)⟩, ⟨by repeat (first | exact HB.out | apply bA | apply bN | apply bD | refine bS ?_ (IsS116.ge HI0.out))⟩⟩
   ·rw [if_neg c7] at H
    have c7b0 : decide (0 < x6_1) = false := decide_eq_false c7
    clear c7
    replace H := Option.bind_eq_some_iff.mp H
    obtain ⟨⟨t542, t543⟩, A150, H⟩ := H
    try dsimp only at H
    have A15 := ak A150
    clear A150
    have HC16 := ak H
    clear H
    go_upto_if 31 with (first | ((with_reducible refine gate_callee (f := 102) rfl ?_); refine goesL_ (some 30) rfl rfl Try.func102 (by kernel_rfl) rfl #[.pointer (some ⟨g, 0, none⟩), .int .i64 16] rfl (by (try simp only [List.map_toArray, List.map_cons, List.map_nil]); first | done | rfl | (simp only [List.length_drop, List.length_take]; rfl)) ?_; (with_reducible refine (spec_l20Rd_pick.calls k1 g s0_0 x1001_1 16 t542 t543 w0 _ ?side1 ?side2 A15.out).mono ?_); (case side1 => repeat (first | exact HI0.out | apply IsS116.alloc | apply IsS116.drewN | apply IsS116.drew | apply IsS116.set_1)); (case side2 => repeat (first | exact HB.out | apply bA | apply bN | apply bD | refine bS ?_ (IsS116.ge HI0.out))); rintro e w17 ⟨rfl, hi, hb, hk⟩; refine ⟨_, rfl, ?_⟩; replace HO_5 := ak (Kd.R_mono (Kd.R_keep (IsS116.apart (show IsS116 w0 _ g s0_0 x1001_1 from by repeat (first | exact HI0.out | apply IsS116.alloc | apply IsS116.drewN | apply IsS116.drew | apply IsS116.set_1)) (by (with_reducible repeat (first | apply Kd.R_alloc | apply Kd.R_drewN | apply Kd.R_drew)); exact HO_5.out) (by decide)) hk (fun _ h => h.2)) (fun _ h => h.1)); replace HK := ak (KeepBut.trans (by repeat (first | exact HK.out | apply KeepBut.set_ | apply keep_drewN | apply keep_drew | apply keep_alloc)) hk (.inl rfl)); replace HB := ak (hb); replace HI0 := ak (hi); (try clear hb)))
    (try simp only [Act.put, lT, lZ, lS])
    go_cut [5] (fun v5 wc => ∃ (kq : Nat) (x5_15 : List (S71)), Aside0 (spec_l20Pairs.j3 kq a1 x5_15 s0_0 t543 = some (r1, r2)) ∧ Aside0 (kq ≤ k1) ∧ Aside0 (Kd.R k71 71 wc w.heap.size (fun _ => True) v5 x5_15) ∧ Aside0 (IsS116 w0 wc g s0_0 t543) ∧ Aside0 (KeepBut w wc g none) ∧ Aside0 (Below w0.heap.size w0 wc))
    case first =>
     have H := HC16.out
     clear HC16
     by_cases c18 : t542 = 15
     ·rw [if_pos c18] at H
      have c18b0 : (t542 == 15) = true := beq_iff_eq.mpr c18
      have c18b1 : (t542 != 15) = false := bne_eq_false_iff_eq.mpr c18
      clear c18
      (first | rw [c18b0] | (simp only [i64_w, i32_w]; rw [c18b0]) | skip)
      have H' := ak H
      clear H
      go_wp2
      go_loopg [5, 9] k1 (fun kq v5 v9 w' => ∃ (x5_2 : List (S71)) (x9_2 : Int), v9 = .int .i64 x9_2 ∧ Aside0 (spec_l20Pairs.l1 kq a1 x5_2 x9_2 s0_0 t543 = some (r1, r2)) ∧ Aside0 (kq ≤ k1) ∧ Aside0 (Kd.R k71 71 w' w.heap.size (fun _ => True) v5 x5_2) ∧ Aside0 (IsS116 w0 w' g s0_0 t543) ∧ Aside0 (KeepBut w w' g none) ∧ Aside0 (Below w0.heap.size w0 w'))
      case atStart => exact ⟨(x5_1), (0), (by first | rfl | (simp; done) | (simp [bne]; done) | (simp [*]; done)), H', ⟨Nat.le_refl _⟩, ⟨by (with_reducible repeat (first | apply Kd.R_alloc | apply Kd.R_drewN | apply Kd.R_drew)); exact HO_5.out⟩, ⟨by repeat (first | exact HI0.out | apply IsS116.alloc | apply IsS116.drewN | apply IsS116.drew | apply IsS116.set_1)⟩, ⟨by repeat (first | exact HK.out | apply KeepBut.set_ | apply keep_drewN | apply keep_drew | apply keep_alloc)⟩, ⟨by repeat (first | exact HB.out | apply bA | apply bN | apply bD | refine bS ?_ (IsS116.ge HI0.out))⟩⟩
      case round =>
       clear H'
       try clear c1
       try clear p2
       try clear c6
       try clear p6
       try clear c7
       try clear c7b0
       try clear c8
       try clear c9
       try clear c10
       try clear c18
       try clear c18b0
       try clear c18b1
       try clear p2
       obtain ⟨x5_2, x9_2, rfl, HA, HK2, HO_5, HI0, HK, HB⟩ := hrel
       cases gk with
       | zero => exact absurd HA.out (by simp [spec_l20Pairs.l1])
       | succ k2 =>
        have H := HA.out
        clear HA
        simp only [spec_l20Pairs.l1] at H
        have HC19 := ak H
        clear H
        go_upto_region 9 with (fail)
        go_cut [38] (fun v38 wc => ∃ (kq : Nat) (x38_18 : Bool), v38 = .bool x38_18 ∧ Aside0 (spec_l20Pairs.j2 kq a1 x5_2 x9_2 x38_18 s0_0 t543 = some (r1, r2)) ∧ Aside0 (kq ≤ k2) ∧ Aside0 (Kd.R k71 71 wc w.heap.size (fun _ => True) u5 x5_2) ∧ Aside0 (IsS116 w0 wc g s0_0 t543) ∧ Aside0 (KeepBut w wc g none) ∧ Aside0 (Below w0.heap.size w0 wc))
        case first =>
         have H := HC19.out
         clear HC19
         by_cases c20 : (x5_2.length : Int) < 48
         ·rw [if_pos c20] at H
          have c20b0 : decide ((x5_2.length : Int) < 48) = true := decide_eq_true c20
          have c20b1 : decide (x5_2.length < 48) = true := decide_eq_true (by omega)
          clear c20
          (first | rw [c20b0] | (simp only [i64_w, i32_w]; rw [c20b0]) | skip)
          have H' := ak H
          clear H
          obtain ⟨Ao21, co21, eo21⟩ := Kd.R_slice HO_5.out
          subst eo21
          go_wp2
          go_meet
          case rel => exact ⟨_, (decide (x9_2 < 200)), (by first | rfl | (simp; done) | (simp [bne]; done) | (simp [*]; done)), H', ⟨by have := HK1.out; have := HK2.out; first | omega | exact Nat.le_refl _⟩, ⟨by (with_reducible repeat (first | apply Kd.R_alloc | apply Kd.R_drewN | apply Kd.R_drew)); exact HO_5.out⟩, ⟨by repeat (first | exact HI0.out | apply IsS116.alloc | apply IsS116.drewN | apply IsS116.drew | apply IsS116.set_1)⟩, ⟨by repeat (first | exact HK.out | apply KeepBut.set_ | apply keep_drewN | apply keep_drew | apply keep_alloc)⟩, ⟨by repeat (first | exact HB.out | apply bA | apply bN | apply bD | refine bS ?_ (IsS116.ge HI0.out))⟩⟩
         ·rw [if_neg c20] at H
          have c20b0 : decide ((x5_2.length : Int) < 48) = false := decide_eq_false c20
          have c20b1 : decide (x5_2.length < 48) = false := decide_eq_false (by omega)
          clear c20
          (first | rw [c20b0] | (simp only [i64_w, i32_w]; rw [c20b0]) | skip)
          have H' := ak H
          clear H
          obtain ⟨Ao22, co22, eo22⟩ := Kd.R_slice HO_5.out
          subst eo22
          go_wp2
          go_meet
          case rel => exact ⟨_, (false), (by first | rfl | (simp; done) | (simp [bne]; done) | (simp [*]; done)), H', ⟨by have := HK1.out; have := HK2.out; first | omega | exact Nat.le_refl _⟩, ⟨by (with_reducible repeat (first | apply Kd.R_alloc | apply Kd.R_drewN | apply Kd.R_drew)); exact HO_5.out⟩, ⟨by repeat (first | exact HI0.out | apply IsS116.alloc | apply IsS116.drewN | apply IsS116.drew | apply IsS116.set_1)⟩, ⟨by repeat (first | exact HK.out | apply KeepBut.set_ | apply keep_drewN | apply keep_drew | apply keep_alloc)⟩, ⟨by repeat (first | exact HB.out | apply bA | apply bN | apply bD | refine bS ?_ (IsS116.ge HI0.out))⟩⟩
        case rest =>
         clear HC19
         try clear c1
         try clear c2
         try clear p2
         try clear c6
         try clear p6
         try clear c7
         try clear c7b0
         try clear c8
         try clear c9
         try clear c10
         try clear c18
         try clear c18b0
         try clear c18b1
         try clear c20
         try clear c20b0
         try clear c20b1
         try clear p2
         try clear p6
         obtain ⟨kq, x38_18, rfl, HA, HJ18, HO_5, HI0, HK, HB⟩ := hcut
         cases kq with
         | zero => exact absurd HA.out (by simp [spec_l20Pairs.j2])
         | succ kj18 =>
          have H := HA.out
          clear HA
          simp only [spec_l20Pairs.j2] at H
          by_cases c23 : x38_18 = true
          ·subst c23
           rw [if_pos rfl] at H
           replace H := Option.bind_eq_some_iff.mp H
           obtain ⟨t544, A240, H⟩ := H
           try dsimp only at H
           have A24 := ak A240
           clear A240
           replace H := Option.bind_eq_some_iff.mp H
           obtain ⟨⟨t545, t546⟩, A250, H⟩ := H
           try dsimp only at H
           have A25 := ak A250
           clear A250
           have H' := ak H
           clear H
           go_wp2_with (first | ((with_reducible refine gate_callee (f := 104) rfl ?_); refine goesL_ (some 45) rfl rfl Try.func104 (by kernel_rfl) rfl #[.int .i64 (wrap64 (x9_2 * 9))] rfl (by (try simp only [List.map_toArray, List.map_cons, List.map_nil]); first | done | rfl | (simp only [List.length_drop, List.length_take]; rfl)) ?_; (with_reducible refine (spec_KeyAt.calls kj18 (wrap64 (x9_2 * 9)) t544 _ A24.out).mono ?_); rintro e w26 ⟨rfl, hb⟩; refine ⟨_, rfl, ?_⟩; replace HO_5 := ak (Kd.R_below (by (with_reducible repeat (first | apply Kd.R_alloc | apply Kd.R_drewN | apply Kd.R_drew)); exact HO_5.out) hb); replace HK := ak (KeepBut.trans (by repeat (first | exact HK.out | apply KeepBut.set_ | apply keep_drewN | apply keep_drew | apply keep_alloc)) (KeepBut.of_below hb g none) (.inl rfl)); replace HB := ak (below_step (by repeat (first | exact HB.out | apply bA | apply bN | apply bD | refine bS ?_ (IsS116.ge HI0.out))) hb); replace HI0 := ak (IsS116.below (by repeat (first | exact HI0.out | apply IsS116.alloc | apply IsS116.drewN | apply IsS116.drew | apply IsS116.set_1)) hb); (try clear hb); obtain ⟨Ao27, co27, eo27⟩ := Kd.R_slice HO_5.out; subst eo27) | ((with_reducible refine gate_callee (f := 83) rfl ?_); refine goesL_ (some 47) rfl rfl Try.func83 (by kernel_rfl) rfl #[.slice Ao27 x5_2.length co27, .string t544, .int .i64 x9_2] rfl (by (try simp only [List.map_toArray, List.map_cons, List.map_nil]); first | done | rfl | (simp only [List.length_drop, List.length_take]; rfl)) ?_; (with_reducible refine (spec_PairPut.calls kj18 _ _ x5_2 t544 x9_2 t545 t546 _ ?side1 ?side2 A25.out).mono ?_); (case side1 => repeat (first | exact (Kd.R_reads' HO_5.out).2.2 | (with_reducible refine Kd.C_alloc ?_ _) | (with_reducible refine Kd.C_drewN ?_ _) | (with_reducible refine Kd.C_drew ?_))); (case side2 => exact (Kd.R_reads' HO_5.out).2.1); rintro e w28 ⟨v547, rfl, ho0, hb⟩; refine ⟨_, rfl, ?_⟩; have HO548 := ak (Kd.R_lower (Kd.R_new' ho0 (Kd.R_lt (by (with_reducible repeat (first | apply Kd.R_alloc | apply Kd.R_drewN | apply Kd.R_drew)); exact HO_5.out))) (keep_size (w := w) (g := g) (row := none) (by repeat (first | exact HK.out | apply KeepBut.set_ | apply keep_drewN | apply keep_drew | apply keep_alloc)))); replace HO_5 := ak (Kd.R_elder' (by (with_reducible repeat (first | apply Kd.R_alloc | apply Kd.R_drewN | apply Kd.R_drew)); exact HO_5.out) (Kd.R_base ho0) hb); replace HK := ak (KeepBut.trans (by repeat (first | exact HK.out | apply KeepBut.set_ | apply keep_drewN | apply keep_drew | apply keep_alloc)) (KeepBut.of_below hb g none) (.inl rfl)); replace HB := ak (below_step (by repeat (first | exact HB.out | apply bA | apply bN | apply bD | refine bS ?_ (IsS116.ge HI0.out))) hb); replace HI0 := ak (IsS116.below (by repeat (first | exact HI0.out | apply IsS116.alloc | apply IsS116.drewN | apply IsS116.drew | apply IsS116.set_1)) hb); (try clear hb); (try clear ho0)))
           go_roundg kj18
           case measure => have := HK1.out; have := HK2.out; have := HJ18.out; omega
           case rel => exact ⟨(t545), (wrap64 (x9_2 + 1)), (by first | rfl | (simp; done) | (simp [bne]; done) | (simp [*]; done)), H', ⟨by have := HK1.out; have := HK2.out; have := HJ18.out; omega⟩, ⟨by (with_reducible repeat (first | apply Kd.R_alloc | apply Kd.R_drewN | apply Kd.R_drew)); exact Kd.R_mono HO548.out (fun _ hk => trivial)⟩, ⟨by repeat (first | exact HI0.out | apply IsS116.alloc | apply IsS116.drewN | apply IsS116.drew | apply IsS116.set_1)⟩, ⟨by repeat (first | exact HK.out | apply KeepBut.set_ | apply keep_drewN | apply keep_drew | apply keep_alloc)⟩, ⟨by repeat (first | exact HB.out | apply bA | apply bN | apply bD | refine bS ?_ (IsS116.ge HI0.out))⟩⟩
          ·replace c23 := Bool.eq_false_iff.mpr c23
           subst c23
           rw [if_neg (show ¬ (false = true) by decide)] at H
           have H' := ak H
           clear H
           go_wp2
           go_meet
           case rel => exact ⟨_, (x5_2), H', ⟨by have := HK1.out; have := HK2.out; have := HJ18.out; first | omega | exact Nat.le_refl _⟩, ⟨by (with_reducible repeat (first | apply Kd.R_alloc | apply Kd.R_drewN | apply Kd.R_drew)); exact HO_5.out⟩, ⟨by repeat (first | exact HI0.out | apply IsS116.alloc | apply IsS116.drewN | apply IsS116.drew | apply IsS116.set_1)⟩, ⟨by repeat (first | exact HK.out | apply KeepBut.set_ | apply keep_drewN | apply keep_drew | apply keep_alloc)⟩, ⟨by repeat (first | exact HB.out | apply bA | apply bN | apply bD | refine bS ?_ (IsS116.ge HI0.out))⟩⟩
     ·rw [if_neg c18] at H
      have c18b0 : (t542 == 15) = false := beq_eq_false_iff_ne.mpr c18
      have c18b1 : (t542 != 15) = true := bne_iff_ne.mpr c18
      (first | rw [c18b0] | (simp only [i64_w, i32_w]; rw [c18b0]) | skip)
      have H' := ak H
      clear H
      go_wp2
      go_meet
      case rel => exact ⟨_, (x5_1), H', ⟨by have := HK1.out; first | omega | exact Nat.le_refl _⟩, ⟨by (with_reducible repeat (first | apply Kd.R_alloc | apply Kd.R_drewN | apply Kd.R_drew)); exact HO_5.out⟩, ⟨by repeat (first | exact HI0.out | apply IsS116.alloc | apply IsS116.drewN | apply IsS116.drew | apply IsS116.set_1)⟩, ⟨by repeat (first | exact HK.out | apply KeepBut.set_ | apply keep_drewN | apply keep_drew | apply keep_alloc)⟩, ⟨by repeat (first | exact HB.out | apply bA | apply bN | apply bD | refine bS ?_ (IsS116.ge HI0.out))⟩⟩
    case rest =>
     clear HC16
     try clear c1
     try clear c2
     try clear p2
     try clear c6
     try clear p6
     try clear c7
     try clear c7b0
     try clear c8
     try clear c9
     try clear c10
     try clear c18
     try clear c18b0
     try clear c18b1
     try clear c20
     try clear c20b0
     try clear c20b1
     try clear c23
     try clear p2
     try clear p6
     obtain ⟨kq, x5_15, HA, HJ15, HO_5, HI0, HK, HB⟩ := hcut
     cases kq with
     | zero => exact absurd HA.out (by simp [spec_l20Pairs.j3])
     | succ kj15 =>
      have H := HA.out
      clear HA
      simp only [spec_l20Pairs.j3] at H
      replace H := Option.bind_eq_some_iff.mp H
      obtain ⟨⟨t549, t550⟩, A290, H⟩ := H
      try dsimp only at H
      have A29 := ak A290
      clear A290
      by_cases c30 : t549 = true
      ·subst c30
       rw [if_pos rfl] at H
       obtain ⟨y551, hy551⟩ : ∃ y_ : List (S71), y_ = (([(⟨(⟨#[]⟩ : ByteArray), 0⟩ : S71), (⟨(⟨#[122, 122, 122, 122]⟩ : ByteArray), (-1)⟩ : S71), (⟨(⟨#[122, 122, 122, 122]⟩ : ByteArray), 1000⟩ : S71), (⟨(⟨#[97]⟩ : ByteArray), 1⟩ : S71), (⟨(⟨#[65]⟩ : ByteArray), 0⟩ : S71)] : List (S71))) := ⟨_, rfl⟩
       replace H : ((spec_l20Rd_pick.f kj15 s0_0 t550 5).bind fun bt554 => (if 0 ≤ bt554.1 then (if bt554.1 < (y551.length : Int) then (if x5_15.length < 5864062014805 then (some ((x5_15 ++ [(⟨(rd_T71 y551 bt554.1).f0, (rd_T71 y551 bt554.1).f1⟩ : S71)]), bt554.2)) else (none)) else (none)) else (none))) = some (r1, r2) := by first | (rw [hy551]; exact H) | exact H
       have Ny551 := ak hy551
       clear hy551
       replace H := Option.bind_eq_some_iff.mp H
       obtain ⟨⟨t554, t555⟩, A310, H⟩ := H
       try dsimp only at H
       have A31 := ak A310
       clear A310
       by_cases c32 : 0 ≤ t554
       ·rw [if_pos c32] at H
        have c32b0 : decide (0 ≤ t554) = true := decide_eq_true c32
        clear c32
        by_cases c33 : t554 < (y551.length : Int)
        ·rw [if_pos c33] at H
         have c33b0 : decide (t554 < (y551.length : Int)) = true := decide_eq_true c33
         clear c33
         by_cases c34 : x5_15.length < 5864062014805
         ·rw [if_pos c34] at H
          have LMc34 := ak c34
          clear c34
          obtain ⟨y557, hy557⟩ : ∃ y_ : List (S71), y_ = (x5_15 ++ [(⟨(rd_T71 y551 t554).f0, (rd_T71 y551 t554).f1⟩ : S71)]) := ⟨_, rfl⟩
          replace H : (some (y557, t555)) = some (r1, r2) := by first | (rw [hy557]; exact H) | exact H
          have Ny557 := ak hy557
          clear hy557
          simp only [Option.some.injEq, Prod.mk.injEq] at H
          obtain ⟨rfl, rfl⟩ := H
          go_wp2_with (first | ((with_reducible refine gate_callee (f := 105) rfl ?_); refine goesL_ (some 53) rfl rfl Try.func105 (by kernel_rfl) rfl #[.pointer (some ⟨g, 0, none⟩), .int .i64 a1] rfl (by (try simp only [List.map_toArray, List.map_cons, List.map_nil]); first | done | rfl | (simp only [List.length_drop, List.length_take]; rfl)) ?_; (with_reducible refine (spec_l20Rd_odd.calls kj15 g s0_0 t543 a1 true t550 w0 _ ?side1 ?side2 A29.out).mono ?_); (case side1 => repeat (first | exact HI0.out | apply IsS116.alloc | apply IsS116.drewN | apply IsS116.drew | apply IsS116.set_1)); (case side2 => repeat (first | exact HB.out | apply bA | apply bN | apply bD | refine bS ?_ (IsS116.ge HI0.out))); rintro e w35 ⟨rfl, hi, hb, hk⟩; refine ⟨_, rfl, ?_⟩; replace HO_5 := ak (Kd.R_mono (Kd.R_keep (IsS116.apart (show IsS116 w0 _ g s0_0 t543 from by repeat (first | exact HI0.out | apply IsS116.alloc | apply IsS116.drewN | apply IsS116.drew | apply IsS116.set_1)) (by (with_reducible repeat (first | apply Kd.R_alloc | apply Kd.R_drewN | apply Kd.R_drew)); exact HO_5.out) (by decide)) hk (fun _ h => h.2)) (fun _ h => h.1)); replace HK := ak (KeepBut.trans (by repeat (first | exact HK.out | apply KeepBut.set_ | apply keep_drewN | apply keep_drew | apply keep_alloc)) hk (.inl rfl)); replace HB := ak (hb); replace HI0 := ak (hi); (try clear hb)) | ((with_reducible refine gate_dst (N := 60) rfl ?_); refine Kd.R_lit k71 _ 71 ?hg (N := 60) ?hd (xs := ([(⟨(⟨#[]⟩ : ByteArray), 0⟩ : S71), (⟨(⟨#[122, 122, 122, 122]⟩ : ByteArray), (-1)⟩ : S71), (⟨(⟨#[122, 122, 122, 122]⟩ : ByteArray), 1000⟩ : S71), (⟨(⟨#[97]⟩ : ByteArray), 1⟩ : S71), (⟨(⟨#[65]⟩ : ByteArray), 0⟩ : S71)] : List (S71))) (inner := [.string (⟨#[]⟩ : ByteArray), .int .i64 0, .string (⟨#[122, 122, 122, 122]⟩ : ByteArray), .int .i64 (-1), .string (⟨#[122, 122, 122, 122]⟩ : ByteArray), .int .i64 1000, .string (⟨#[97]⟩ : ByteArray), .int .i64 1, .string (⟨#[65]⟩ : ByteArray), .int .i64 0]) (ok := fun _ => True) (okp := fun _ => True) ?hr ?hp (fun _ hk => hk) trivial (Below.refl _ _) (Nat.le_refl _) (by simp) ?_; (case hd => rfl); (case hg => rfl); (case hr => first | (go_simp; done) | (go_simp; rfl)); (case hp => exact (Reps.c2 (show Kd.M k71 _ _ _ (⟨(⟨#[]⟩ : ByteArray), 0⟩ : S71) [.string (⟨#[]⟩ : ByteArray), .int .i64 0] from (k71_mkM _ _ _ (⟨(⟨#[]⟩ : ByteArray), 0⟩ : S71) )) (Reps.c2 (show Kd.M k71 _ _ _ (⟨(⟨#[122, 122, 122, 122]⟩ : ByteArray), (-1)⟩ : S71) [.string (⟨#[122, 122, 122, 122]⟩ : ByteArray), .int .i64 (-1)] from (k71_mkM _ _ _ (⟨(⟨#[122, 122, 122, 122]⟩ : ByteArray), (-1)⟩ : S71) )) (Reps.c2 (show Kd.M k71 _ _ _ (⟨(⟨#[122, 122, 122, 122]⟩ : ByteArray), 1000⟩ : S71) [.string (⟨#[122, 122, 122, 122]⟩ : ByteArray), .int .i64 1000] from (k71_mkM _ _ _ (⟨(⟨#[122, 122, 122, 122]⟩ : ByteArray), 1000⟩ : S71) )) (Reps.c2 (show Kd.M k71 _ _ _ (⟨(⟨#[97]⟩ : ByteArray), 1⟩ : S71) [.string (⟨#[97]⟩ : ByteArray), .int .i64 1] from (k71_mkM _ _ _ (⟨(⟨#[97]⟩ : ByteArray), 1⟩ : S71) )) (Reps.c2 (show Kd.M k71 _ _ _ (⟨(⟨#[65]⟩ : ByteArray), 0⟩ : S71) [.string (⟨#[65]⟩ : ByteArray), .int .i64 0] from (k71_mkM _ _ _ (⟨(⟨#[65]⟩ : ByteArray), 0⟩ : S71) )) (Reps.none _ _))))))); intro v552 w36 ho37 hb hg_ hnew_; clear hg_ hnew_; (first | rw [← Ny551.out] at ho37 | (simp only [Int.reduceToNat] at ho37; rw [← Ny551.out] at ho37)); have HO553 := ak (Kd.R_lower (Kd.R_new' ho37 (Kd.R_lt (by (with_reducible repeat (first | apply Kd.R_alloc | apply Kd.R_drewN | apply Kd.R_drew)); exact HO_5.out))) (keep_size (w := w) (g := g) (row := none) (by repeat (first | exact HK.out | apply KeepBut.set_ | apply keep_drewN | apply keep_drew | apply keep_alloc)))); replace HO_5 := ak (Kd.R_elder' (by (with_reducible repeat (first | apply Kd.R_alloc | apply Kd.R_drewN | apply Kd.R_drew)); exact HO_5.out) (Kd.R_base ho37) hb); replace HK := ak (KeepBut.trans (by repeat (first | exact HK.out | apply KeepBut.set_ | apply keep_drewN | apply keep_drew | apply keep_alloc)) (KeepBut.of_below hb g none) (.inl rfl)); replace HB := ak (below_step (by repeat (first | exact HB.out | apply bA | apply bN | apply bD | refine bS ?_ (IsS116.ge HI0.out))) hb); replace HI0 := ak (IsS116.below (by repeat (first | exact HI0.out | apply IsS116.alloc | apply IsS116.drewN | apply IsS116.drew | apply IsS116.set_1)) hb); clear hb ho37) | ((with_reducible refine gate_callee (f := 102) rfl ?_); refine goesL_ (some 62) rfl rfl Try.func102 (by kernel_rfl) rfl #[.pointer (some ⟨g, 0, none⟩), .int .i64 5] rfl (by (try simp only [List.map_toArray, List.map_cons, List.map_nil]); first | done | rfl | (simp only [List.length_drop, List.length_take]; rfl)) ?_; (with_reducible refine (spec_l20Rd_pick.calls kj15 g s0_0 t550 5 t554 t555 w0 _ ?side1 ?side2 A31.out).mono ?_); (case side1 => repeat (first | exact HI0.out | apply IsS116.alloc | apply IsS116.drewN | apply IsS116.drew | apply IsS116.set_1)); (case side2 => repeat (first | exact HB.out | apply bA | apply bN | apply bD | refine bS ?_ (IsS116.ge HI0.out))); rintro e w38 ⟨rfl, hi, hb, hk⟩; refine ⟨_, rfl, ?_⟩; replace HO_5 := ak (Kd.R_mono (Kd.R_keep (IsS116.apart (show IsS116 w0 _ g s0_0 t550 from by repeat (first | exact HI0.out | apply IsS116.alloc | apply IsS116.drewN | apply IsS116.drew | apply IsS116.set_1)) (by (with_reducible repeat (first | apply Kd.R_alloc | apply Kd.R_drewN | apply Kd.R_drew)); exact HO_5.out) (by decide)) hk (fun _ h => h.2)) (fun _ h => h.1)); replace HO553 := ak (Kd.R_mono (Kd.R_keep (IsS116.apart (show IsS116 w0 _ g s0_0 t550 from by repeat (first | exact HI0.out | apply IsS116.alloc | apply IsS116.drewN | apply IsS116.drew | apply IsS116.set_1)) (by (with_reducible repeat (first | apply Kd.R_alloc | apply Kd.R_drewN | apply Kd.R_drew)); exact HO553.out) (by decide)) hk (fun _ h => h.2)) (fun _ h => h.1)); replace HK := ak (KeepBut.trans (by repeat (first | exact HK.out | apply KeepBut.set_ | apply keep_drewN | apply keep_drew | apply keep_alloc)) hk (.inl rfl)); replace HB := ak (hb); replace HI0 := ak (hi); (try clear hb); obtain ⟨Ao39, co39, eo39⟩ := Kd.R_slice HO553.out; subst eo39; have p556 : 0 ≤ (t554 : Int) := of_decide_eq_true (by assumption); have q556 : t554 < (y551.length : Int) := of_decide_eq_true (by assumption); obtain ⟨ad556, e556, hx556_0, hx556_1⟩ := at_T71 (Kd.R_reads' HO553.out).2.2 t554 p556 q556; cases e556; replace p556 := eq_true p556; replace q556 := eq_true q556) | ((with_reducible refine gate_builtin (b := .append) (xs := #[.tmp 54, .tmp 65]) rfl ?_); at_builtin; refine Kd.R_append k71 w.heap.size rfl (.tmp 54) (.tmp 65) 32 71 (.agg #[(.string ⟨#[]⟩), (.int .i64 0)]) 24 rfl Try.underlying32 info71 rfl (by decide) (by omega) u5 x5_15 (⟨(rd_T71 y551 t554).f0, (rd_T71 y551 t554).f1⟩ : S71) [.string ((rd_T71 y551 t554).f0), .int .i64 ((rd_T71 y551 t554).f1)] (fun k_ => some k_ ≠ (.slice (some ad556) y551.length co39 : Value).ownBlock) (fun _ => False) rfl rfl ?aP (fun _ hk => hk.elim) ?aF ?aO (Below.refl _ _) ?aS ?aL ?_; (case aP => exact k71_mkM _ _ _ (⟨(rd_T71 y551 t554).f0, (rd_T71 y551 t554).f1⟩ : S71)); (case aF => exact (fun k_ hk => Kd.fresh' (Kd.R_lt (by (with_reducible repeat (first | apply Kd.R_alloc | apply Kd.R_drewN | apply Kd.R_drew)); exact HO553.out)) k_ hk)); (case aO => exact (by (with_reducible repeat (first | apply Kd.R_alloc | apply Kd.R_drewN | apply Kd.R_drew)); exact Kd.R_mono HO_5.out (fun _ hk => hk.2))); (case aS => exact (keep_size (w := w) (g := g) (row := none) (by repeat (first | exact HK.out | apply KeepBut.set_ | apply keep_drewN | apply keep_drew | apply keep_alloc)))); (case aL => have := LMc34.out; omega); intro v558 w40 ho hb hg hat; rw [← Ny557.out] at ho; replace HO553 := ak (Kd.R_after (ok := (fun _ => True)) (by (with_reducible repeat (first | apply Kd.R_alloc | apply Kd.R_drewN | apply Kd.R_drew)); exact HO553.out) hg hat); replace HB := ak (below_weaken (by repeat (first | exact HB.out | apply bA | apply bN | apply bD | refine bS ?_ (IsS116.ge HI0.out))) HL.out hb); replace HI0 := ak (IsS116.grown (by repeat (first | exact HI0.out | apply IsS116.alloc | apply IsS116.drewN | apply IsS116.drew | apply IsS116.set_1)) hg (IsS116.own_ne HI0.out HO_5.out (by decide))); replace HK := ak (KeepBut.trans (by repeat (first | exact HK.out | apply KeepBut.set_ | apply keep_drewN | apply keep_drew | apply keep_alloc)) (KeepBut.of_grown hg g) (Kd.R_base2 HO_5.out)); have HO559 := ak (ho); clear HO_5; clear ho hb hg hat))
          go_ret
          exact ⟨_, by first | rfl | (simp only [u8_w_, w64_u8_] <;> rfl) | (simp [errW_none, errW_some] <;> rfl) | (simp [*, errW_none, errW_some] <;> rfl), by (with_reducible repeat (first | apply Kd.R_alloc | apply Kd.R_drewN | apply Kd.R_drew)); exact Kd.R_mono HO559.out (fun _ hk => trivial), by repeat (first | exact HI0.out | apply IsS116.alloc | apply IsS116.drewN | apply IsS116.drew | apply IsS116.set_1), by repeat (first | exact HB.out | apply bA | apply bN | apply bD | refine bS ?_ (IsS116.ge HI0.out)), by repeat (first | exact HK.out | apply KeepBut.set_ | apply keep_drewN | apply keep_drew | apply keep_alloc)⟩
         ·rw [if_neg c34] at H
          exact absurd H (by simp)
        ·rw [if_neg c33] at H
         exact absurd H (by simp)
       ·rw [if_neg c32] at H
        exact absurd H (by simp)
      ·replace c30 := Bool.eq_false_iff.mpr c30
       subst c30
       rw [if_neg (show ¬ (false = true) by decide)] at H
       simp only [Option.some.injEq, Prod.mk.injEq] at H
       obtain ⟨rfl, rfl⟩ := H
       go_wp2_with (first | ((with_reducible refine gate_callee (f := 105) rfl ?_); refine goesL_ (some 53) rfl rfl Try.func105 (by kernel_rfl) rfl #[.pointer (some ⟨g, 0, none⟩), .int .i64 a1] rfl (by (try simp only [List.map_toArray, List.map_cons, List.map_nil]); first | done | rfl | (simp only [List.length_drop, List.length_take]; rfl)) ?_; (with_reducible refine (spec_l20Rd_odd.calls kj15 g s0_0 t543 a1 false t550 w0 _ ?side1 ?side2 A29.out).mono ?_); (case side1 => repeat (first | exact HI0.out | apply IsS116.alloc | apply IsS116.drewN | apply IsS116.drew | apply IsS116.set_1)); (case side2 => repeat (first | exact HB.out | apply bA | apply bN | apply bD | refine bS ?_ (IsS116.ge HI0.out))); rintro e w41 ⟨rfl, hi, hb, hk⟩; refine ⟨_, rfl, ?_⟩; replace HO_5 := ak (Kd.R_mono (Kd.R_keep (IsS116.apart (show IsS116 w0 _ g s0_0 t543 from by repeat (first | exact HI0.out | apply IsS116.alloc | apply IsS116.drewN | apply IsS116.drew | apply IsS116.set_1)) (by (with_reducible repeat (first | apply Kd.R_alloc | apply Kd.R_drewN | apply Kd.R_drew)); exact HO_5.out) (by decide)) hk (fun _ h => h.2)) (fun _ h => h.1)); replace HK := ak (KeepBut.trans (by repeat (first | exact HK.out | apply KeepBut.set_ | apply keep_drewN | apply keep_drew | apply keep_alloc)) hk (.inl rfl)); replace HB := ak (hb); replace HI0 := ak (hi); (try clear hb)))
       go_ret
       exact ⟨_, by first | rfl | (simp only [u8_w_, w64_u8_] <;> rfl) | (simp [errW_none, errW_some] <;> rfl) | (simp [*, errW_none, errW_some] <;> rfl), by (with_reducible repeat (first | apply Kd.R_alloc | apply Kd.R_drewN | apply Kd.R_drew)); exact HO_5.out, by repeat (first | exact HI0.out | apply IsS116.alloc | apply IsS116.drewN | apply IsS116.drew | apply IsS116.set_1), by repeat (first | exact HB.out | apply bA | apply bN | apply bD | refine bS ?_ (IsS116.ge HI0.out)), by repeat (first | exact HK.out | apply KeepBut.set_ | apply keep_drewN | apply keep_drew | apply keep_alloc)⟩

/-! ### spec_l20Near: function 92 -/
def spec_l20Near.j0 : Nat → List (S71) → Int → Bool → List Int → Int → Option (ByteArray × Int)
 | 0, _, _, _, _, _ => none
 | k + 1, x1, x2, x14, x1000, x1001 => if x14 = true then ((spec_l20Rd_pick.f k x1000 x1001 (x1.length : Int)).bind fun bt562 => (if 0 ≤ bt562.1 then (if bt562.1 < (x1.length : Int) then (some ((rd_T71 x1 bt562.1).f0, bt562.2)) else (none)) else (none))) else ((spec_l20Key.f k x1000 x1001 x2).bind fun bt565 => (some (bt565.1, bt565.2)))
def spec_l20Near.f (k : Nat) (s0_0 : List Int) (s0_1 : Int) (l1 : List (S71)) (a2 : Int) : Option (ByteArray × Int) := if (l1.length : Int) > 0 then ((spec_l20Rd_pick.f k s0_0 s0_1 2).bind fun bt560 => (spec_l20Near.j0 k l1 a2 (bt560.1 == 0) s0_0 bt560.2)) else (spec_l20Near.j0 k l1 a2 false s0_0 s0_1)
theorem spec_l20Near.mono_l : ∀ k, (∀ y0 y1 y2 y3 y4, LeO (spec_l20Near.j0 k y0 y1 y2 y3 y4) (spec_l20Near.j0 (k + 1) y0 y1 y2 y3 y4))
 | 0 => fun _ _ _ _ _ r h => by simp [spec_l20Near.j0] at h
 | k + 1 => by
  have ih0 := spec_l20Near.mono_l k
  ·intro y0 y1 y2 y3 y4
   unfold spec_l20Near.j0
   repeat' first
   | (with_reducible exact ih0 _ _ _ _ _)
   | (with_reducible exact spec_l20Key.mono _ _ _ _)
   | (with_reducible exact spec_l20Rd_pick.mono _ _ _ _)
   | (with_reducible exact LeO.refl _)
   | (with_reducible exact LeO.none _)
   | (with_reducible refine LeO.ite ?_ ?_)
   | (with_reducible refine LeO.bind ?_ (fun _ => ?_))
   | exact ih0 _ _ _ _ _
   | exact LeO.none _
   | refine LeO.ite ?_ ?_
   | refine LeO.bind ?_ (fun _ => ?_)
theorem spec_l20Near.mono : ∀ a0 a1 a2 a3 k, LeO (spec_l20Near.f k a0 a1 a2 a3) (spec_l20Near.f (k + 1) a0 a1 a2 a3) := by
 intro a0 a1 a2 a3 k
 have ih0 := spec_l20Near.mono_l k
 unfold spec_l20Near.f
 repeat' first
   | (with_reducible exact ih0 _ _ _ _ _)
   | (with_reducible exact spec_l20Key.mono _ _ _ _)
   | (with_reducible exact spec_l20Rd_pick.mono _ _ _ _)
   | (with_reducible exact LeO.refl _)
   | (with_reducible exact LeO.none _)
   | (with_reducible refine LeO.ite ?_ ?_)
   | (with_reducible refine LeO.bind ?_ (fun _ => ?_))
   | exact ih0 _ _ _ _ _
   | exact LeO.none _
   | refine LeO.ite ?_ ?_
   | refine LeO.bind ?_ (fun _ => ?_)
theorem spec_l20Near.calls (k : Nat) (g : Nat) (s0_0 : List Int) (s0_1 : Int) (A1 : Option Addr) (c1 : Nat) (l1 : List (S71)) (a2 : Int) (r1 : ByteArray) (r2 : Int) (w0 w : World) (hI : IsS116 w0 w g s0_0 s0_1) (hB : Below w0.heap.size w0 w) (hr1 : ∀ W_, KeepBut w W_ g none → Kd.C k71 W_ A1 l1.length l1) (hc1 : l1.length ≤ c1) (h : spec_l20Near.f k s0_0 s0_1 l1 a2 = some (r1, r2)) :
  Calls Try.prog 92 #[.pointer (some ⟨g, 0, none⟩), .slice A1 l1.length c1, .int .i64 a2] w fun e w' => e = .returned (.string r1) ∧ IsS116 w0 w' g s0_0 r2 ∧ Below w0.heap.size w0 w' ∧ KeepBut w w' g none := by
 have HR1 := ak hr1
 have HC1 := ak hc1
 clear hr1 hc1
 have HI0 := ak hI
 have HK := ak (KeepBut.refl w g none)
 have HL := ak hB.size
 clear hI
 have HW0 := ak hB.size
 have HB := ak hB
 clear hB
 have H : (if (l1.length : Int) > 0 then ((spec_l20Rd_pick.f k s0_0 s0_1 2).bind fun bt560 => (spec_l20Near.j0 k l1 a2 (bt560.1 == 0) s0_0 bt560.2)) else (spec_l20Near.j0 k l1 a2 false s0_0 s0_1)) = some (r1, r2) := h
 clear h
 have HC4 := ak H
 clear H
 go_enter Try.func92, Try.ntmps92
 go_upto_region 1 with (fail)
 go_cut [14] (fun v14 wc => ∃ (kq : Nat) (x14_3 : Bool) (x1001_3 : Int), v14 = .bool x14_3 ∧ Aside0 (spec_l20Near.j0 kq l1 a2 x14_3 s0_0 x1001_3 = some (r1, r2)) ∧ Aside0 (kq ≤ k) ∧ Aside0 (IsS116 w0 wc g s0_0 x1001_3) ∧ Aside0 (KeepBut w wc g none) ∧ Aside0 (Below w0.heap.size w0 wc))
 case first =>
  have H := HC4.out
  clear HC4
  by_cases c5 : (l1.length : Int) > 0
  ·rw [if_pos c5] at H
   have c5b0 : decide (0 < (l1.length : Int)) = true := decide_eq_true c5
   have c5b1 : decide (0 < l1.length) = true := decide_eq_true (by omega)
   clear c5
   (first | rw [c5b0] | (simp only [i64_w, i32_w]; rw [c5b0]) | skip)
   replace H := Option.bind_eq_some_iff.mp H
   obtain ⟨⟨t560, t561⟩, A60, H⟩ := H
   try dsimp only at H
   have A6 := ak A60
   clear A60
   have H' := ak H
   clear H
   go_wp2_with (first | (go_at_call 102; (with_reducible refine (spec_l20Rd_pick.calls k g s0_0 s0_1 2 t560 t561 w0 _ ?side1 ?side2 A6.out).mono ?_); (case side1 => repeat (first | exact HI0.out | apply IsS116.alloc | apply IsS116.drewN | apply IsS116.drew | apply IsS116.set_1)); (case side2 => repeat (first | exact HB.out | apply bA | apply bN | apply bD | refine bS ?_ (IsS116.ge HI0.out))); rintro e w7 ⟨rfl, hi, hb, hk⟩; replace HK := ak (KeepBut.trans (by repeat (first | exact HK.out | apply KeepBut.set_ | apply keep_drewN | apply keep_drew | apply keep_alloc)) hk (.inl rfl)); replace HB := ak (hb); replace HI0 := ak (hi); (try clear hb)))
   go_meet
   case rel => exact ⟨_, ((t560 == 0)), (t561), (by first | rfl | (simp; done) | (simp [bne]; done) | (simp [*]; done)), H', ⟨by first | omega | exact Nat.le_refl _⟩, ⟨by repeat (first | exact HI0.out | apply IsS116.alloc | apply IsS116.drewN | apply IsS116.drew | apply IsS116.set_1)⟩, ⟨by repeat (first | exact HK.out | apply KeepBut.set_ | apply keep_drewN | apply keep_drew | apply keep_alloc)⟩, ⟨by repeat (first | exact HB.out | apply bA | apply bN | apply bD | refine bS ?_ (IsS116.ge HI0.out))⟩⟩
  ·rw [if_neg c5] at H
   have c5b0 : decide (0 < (l1.length : Int)) = false := decide_eq_false c5
   have c5b1 : decide (0 < l1.length) = false := decide_eq_false (by omega)
   clear c5
   (first | rw [c5b0] | (simp only [i64_w, i32_w]; rw [c5b0]) | skip)
   have H' := ak H
   clear H
   go_wp2
   go_meet
   case rel => exact ⟨_, (false), (s0_1), (by first | rfl | (simp; done) | (simp [bne]; done) | (simp [*]; done)), H', ⟨by first | omega | exact Nat.le_refl _⟩, ⟨by repeat (first | exact HI0.out | apply IsS116.alloc | apply IsS116.drewN | apply IsS116.drew | apply IsS116.set_1)⟩, ⟨by repeat (first | exact HK.out | apply KeepBut.set_ | apply keep_drewN | apply keep_drew | apply keep_alloc)⟩, ⟨by repeat (first | exact HB.out | apply bA | apply bN | apply bD | refine bS ?_ (IsS116.ge HI0.out))⟩⟩
 case rest =>
  clear HC4
  try clear c1
  try clear p2
  try clear c5
  try clear c5b0
  try clear c5b1
  obtain ⟨kq, x14_3, x1001_3, rfl, HA, HJ3, HI0, HK, HB⟩ := hcut
  cases kq with
  | zero => exact absurd HA.out (by simp [spec_l20Near.j0])
  | succ kj3 =>
   have H := HA.out
   clear HA
   simp only [spec_l20Near.j0] at H
   by_cases c8 : x14_3 = true
   ·subst c8
    rw [if_pos rfl] at H
    replace H := Option.bind_eq_some_iff.mp H
    obtain ⟨⟨t562, t563⟩, A90, H⟩ := H
    try dsimp only at H
    have A9 := ak A90
    clear A90
    by_cases c10 : 0 ≤ t562
    ·rw [if_pos c10] at H
     have c10b0 : decide (0 ≤ t562) = true := decide_eq_true c10
     clear c10
     by_cases c11 : t562 < (l1.length : Int)
     ·rw [if_pos c11] at H
      have c11b0 : decide (t562 < (l1.length : Int)) = true := decide_eq_true c11
      clear c11
      simp only [Option.some.injEq, Prod.mk.injEq] at H
      obtain ⟨rfl, rfl⟩ := H
      go_wp2_with (first | ((with_reducible refine gate_callee (f := 102) rfl ?_); refine goesL_ (some 19) rfl rfl Try.func102 (by kernel_rfl) rfl #[.pointer (some ⟨g, 0, none⟩), .int .i64 (l1.length : Int)] rfl (by (try simp only [List.map_toArray, List.map_cons, List.map_nil]); first | done | rfl | (simp only [List.length_drop, List.length_take]; rfl)) ?_; (with_reducible refine (spec_l20Rd_pick.calls kj3 g s0_0 x1001_3 (l1.length : Int) t562 t563 w0 _ ?side1 ?side2 A9.out).mono ?_); (case side1 => repeat (first | exact HI0.out | apply IsS116.alloc | apply IsS116.drewN | apply IsS116.drew | apply IsS116.set_1)); (case side2 => repeat (first | exact HB.out | apply bA | apply bN | apply bD | refine bS ?_ (IsS116.ge HI0.out))); rintro e w12 ⟨rfl, hi, hb, hk⟩; refine ⟨_, rfl, ?_⟩; replace HK := ak (KeepBut.trans (by repeat (first | exact HK.out | apply KeepBut.set_ | apply keep_drewN | apply keep_drew | apply keep_alloc)) hk (.inl rfl)); replace HB := ak (hb); replace HI0 := ak (hi); (try clear hb); have p564 : 0 ≤ (t562 : Int) := of_decide_eq_true (by assumption); have q564 : t562 < (l1.length : Int) := of_decide_eq_true (by assumption); obtain ⟨ad564, e564, hx564_0, hx564_1⟩ := at_T71 (Kd.C_foot_now HR1.out HK.out) t562 p564 q564; cases e564; replace p564 := eq_true p564; replace q564 := eq_true q564))
      go_ret
      exact ⟨by first | rfl | (simp only [u8_w_, w64_u8_] <;> rfl) | (simp [errW_none, errW_some] <;> rfl) | (simp [*, errW_none, errW_some] <;> rfl), by repeat (first | exact HI0.out | apply IsS116.alloc | apply IsS116.drewN | apply IsS116.drew | apply IsS116.set_1), by repeat (first | exact HB.out | apply bA | apply bN | apply bD | refine bS ?_ (IsS116.ge HI0.out)), by repeat (first | exact HK.out | apply KeepBut.set_ | apply keep_drewN | apply keep_drew | apply keep_alloc)⟩
     ·rw [if_neg c11] at H
      exact absurd H (by simp)
    ·rw [if_neg c10] at H
     exact absurd H (by simp)
   ·replace c8 := Bool.eq_false_iff.mpr c8
    subst c8
    rw [if_neg (show ¬ (false = true) by decide)] at H
    replace H := Option.bind_eq_some_iff.mp H
    obtain ⟨⟨t565, t566⟩, A130, H⟩ := H
    try dsimp only at H
    have A13 := ak A130
    clear A130
    simp only [Option.some.injEq, Prod.mk.injEq] at H
    obtain ⟨rfl, rfl⟩ := H
    go_wp2_with (first | ((with_reducible refine gate_callee (f := 103) rfl ?_); refine goesL_ (some 25) rfl rfl Try.func103 (by kernel_rfl) rfl #[.pointer (some ⟨g, 0, none⟩), .int .i64 a2] rfl (by (try simp only [List.map_toArray, List.map_cons, List.map_nil]); first | done | rfl | (simp only [List.length_drop, List.length_take]; rfl)) ?_; (with_reducible refine (spec_l20Key.calls kj3 g s0_0 x1001_3 a2 t565 t566 w0 _ ?side1 ?side2 A13.out).mono ?_); (case side1 => repeat (first | exact HI0.out | apply IsS116.alloc | apply IsS116.drewN | apply IsS116.drew | apply IsS116.set_1)); (case side2 => repeat (first | exact HB.out | apply bA | apply bN | apply bD | refine bS ?_ (IsS116.ge HI0.out))); rintro e w14 ⟨rfl, hi, hb, hk⟩; refine ⟨_, rfl, ?_⟩; replace HK := ak (KeepBut.trans (by repeat (first | exact HK.out | apply KeepBut.set_ | apply keep_drewN | apply keep_drew | apply keep_alloc)) hk (.inl rfl)); replace HB := ak (hb); replace HI0 := ak (hi); (try clear hb)))
    go_ret
    exact ⟨by first | rfl | (simp only [u8_w_, w64_u8_] <;> rfl) | (simp [errW_none, errW_some] <;> rfl) | (simp [*, errW_none, errW_some] <;> rfl), by repeat (first | exact HI0.out | apply IsS116.alloc | apply IsS116.drewN | apply IsS116.drew | apply IsS116.set_1), by repeat (first | exact HB.out | apply bA | apply bN | apply bD | refine bS ?_ (IsS116.ge HI0.out)), by repeat (first | exact HK.out | apply KeepBut.set_ | apply keep_drewN | apply keep_drew | apply keep_alloc)⟩

end Go.Proofs.Ytebgpbcbbjpbfaa.PFnPageFind
