-- Written for this claim by a program of this session (wip/myprint in the proofs' repo)
import Derived.Test.YtengnnhehjcfhaaPFnPagesPutx0
import Derived.Test.YtengnnhehjcfhaaPFnPagesPutx2
import Derived.Test.YtengnnhehjcfhaaPFnPagesPutx7
import Derived.Test.YtengnnhehjcfhaaPFnPagesPutx8
import Derived.Test.YtengnnhehjcfhaaPFnPagesPutx9
import Derived.Test.YtengnnhehjcfhaaPFnPagesPutx10
import Derived.Test.YtengnnhehjcfhaaWZip
-- slim4
namespace Go.Proofs.Ytengnnhehjcfhaa.PFnPagesPut
open Go.RowKit Go.Proofs.YtengnnhehjcfhaaW.PrintWords Go.Proofs.YtengnnhehjcfhaaW.PrintLast Go.Proofs.YtengnnhehjcfhaaW.PrintMore
attribute [local go_sem] max2_int min2_int max_two min_two max_three min_three max_four min_four max2_strs min2_strs   -- for this text's walks alone
set_option linter.unusedVariables false
set_option linter.unusedSimpArgs false
set_option maxHeartbeats 8000000
set_option maxRecDepth 100000

/-! ### spec_l20Pairs: function 61 -/
mutual
def spec_l20Pairs.l0 : Nat → Int → List (S65) → Int → List Int → Int → Option ((List (S65)) × Int)
 | 0, _, _, _, _, _ => none
 | k + 1, x1, x5, x6, x1000, x1001 => if x6 > 0 then ((spec_l20Key.f k x1000 x1001 0).bind fun bt506 => ((spec_l20Value.f k x1000 bt506.2 0).bind fun bt508 => ((spec_PairPut.f k x5 bt506.1 bt508.1).bind fun bt510 => (spec_l20Pairs.l0 k x1 bt510.1 (wrap64 (x6 - 1)) x1000 bt508.2)))) else ((spec_l20Rd_pick.f k x1000 x1001 16).bind fun bt514 => (if bt514.1 = 15 then (spec_l20Pairs.l1 k x1 x5 0 x1000 bt514.2) else (spec_l20Pairs.j3 k x1 x5 x1000 bt514.2)))
def spec_l20Pairs.j3 : Nat → Int → List (S65) → List Int → Int → Option ((List (S65)) × Int)
 | 0, _, _, _, _ => none
 | k + 1, x1, x5, x1000, x1001 => (spec_l20Rd_odd.f k x1000 x1001 x1).bind fun bt521 => (if bt521.1 = true then ((some (([(⟨(⟨#[]⟩ : ByteArray), 0⟩ : S65), (⟨(⟨#[122, 122, 122, 122]⟩ : ByteArray), (-1)⟩ : S65), (⟨(⟨#[122, 122, 122, 122]⟩ : ByteArray), 1000⟩ : S65), (⟨(⟨#[97]⟩ : ByteArray), 1⟩ : S65), (⟨(⟨#[65]⟩ : ByteArray), 0⟩ : S65)] : List (S65)) : List (S65))).bind fun y523 => ((spec_l20Rd_pick.f k x1000 bt521.2 5).bind fun bt526 => (if 0 ≤ bt526.1 then (if bt526.1 < (y523.length : Int) then (if x5.length < 5864062014805 then (some ((x5 ++ [(⟨(rd_T65 y523 bt526.1).f0, (rd_T65 y523 bt526.1).f1⟩ : S65)]), bt526.2)) else (none)) else (none)) else (none)))) else (some (x5, bt521.2)))
def spec_l20Pairs.l1 : Nat → Int → List (S65) → Int → List Int → Int → Option ((List (S65)) × Int)
 | 0, _, _, _, _, _ => none
 | k + 1, x1, x5, x9, x1000, x1001 => if (x5.length : Int) < 48 then (spec_l20Pairs.j2 k x1 x5 x9 (decide (x9 < 200)) x1000 x1001) else (spec_l20Pairs.j2 k x1 x5 x9 false x1000 x1001)
def spec_l20Pairs.j2 : Nat → Int → List (S65) → Int → Bool → List Int → Int → Option ((List (S65)) × Int)
 | 0, _, _, _, _, _, _ => none
 | k + 1, x1, x5, x9, x38, x1000, x1001 => if x38 = true then ((spec_KeyAt.f k (wrap64 (x9 * 9))).bind fun t516 => ((spec_PairPut.f k x5 t516 x9).bind fun bt517 => (spec_l20Pairs.l1 k x1 bt517.1 (wrap64 (x9 + 1)) x1000 x1001))) else (spec_l20Pairs.j3 k x1 x5 x1000 x1001)
end
def spec_l20Pairs.f (k : Nat) (s0_0 : List Int) (s0_1 : Int) (a1 : Int) : Option ((List (S65)) × Int) := (spec_l20Rd_pick.f k s0_0 s0_1 9).bind fun bt504 => (spec_l20Pairs.l0 k a1 (([] : List (S65))) bt504.1 s0_0 bt504.2)
theorem spec_l20Pairs.mono_l : ∀ k, (∀ y0 y1 y2 y3 y4, LeO (spec_l20Pairs.l0 k y0 y1 y2 y3 y4) (spec_l20Pairs.l0 (k + 1) y0 y1 y2 y3 y4)) ∧ (∀ y0 y1 y2 y3, LeO (spec_l20Pairs.j3 k y0 y1 y2 y3) (spec_l20Pairs.j3 (k + 1) y0 y1 y2 y3)) ∧ (∀ y0 y1 y2 y3 y4, LeO (spec_l20Pairs.l1 k y0 y1 y2 y3 y4) (spec_l20Pairs.l1 (k + 1) y0 y1 y2 y3 y4)) ∧ (∀ y0 y1 y2 y3 y4 y5, LeO (spec_l20Pairs.j2 k y0 y1 y2 y3 y4 y5) (spec_l20Pairs.j2 (k + 1) y0 y1 y2 y3 y4 y5))
 | 0 => ⟨fun _ _ _ _ _ r h => by simp [spec_l20Pairs.l0] at h, fun _ _ _ _ r h => by simp [spec_l20Pairs.j3] at h, fun _ _ _ _ _ r h => by simp [spec_l20Pairs.l1] at h, fun _ _ _ _ _ _ r h => by simp [spec_l20Pairs.j2] at h⟩
 | k + 1 => by
  obtain ⟨ih0, ih1, ih2, ih3⟩ := spec_l20Pairs.mono_l k
  refine ⟨?_, ?_, ?_, ?_⟩
  ·intro y0 y1 y2 y3 y4
   unfold spec_l20Pairs.l0
   repeat' first
   | (with_reducible exact ih0 _ _ _ _ _)
   | (with_reducible exact ih1 _ _ _ _)
   | (with_reducible exact ih2 _ _ _ _ _)
   | (with_reducible exact ih3 _ _ _ _ _ _)
   | (with_reducible exact spec_KeyAt.mono _ _)
   | (with_reducible exact spec_PairPut.mono _ _ _ _)
   | (with_reducible exact spec_l20Key.mono _ _ _ _)
   | (with_reducible exact spec_l20Rd_odd.mono _ _ _ _)
   | (with_reducible exact spec_l20Rd_pick.mono _ _ _ _)
   | (with_reducible exact spec_l20Value.mono _ _ _ _)
   | (with_reducible exact LeO.refl _)
   | (with_reducible exact LeO.none _)
   | (with_reducible refine LeO.ite ?_ ?_)
   | (with_reducible refine LeO.bind ?_ (fun _ => ?_))
   | exact ih0 _ _ _ _ _
   | exact ih1 _ _ _ _
   | exact ih2 _ _ _ _ _
   | exact ih3 _ _ _ _ _ _
   | exact LeO.none _
   | refine LeO.ite ?_ ?_
   | refine LeO.bind ?_ (fun _ => ?_)
  ·intro y0 y1 y2 y3
   unfold spec_l20Pairs.j3
   repeat' first
   | (with_reducible exact ih0 _ _ _ _ _)
   | (with_reducible exact ih1 _ _ _ _)
   | (with_reducible exact ih2 _ _ _ _ _)
   | (with_reducible exact ih3 _ _ _ _ _ _)
   | (with_reducible exact spec_KeyAt.mono _ _)
   | (with_reducible exact spec_PairPut.mono _ _ _ _)
   | (with_reducible exact spec_l20Key.mono _ _ _ _)
   | (with_reducible exact spec_l20Rd_odd.mono _ _ _ _)
   | (with_reducible exact spec_l20Rd_pick.mono _ _ _ _)
   | (with_reducible exact spec_l20Value.mono _ _ _ _)
   | (with_reducible exact LeO.refl _)
   | (with_reducible exact LeO.none _)
   | (with_reducible refine LeO.ite ?_ ?_)
   | (with_reducible refine LeO.bind ?_ (fun _ => ?_))
   | exact ih0 _ _ _ _ _
   | exact ih1 _ _ _ _
   | exact ih2 _ _ _ _ _
   | exact ih3 _ _ _ _ _ _
   | exact LeO.none _
   | refine LeO.ite ?_ ?_
   | refine LeO.bind ?_ (fun _ => ?_)
  ·intro y0 y1 y2 y3 y4
   unfold spec_l20Pairs.l1
   repeat' first
   | (with_reducible exact ih0 _ _ _ _ _)
   | (with_reducible exact ih1 _ _ _ _)
   | (with_reducible exact ih2 _ _ _ _ _)
   | (with_reducible exact ih3 _ _ _ _ _ _)
   | (with_reducible exact spec_KeyAt.mono _ _)
   | (with_reducible exact spec_PairPut.mono _ _ _ _)
   | (with_reducible exact spec_l20Key.mono _ _ _ _)
   | (with_reducible exact spec_l20Rd_odd.mono _ _ _ _)
   | (with_reducible exact spec_l20Rd_pick.mono _ _ _ _)
   | (with_reducible exact spec_l20Value.mono _ _ _ _)
   | (with_reducible exact LeO.refl _)
   | (with_reducible exact LeO.none _)
   | (with_reducible refine LeO.ite ?_ ?_)
   | (with_reducible refine LeO.bind ?_ (fun _ => ?_))
   | exact ih0 _ _ _ _ _
   | exact ih1 _ _ _ _
   | exact ih2 _ _ _ _ _
   | exact ih3 _ _ _ _ _ _
   | exact LeO.none _
   | refine LeO.ite ?_ ?_
   | refine LeO.bind ?_ (fun _ => ?_)
  ·intro y0 y1 y2 y3 y4 y5
   unfold spec_l20Pairs.j2
   repeat' first
   | (with_reducible exact ih0 _ _ _ _ _)
   | (with_reducible exact ih1 _ _ _ _)
   | (with_reducible exact ih2 _ _ _ _ _)
   | (with_reducible exact ih3 _ _ _ _ _ _)
   | (with_reducible exact spec_KeyAt.mono _ _)
   | (with_reducible exact spec_PairPut.mono _ _ _ _)
   | (with_reducible exact spec_l20Key.mono _ _ _ _)
   | (with_reducible exact spec_l20Rd_odd.mono _ _ _ _)
   | (with_reducible exact spec_l20Rd_pick.mono _ _ _ _)
   | (with_reducible exact spec_l20Value.mono _ _ _ _)
   | (with_reducible exact LeO.refl _)
   | (with_reducible exact LeO.none _)
   | (with_reducible refine LeO.ite ?_ ?_)
   | (with_reducible refine LeO.bind ?_ (fun _ => ?_))
   | exact ih0 _ _ _ _ _
   | exact ih1 _ _ _ _
   | exact ih2 _ _ _ _ _
   | exact ih3 _ _ _ _ _ _
   | exact LeO.none _
   | refine LeO.ite ?_ ?_
   | refine LeO.bind ?_ (fun _ => ?_)
theorem spec_l20Pairs.mono : ∀ a0 a1 a2 k, LeO (spec_l20Pairs.f k a0 a1 a2) (spec_l20Pairs.f (k + 1) a0 a1 a2) := by
 intro a0 a1 a2 k
 obtain ⟨ih0, ih1, ih2, ih3⟩ := spec_l20Pairs.mono_l k
 unfold spec_l20Pairs.f
 repeat' first
   | (with_reducible exact ih0 _ _ _ _ _)
   | (with_reducible exact ih1 _ _ _ _)
   | (with_reducible exact ih2 _ _ _ _ _)
   | (with_reducible exact ih3 _ _ _ _ _ _)
   | (with_reducible exact spec_KeyAt.mono _ _)
   | (with_reducible exact spec_PairPut.mono _ _ _ _)
   | (with_reducible exact spec_l20Key.mono _ _ _ _)
   | (with_reducible exact spec_l20Rd_odd.mono _ _ _ _)
   | (with_reducible exact spec_l20Rd_pick.mono _ _ _ _)
   | (with_reducible exact spec_l20Value.mono _ _ _ _)
   | (with_reducible exact LeO.refl _)
   | (with_reducible exact LeO.none _)
   | (with_reducible refine LeO.ite ?_ ?_)
   | (with_reducible refine LeO.bind ?_ (fun _ => ?_))
   | exact ih0 _ _ _ _ _
   | exact ih1 _ _ _ _
   | exact ih2 _ _ _ _ _
   | exact ih3 _ _ _ _ _ _
   | exact LeO.none _
   | refine LeO.ite ?_ ?_
   | refine LeO.bind ?_ (fun _ => ?_)
theorem spec_l20Pairs.calls (k : Nat) (g : Nat) (s0_0 : List Int) (s0_1 : Int) (a1 : Int) (r1 : List (S65)) (r2 : Int) (w0 w : World) (hI : IsS79 w0 w g s0_0 s0_1) (hB : Below w0.heap.size w0 w) (h : spec_l20Pairs.f k s0_0 s0_1 a1 = some (r1, r2)) :
  Calls Try.prog 61 #[.pointer (some ⟨g, 0, none⟩), .int .i64 a1] w fun e w' => ∃ v0_ : Value, e = .returned (v0_) ∧ Kd.R k65 65 w' w.heap.size (fun _ => True) v0_ r1 ∧ IsS79 w0 w' g s0_0 r2 ∧ Below w0.heap.size w0 w' ∧ KeepBut w w' g none := by
 have hu65 := Try.underlying65
 have HI0 := ak hI
 have HK := ak (KeepBut.refl w g none)
 have HL := ak hB.size
 clear hI
 have HW0 := ak hB.size
 have HB := ak hB
 clear hB
 have H : ((spec_l20Rd_pick.f k s0_0 s0_1 9).bind fun bt504 => (spec_l20Pairs.l0 k a1 (([] : List (S65))) bt504.1 s0_0 bt504.2)) = some (r1, r2) := h
 clear h
 obtain ⟨y501, hy501⟩ : ∃ y_ : List (S65), y_ = (([] : List (S65))) := ⟨_, rfl⟩
 replace H : ((spec_l20Rd_pick.f k s0_0 s0_1 9).bind fun bt504 => (spec_l20Pairs.l0 k a1 y501 bt504.1 s0_0 bt504.2)) = some (r1, r2) := by first | (rw [hy501]; exact H) | exact H
 have Ny501 := ak hy501
 clear hy501
 replace H := Option.bind_eq_some_iff.mp H
 obtain ⟨⟨t504, t505⟩, A30, H⟩ := H
 try dsimp only at H
 have A3 := ak A30
 clear A30
 have H' := ak H
 clear H
 go_enter Try.func61, Try.ntmps61
 go_wp2_with (first | ((with_reducible refine gate_dst (N := 12) rfl ?_); refine Kd.R_lit k65 _ 65 ?hg (N := 12) ?hd (xs := ([] : List (S65))) (inner := []) (ok := fun _ => True) (okp := fun _ => True) ?hr ?hp (fun _ hk => hk) trivial (Below.refl _ _) (Nat.le_refl _) (by simp) ?_; (case hd => rfl); (case hg => rfl); (case hr => go_simp <;> rfl); (case hp => exact (Reps.none _ _)); intro v502 w4 ho5 hb hg_ hnew_; clear hg_ hnew_; (first | rw [← Ny501.out] at ho5 | (simp only [Int.reduceToNat] at ho5; rw [← Ny501.out] at ho5)); have HO503 := ak (Kd.R_lower ho5 (keep_size (w := w) (g := g) (row := none) (by repeat (first | exact HK.out | apply KeepBut.set_ | apply keep_drewN | apply keep_drew | apply keep_alloc)))); replace HK := ak (KeepBut.trans (by repeat (first | exact HK.out | apply KeepBut.set_ | apply keep_drewN | apply keep_drew | apply keep_alloc)) (KeepBut.of_below hb g none) (.inl rfl)); replace HB := ak (below_step (by repeat (first | exact HB.out | apply bA | apply bN | apply bD | refine bS ?_ (IsS79.ge HI0.out))) hb); replace HI0 := ak (IsS79.below (by repeat (first | exact HI0.out | apply IsS79.alloc | apply IsS79.drewN | apply IsS79.drew | apply IsS79.set_1)) hb); clear hb ho5) | ((with_reducible refine gate_callee (f := 62) rfl ?_); refine gL (some 14) Try.func62 #[.pointer (some ⟨g, 0, none⟩), .int .i64 9] ?_; (with_reducible refine (spec_l20Rd_pick.calls k g s0_0 s0_1 9 t504 t505 w0 _ ?side1 ?side2 A3.out).mono ?_); (case side1 => repeat (first | exact HI0.out | apply IsS79.alloc | apply IsS79.drewN | apply IsS79.drew | apply IsS79.set_1)); (case side2 => repeat (first | exact HB.out | apply bA | apply bN | apply bD | refine bS ?_ (IsS79.ge HI0.out))); rintro e w6 ⟨rfl, hi, hb, hk⟩; refine ⟨_, rfl, ?_⟩; replace HO503 := ak (Kd.R_mono (Kd.R_keep (IsS79.apart (show IsS79 w0 _ g s0_0 s0_1 from by repeat (first | exact HI0.out | apply IsS79.alloc | apply IsS79.drewN | apply IsS79.drew | apply IsS79.set_1)) (hR HO503.out) (by decide)) hk (fun _ h => h.2)) (fun _ h => h.1)); replace HK := ak (KeepBut.trans (by repeat (first | exact HK.out | apply KeepBut.set_ | apply keep_drewN | apply keep_drew | apply keep_alloc)) hk (.inl rfl)); replace HB := ak (hb); replace HI0 := ak (hi); (try clear hb)))
 go_loopg [5, 6] k (fun kq v5 v6 w' => ∃ (x5_1 : List (S65)) (x6_1 : Int) (x1001_1 : Int), v6 = .int .i64 x6_1 ∧ Aside0 (spec_l20Pairs.l0 kq a1 x5_1 x6_1 s0_0 x1001_1 = some (r1, r2)) ∧ Aside0 (kq ≤ k) ∧ Aside0 (Kd.R k65 65 w' w.heap.size (fun _ => True) v5 x5_1) ∧ Aside0 (IsS79 w0 w' g s0_0 x1001_1) ∧ Aside0 (KeepBut w w' g none) ∧ Aside0 (Below w0.heap.size w0 w'))
 case atStart => exact ⟨(y501), (t504), (t505), (by first | rfl | (simp [*]; done)), H', ⟨Nat.le_refl _⟩, ⟨by (with_reducible repeat (first | apply Kd.R_alloc | apply Kd.R_drewN | apply Kd.R_drew)); exact HO503.out⟩, ⟨by repeat (first | exact HI0.out | apply IsS79.alloc | apply IsS79.drewN | apply IsS79.drew | apply IsS79.set_1)⟩, ⟨by repeat (first | exact HK.out | apply KeepBut.set_ | apply keep_drewN | apply keep_drew | apply keep_alloc)⟩, ⟨by repeat (first | exact HB.out | apply bA | apply bN | apply bD | refine bS ?_ (IsS79.ge HI0.out))⟩⟩
 case round =>
  clear H'
  try clear p2
  try clear c6
  obtain ⟨x5_1, x6_1, x1001_1, rfl, HA, HK1, HO_5, HI0, HK, HB⟩ := hrel
  cases gk with
  | zero => exact absurd HA.out (by simp [spec_l20Pairs.l0])
  | succ k1 =>
   have H := HA.out
   clear HA
   simp only [spec_l20Pairs.l0] at H
   by_cases c7 : x6_1 > 0
   ·rw [if_pos c7] at H
    have c7b0 : decide (0 < x6_1) = true := decide_eq_true c7
    clear c7
    replace H := Option.bind_eq_some_iff.mp H
    obtain ⟨⟨t506, t507⟩, A80, H⟩ := H
    try dsimp only at H
    have A8 := ak A80
    clear A80
    replace H := Option.bind_eq_some_iff.mp H
    obtain ⟨⟨t508, t509⟩, A90, H⟩ := H
    try dsimp only at H
    have A9 := ak A90
    clear A90
    replace H := Option.bind_eq_some_iff.mp H
    obtain ⟨⟨t510, t511⟩, A100, H⟩ := H
    try dsimp only at H
    have A10 := ak A100
    clear A100
    have H' := ak H
    clear H
    go_wp2_with (first | ((with_reducible refine gate_callee (f := 64) rfl ?_); refine gL (some 22) Try.func64 #[.pointer (some ⟨g, 0, none⟩), .int .i64 0] ?_; (with_reducible refine (spec_l20Key.calls k1 g s0_0 x1001_1 0 t506 t507 w0 _ ?side1 ?side2 A8.out).mono ?_); (case side1 => repeat (first | exact HI0.out | apply IsS79.alloc | apply IsS79.drewN | apply IsS79.drew | apply IsS79.set_1)); (case side2 => repeat (first | exact HB.out | apply bA | apply bN | apply bD | refine bS ?_ (IsS79.ge HI0.out))); rintro e w11 ⟨rfl, hi, hb, hk⟩; refine ⟨_, rfl, ?_⟩; replace HO_5 := ak (Kd.R_mono (Kd.R_keep (IsS79.apart (show IsS79 w0 _ g s0_0 x1001_1 from by repeat (first | exact HI0.out | apply IsS79.alloc | apply IsS79.drewN | apply IsS79.drew | apply IsS79.set_1)) (hR HO_5.out) (by decide)) hk (fun _ h => h.2)) (fun _ h => h.1)); replace HK := ak (KeepBut.trans (by repeat (first | exact HK.out | apply KeepBut.set_ | apply keep_drewN | apply keep_drew | apply keep_alloc)) hk (.inl rfl)); replace HB := ak (hb); replace HI0 := ak (hi); (try clear hb)) | ((with_reducible refine gate_callee (f := 42) rfl ?_); refine gL (some 24) Try.func42 #[.pointer (some ⟨g, 0, none⟩), .int .i64 0] ?_; (with_reducible refine (spec_l20Value.calls k1 g s0_0 t507 0 t508 t509 w0 _ ?side1 ?side2 A9.out).mono ?_); (case side1 => repeat (first | exact HI0.out | apply IsS79.alloc | apply IsS79.drewN | apply IsS79.drew | apply IsS79.set_1)); (case side2 => repeat (first | exact HB.out | apply bA | apply bN | apply bD | refine bS ?_ (IsS79.ge HI0.out))); rintro e w12 ⟨rfl, hi, hb, hk⟩; refine ⟨_, rfl, ?_⟩; replace HO_5 := ak (Kd.R_mono (Kd.R_keep (IsS79.apart (show IsS79 w0 _ g s0_0 t507 from by repeat (first | exact HI0.out | apply IsS79.alloc | apply IsS79.drewN | apply IsS79.drew | apply IsS79.set_1)) (hR HO_5.out) (by decide)) hk (fun _ h => h.2)) (fun _ h => h.1)); replace HK := ak (KeepBut.trans (by repeat (first | exact HK.out | apply KeepBut.set_ | apply keep_drewN | apply keep_drew | apply keep_alloc)) hk (.inl rfl)); replace HB := ak (hb); replace HI0 := ak (hi); (try clear hb); obtain ⟨Ao13, co13, eo13⟩ := Kd.R_slice HO_5.out; subst eo13) | ((with_reducible refine gate_callee (f := 49) rfl ?_); refine gL (some 25) Try.func49 #[.slice Ao13 x5_1.length co13, .string t506, .int .i64 t508] ?_; (with_reducible refine (spec_PairPut.calls k1 _ _ x5_1 t506 t508 t510 t511 _ ?side1 ?side2 A10.out).mono ?_); (case side1 => exact hC (Kd.R_reads' HO_5.out).2.2); (case side2 => exact (Kd.R_reads' HO_5.out).2.1); rintro e w14 ⟨v512, rfl, ho0, hb⟩; refine ⟨_, rfl, ?_⟩; have HO513 := ak (Kd.R_lower (Kd.R_new' ho0 (Kd.R_lt (hR HO_5.out))) (keep_size (w := w) (g := g) (row := none) (by repeat (first | exact HK.out | apply KeepBut.set_ | apply keep_drewN | apply keep_drew | apply keep_alloc)))); replace HO_5 := ak (Kd.R_elder' (hR HO_5.out) (Kd.R_base ho0) hb); replace HK := ak (KeepBut.trans (by repeat (first | exact HK.out | apply KeepBut.set_ | apply keep_drewN | apply keep_drew | apply keep_alloc)) (KeepBut.of_below hb g none) (.inl rfl)); replace HB := ak (below_step (by repeat (first | exact HB.out | apply bA | apply bN | apply bD | refine bS ?_ (IsS79.ge HI0.out))) hb); replace HI0 := ak (IsS79.below (by repeat (first | exact HI0.out | apply IsS79.alloc | apply IsS79.drewN | apply IsS79.drew | apply IsS79.set_1)) hb); (try clear hb); (try clear ho0)))
    go_roundg k1
    case measure => have := HK1.out; omega
    case rel => exact ⟨(t510), (wrap64 (x6_1 - 1)), (t509), (by first | rfl | (simp [*]; done)), H', ⟨by have := HK1.out; omega⟩, ⟨by (with_reducible repeat (first | apply Kd.R_alloc | apply Kd.R_drewN | apply Kd.R_drew)); exact Kd.R_mono HO513.out (fun _ hk => trivial)⟩, ⟨by repeat (first | exact HI0.out | apply IsS79.alloc | apply IsS79.drewN | apply IsS79.drew | apply IsS79.set_1)⟩, ⟨by repeat (first | exact HK.out | apply KeepBut.set_ | apply keep_drewN | apply keep_drew | apply keep_alloc)⟩, ⟨by repeat (first | exact HB.out | apply bA | apply bN | apply bD | refine bS ?_ (IsS79.ge HI0.out))⟩⟩
   ·rw [if_neg c7] at H
    have c7b0 : decide (0 < x6_1) = false := decide_eq_false c7
    clear c7
    replace H := Option.bind_eq_some_iff.mp H
    obtain ⟨⟨t514, t515⟩, A150, H⟩ := H
    try dsimp only at H
    have A15 := ak A150
    clear A150
    have HC16 := ak H
    clear H
    go_upto_if 31 with (first | ((with_reducible refine gate_callee (f := 62) rfl ?_); refine gL (some 30) Try.func62 #[.pointer (some ⟨g, 0, none⟩), .int .i64 16] ?_; (with_reducible refine (spec_l20Rd_pick.calls k1 g s0_0 x1001_1 16 t514 t515 w0 _ ?side1 ?side2 A15.out).mono ?_); (case side1 => repeat (first | exact HI0.out | apply IsS79.alloc | apply IsS79.drewN | apply IsS79.drew | apply IsS79.set_1)); (case side2 => repeat (first | exact HB.out | apply bA | apply bN | apply bD | refine bS ?_ (IsS79.ge HI0.out))); rintro e w17 ⟨rfl, hi, hb, hk⟩; refine ⟨_, rfl, ?_⟩; replace HO_5 := ak (Kd.R_mono (Kd.R_keep (IsS79.apart (show IsS79 w0 _ g s0_0 x1001_1 from by repeat (first | exact HI0.out | apply IsS79.alloc | apply IsS79.drewN | apply IsS79.drew | apply IsS79.set_1)) (hR HO_5.out) (by decide)) hk (fun _ h => h.2)) (fun _ h => h.1)); replace HK := ak (KeepBut.trans (by repeat (first | exact HK.out | apply KeepBut.set_ | apply keep_drewN | apply keep_drew | apply keep_alloc)) hk (.inl rfl)); replace HB := ak (hb); replace HI0 := ak (hi); (try clear hb)))
    (try simp only [Act.put, lT, lZ, lS])
    go_cut [5] (fun v5 wc => ∃ (kq : Nat) (x5_15 : List (S65)), Aside0 (spec_l20Pairs.j3 kq a1 x5_15 s0_0 t515 = some (r1, r2)) ∧ Aside0 (kq ≤ k1) ∧ Aside0 (Kd.R k65 65 wc w.heap.size (fun _ => True) v5 x5_15) ∧ Aside0 (IsS79 w0 wc g s0_0 t515) ∧ Aside0 (KeepBut w wc g none) ∧ Aside0 (Below w0.heap.size w0 wc))
    case first =>
     have H := HC16.out
     clear HC16
     by_cases c18 : t514 = 15
     ·rw [if_pos c18] at H
      have c18b0 : (t514 == 15) = true := beq_iff_eq.mpr c18
      have c18b1 : (t514 != 15) = false := bne_eq_false_iff_eq.mpr c18
      clear c18
      (first | rw [c18b0] | (simp only [i64_w, i32_w]; rw [c18b0]) | skip)
      have H' := ak H
      clear H
      go_wp2
      go_loopg [5, 9] k1 (fun kq v5 v9 w' => ∃ (x5_2 : List (S65)) (x9_2 : Int), v9 = .int .i64 x9_2 ∧ Aside0 (spec_l20Pairs.l1 kq a1 x5_2 x9_2 s0_0 t515 = some (r1, r2)) ∧ Aside0 (kq ≤ k1) ∧ Aside0 (Kd.R k65 65 w' w.heap.size (fun _ => True) v5 x5_2) ∧ Aside0 (IsS79 w0 w' g s0_0 t515) ∧ Aside0 (KeepBut w w' g none) ∧ Aside0 (Below w0.heap.size w0 w'))
      case atStart => exact ⟨(x5_1), (0), (by first | rfl | (simp [*]; done)), H', ⟨Nat.le_refl _⟩, ⟨by (with_reducible repeat (first | apply Kd.R_alloc | apply Kd.R_drewN | apply Kd.R_drew)); exact HO_5.out⟩, ⟨by repeat (first | exact HI0.out | apply IsS79.alloc | apply IsS79.drewN | apply IsS79.drew | apply IsS79.set_1)⟩, ⟨by repeat (first | exact HK.out | apply KeepBut.set_ | apply keep_drewN | apply keep_drew | apply keep_alloc)⟩, ⟨by repeat (first | exact HB.out | apply bA | apply bN | apply bD | refine bS ?_ (IsS79.ge HI0.out))⟩⟩
      case round =>
       clear H'
       try clear c1
       try clear p2
       try clear c4
       try clear c6
       try clear p6
       try clear c7
       try clear c7b0
       try clear c18
       try clear c18b0
       try clear c18b1
       try clear p2
       obtain ⟨x5_2, x9_2, rfl, HA, HK2, HO_5, HI0, HK, HB⟩ := hrel
       cases gk with
       | zero => exact absurd HA.out (by simp [spec_l20Pairs.l1])
       | succ k2 =>
        have H := HA.out
        clear HA
        simp only [spec_l20Pairs.l1] at H
        have HC19 := ak H
        clear H
        go_upto_region 9 with (fail)
        go_cut [38] (fun v38 wc => ∃ (kq : Nat) (x38_18 : Bool), v38 = .bool x38_18 ∧ Aside0 (spec_l20Pairs.j2 kq a1 x5_2 x9_2 x38_18 s0_0 t515 = some (r1, r2)) ∧ Aside0 (kq ≤ k2) ∧ Aside0 (Kd.R k65 65 wc w.heap.size (fun _ => True) u5 x5_2) ∧ Aside0 (IsS79 w0 wc g s0_0 t515) ∧ Aside0 (KeepBut w wc g none) ∧ Aside0 (Below w0.heap.size w0 wc))
        case first =>
         have H := HC19.out
         clear HC19
         by_cases c20 : (x5_2.length : Int) < 48
         ·rw [if_pos c20] at H
          have c20b0 : decide ((x5_2.length : Int) < 48) = true := decide_eq_true c20
          have c20b1 : decide (x5_2.length < 48) = true := decide_eq_true (by omega)
          clear c20
          (first | rw [c20b0] | (simp only [i64_w, i32_w]; rw [c20b0]) | skip)
          have H' := ak H
          clear H
          obtain ⟨Ao21, co21, eo21⟩ := Kd.R_slice HO_5.out
          subst eo21
          go_wp2
          go_meet
          case rel => exact ⟨_, (decide (x9_2 < 200)), (by first | rfl | (simp [*]; done)), H', ⟨by have := HK1.out; have := HK2.out; first | omega | exact Nat.le_refl _⟩, ⟨by (with_reducible repeat (first | apply Kd.R_alloc | apply Kd.R_drewN | apply Kd.R_drew)); exact HO_5.out⟩, ⟨by repeat (first | exact HI0.out | apply IsS79.alloc | apply IsS79.drewN | apply IsS79.drew | apply IsS79.set_1)⟩, ⟨by repeat (first | exact HK.out | apply KeepBut.set_ | apply keep_drewN | apply keep_drew | apply keep_alloc)⟩, ⟨by repeat (first | exact HB.out | apply bA | apply bN | apply bD | refine bS ?_ (IsS79.ge HI0.out))⟩⟩
         ·rw [if_neg c20] at H
          have c20b0 : decide ((x5_2.length : Int) < 48) = false := decide_eq_false c20
          have c20b1 : decide (x5_2.length < 48) = false := decide_eq_false (by omega)
          clear c20
          (first | rw [c20b0] | (simp only [i64_w, i32_w]; rw [c20b0]) | skip)
          have H' := ak H
          clear H
          obtain ⟨Ao22, co22, eo22⟩ := Kd.R_slice HO_5.out
          subst eo22
          go_wp2
          go_meet
          case rel => exact ⟨_, (false), (by first | rfl | (simp [*]; done)), H', ⟨by have := HK1.out; have := HK2.out; first | omega | exact Nat.le_refl _⟩, ⟨by (with_reducible repeat (first | apply Kd.R_alloc | apply Kd.R_drewN | apply Kd.R_drew)); exact HO_5.out⟩, ⟨by repeat (first | exact HI0.out | apply IsS79.alloc | apply IsS79.drewN | apply IsS79.drew | apply IsS79.set_1)⟩, ⟨by repeat (first | exact HK.out | apply KeepBut.set_ | apply keep_drewN | apply keep_drew | apply keep_alloc)⟩, ⟨by repeat (first | exact HB.out | apply bA | apply bN | apply bD | refine bS ?_ (IsS79.ge HI0.out))⟩⟩
        case rest =>
         clear HC19
         try clear c1
         try clear c2
         try clear p2
         try clear c4
         try clear c6
         try clear p6
         try clear c7
         try clear c7b0
         try clear c18
         try clear c18b0
         try clear c18b1
         try clear c20
         try clear c20b0
         try clear c20b1
         try clear p2
         try clear p6
         obtain ⟨kq, x38_18, rfl, HA, HJ18, HO_5, HI0, HK, HB⟩ := hcut
         cases kq with
         | zero => exact absurd HA.out (by simp [spec_l20Pairs.j2])
         | succ kj18 =>
          have H := HA.out
          clear HA
          simp only [spec_l20Pairs.j2] at H
          by_cases c23 : x38_18 = true
          ·subst c23
           rw [if_pos rfl] at H
           replace H := Option.bind_eq_some_iff.mp H
           obtain ⟨t516, A240, H⟩ := H
           try dsimp only at H
           have A24 := ak A240
           clear A240
           replace H := Option.bind_eq_some_iff.mp H
           obtain ⟨⟨t517, t518⟩, A250, H⟩ := H
           try dsimp only at H
           have A25 := ak A250
           clear A250
           have H' := ak H
           clear H
           go_wp2_with (first | ((with_reducible refine gate_callee (f := 72) rfl ?_); refine gL (some 45) Try.func72 #[.int .i64 (wrap64 (x9_2 * 9))] ?_; (with_reducible refine (spec_KeyAt.calls kj18 (wrap64 (x9_2 * 9)) t516 _ A24.out).mono ?_); rintro e w26 ⟨rfl, hb⟩; refine ⟨_, rfl, ?_⟩; replace HO_5 := ak (Kd.R_below (hR HO_5.out) hb); replace HK := ak (KeepBut.trans (by repeat (first | exact HK.out | apply KeepBut.set_ | apply keep_drewN | apply keep_drew | apply keep_alloc)) (KeepBut.of_below hb g none) (.inl rfl)); replace HB := ak (below_step (by repeat (first | exact HB.out | apply bA | apply bN | apply bD | refine bS ?_ (IsS79.ge HI0.out))) hb); replace HI0 := ak (IsS79.below (by repeat (first | exact HI0.out | apply IsS79.alloc | apply IsS79.drewN | apply IsS79.drew | apply IsS79.set_1)) hb); (try clear hb); obtain ⟨Ao27, co27, eo27⟩ := Kd.R_slice HO_5.out; subst eo27) | ((with_reducible refine gate_callee (f := 49) rfl ?_); refine gL (some 47) Try.func49 #[.slice Ao27 x5_2.length co27, .string t516, .int .i64 x9_2] ?_; (with_reducible refine (spec_PairPut.calls kj18 _ _ x5_2 t516 x9_2 t517 t518 _ ?side1 ?side2 A25.out).mono ?_); (case side1 => exact hC (Kd.R_reads' HO_5.out).2.2); (case side2 => exact (Kd.R_reads' HO_5.out).2.1); rintro e w28 ⟨v519, rfl, ho0, hb⟩; refine ⟨_, rfl, ?_⟩; have HO520 := ak (Kd.R_lower (Kd.R_new' ho0 (Kd.R_lt (hR HO_5.out))) (keep_size (w := w) (g := g) (row := none) (by repeat (first | exact HK.out | apply KeepBut.set_ | apply keep_drewN | apply keep_drew | apply keep_alloc)))); replace HO_5 := ak (Kd.R_elder' (hR HO_5.out) (Kd.R_base ho0) hb); replace HK := ak (KeepBut.trans (by repeat (first | exact HK.out | apply KeepBut.set_ | apply keep_drewN | apply keep_drew | apply keep_alloc)) (KeepBut.of_below hb g none) (.inl rfl)); replace HB := ak (below_step (by repeat (first | exact HB.out | apply bA | apply bN | apply bD | refine bS ?_ (IsS79.ge HI0.out))) hb); replace HI0 := ak (IsS79.below (by repeat (first | exact HI0.out | apply IsS79.alloc | apply IsS79.drewN | apply IsS79.drew | apply IsS79.set_1)) hb); (try clear hb); (try clear ho0)))
           go_roundg kj18
           case measure => have := HK1.out; have := HK2.out; have := HJ18.out; omega
           case rel => exact ⟨(t517), (wrap64 (x9_2 + 1)), (by first | rfl | (simp [*]; done)), H', ⟨by have := HK1.out; have := HK2.out; have := HJ18.out; omega⟩, ⟨by (with_reducible repeat (first | apply Kd.R_alloc | apply Kd.R_drewN | apply Kd.R_drew)); exact Kd.R_mono HO520.out (fun _ hk => trivial)⟩, ⟨by repeat (first | exact HI0.out | apply IsS79.alloc | apply IsS79.drewN | apply IsS79.drew | apply IsS79.set_1)⟩, ⟨by repeat (first | exact HK.out | apply KeepBut.set_ | apply keep_drewN | apply keep_drew | apply keep_alloc)⟩, ⟨by repeat (first | exact HB.out | apply bA | apply bN | apply bD | refine bS ?_ (IsS79.ge HI0.out))⟩⟩
          ·replace c23 := Bool.eq_false_iff.mpr c23
           subst c23
           rw [if_neg (show ¬ (false = true) by decide)] at H
           have H' := ak H
           clear H
           go_wp2
           go_meet
           case rel => exact ⟨_, (x5_2), H', ⟨by have := HK1.out; have := HK2.out; have := HJ18.out; first | omega | exact Nat.le_refl _⟩, ⟨by (with_reducible repeat (first | apply Kd.R_alloc | apply Kd.R_drewN | apply Kd.R_drew)); exact HO_5.out⟩, ⟨by repeat (first | exact HI0.out | apply IsS79.alloc | apply IsS79.drewN | apply IsS79.drew | apply IsS79.set_1)⟩, ⟨by repeat (first | exact HK.out | apply KeepBut.set_ | apply keep_drewN | apply keep_drew | apply keep_alloc)⟩, ⟨by repeat (first | exact HB.out | apply bA | apply bN | apply bD | refine bS ?_ (IsS79.ge HI0.out))⟩⟩
     ·rw [if_neg c18] at H
      have c18b0 : (t514 == 15) = false := beq_eq_false_iff_ne.mpr c18
      have c18b1 : (t514 != 15) = true := bne_iff_ne.mpr c18
      (first | rw [c18b0] | (simp only [i64_w, i32_w]; rw [c18b0]) | skip)
      have H' := ak H
      clear H
      go_wp2
      go_meet
      case rel => exact ⟨_, (x5_1), H', ⟨by have := HK1.out; first | omega | exact Nat.le_refl _⟩, ⟨by (with_reducible repeat (first | apply Kd.R_alloc | apply Kd.R_drewN | apply Kd.R_drew)); exact HO_5.out⟩, ⟨by repeat (first | exact HI0.out | apply IsS79.alloc | apply IsS79.drewN | apply IsS79.drew | apply IsS79.set_1)⟩, ⟨by repeat (first | exact HK.out | apply KeepBut.set_ | apply keep_drewN | apply keep_drew | apply keep_alloc)⟩, ⟨by repeat (first | exact HB.out | apply bA | apply bN | apply bD | refine bS ?_ (IsS79.ge HI0.out))⟩⟩
    case rest =>
     clear HC16
     try clear c1
     try clear c2
     try clear p2
     try clear c4
     try clear c6
     try clear p6
     try clear c7
     try clear c7b0
     try clear c18
     try clear c18b0
     try clear c18b1
     try clear c20
     try clear c20b0
     try clear c20b1
     try clear c23
     try clear p2
     try clear p6
     obtain ⟨kq, x5_15, HA, HJ15, HO_5, HI0, HK, HB⟩ := hcut
     cases kq with
     | zero => exact absurd HA.out (by simp [spec_l20Pairs.j3])
     | succ kj15 =>
      have H := HA.out
      clear HA
      simp only [spec_l20Pairs.j3] at H
      replace H := Option.bind_eq_some_iff.mp H
      obtain ⟨⟨t521, t522⟩, A290, H⟩ := H
      try dsimp only at H
      have A29 := ak A290
      clear A290
      by_cases c30 : t521 = true
      ·subst c30
       rw [if_pos rfl] at H
       obtain ⟨y523, hy523⟩ : ∃ y_ : List (S65), y_ = (([(⟨(⟨#[]⟩ : ByteArray), 0⟩ : S65), (⟨(⟨#[122, 122, 122, 122]⟩ : ByteArray), (-1)⟩ : S65), (⟨(⟨#[122, 122, 122, 122]⟩ : ByteArray), 1000⟩ : S65), (⟨(⟨#[97]⟩ : ByteArray), 1⟩ : S65), (⟨(⟨#[65]⟩ : ByteArray), 0⟩ : S65)] : List (S65))) := ⟨_, rfl⟩
       replace H : ((spec_l20Rd_pick.f kj15 s0_0 t522 5).bind fun bt526 => (if 0 ≤ bt526.1 then (if bt526.1 < (y523.length : Int) then (if x5_15.length < 5864062014805 then (some ((x5_15 ++ [(⟨(rd_T65 y523 bt526.1).f0, (rd_T65 y523 bt526.1).f1⟩ : S65)]), bt526.2)) else (none)) else (none)) else (none))) = some (r1, r2) := by first | (rw [hy523]; exact H) | exact H
       have Ny523 := ak hy523
       clear hy523
       replace H := Option.bind_eq_some_iff.mp H
       obtain ⟨⟨t526, t527⟩, A310, H⟩ := H
       try dsimp only at H
       have A31 := ak A310
       clear A310
       by_cases c32 : 0 ≤ t526
       ·rw [if_pos c32] at H
        have c32b0 : decide (0 ≤ t526) = true := decide_eq_true c32
        clear c32
        by_cases c33 : t526 < (y523.length : Int)
        ·rw [if_pos c33] at H
         have c33b0 : decide (t526 < (y523.length : Int)) = true := decide_eq_true c33
         clear c33
         by_cases c34 : x5_15.length < 5864062014805
         ·rw [if_pos c34] at H
          have LMc34 := ak c34
          clear c34
          obtain ⟨y529, hy529⟩ : ∃ y_ : List (S65), y_ = (x5_15 ++ [(⟨(rd_T65 y523 t526).f0, (rd_T65 y523 t526).f1⟩ : S65)]) := ⟨_, rfl⟩
          replace H : (some (y529, t527)) = some (r1, r2) := by first | (rw [hy529]; exact H) | exact H
          have Ny529 := ak hy529
          clear hy529
          simp only [Option.some.injEq, Prod.mk.injEq] at H
          obtain ⟨rfl, rfl⟩ := H
          go_wp2_with (first | ((with_reducible refine gate_callee (f := 63) rfl ?_); refine gL (some 53) Try.func63 #[.pointer (some ⟨g, 0, none⟩), .int .i64 a1] ?_; (with_reducible refine (spec_l20Rd_odd.calls kj15 g s0_0 t515 a1 true t522 w0 _ ?side1 ?side2 A29.out).mono ?_); (case side1 => repeat (first | exact HI0.out | apply IsS79.alloc | apply IsS79.drewN | apply IsS79.drew | apply IsS79.set_1)); (case side2 => repeat (first | exact HB.out | apply bA | apply bN | apply bD | refine bS ?_ (IsS79.ge HI0.out))); rintro e w35 ⟨rfl, hi, hb, hk⟩; refine ⟨_, rfl, ?_⟩; replace HO_5 := ak (Kd.R_mono (Kd.R_keep (IsS79.apart (show IsS79 w0 _ g s0_0 t515 from by repeat (first | exact HI0.out | apply IsS79.alloc | apply IsS79.drewN | apply IsS79.drew | apply IsS79.set_1)) (hR HO_5.out) (by decide)) hk (fun _ h => h.2)) (fun _ h => h.1)); replace HK := ak (KeepBut.trans (by repeat (first | exact HK.out | apply KeepBut.set_ | apply keep_drewN | apply keep_drew | apply keep_alloc)) hk (.inl rfl)); replace HB := ak (hb); replace HI0 := ak (hi); (try clear hb)) | ((with_reducible refine gate_dst (N := 60) rfl ?_); refine Kd.R_lit k65 _ 65 ?hg (N := 60) ?hd (xs := ([(⟨(⟨#[]⟩ : ByteArray), 0⟩ : S65), (⟨(⟨#[122, 122, 122, 122]⟩ : ByteArray), (-1)⟩ : S65), (⟨(⟨#[122, 122, 122, 122]⟩ : ByteArray), 1000⟩ : S65), (⟨(⟨#[97]⟩ : ByteArray), 1⟩ : S65), (⟨(⟨#[65]⟩ : ByteArray), 0⟩ : S65)] : List (S65))) (inner := [.string (⟨#[]⟩ : ByteArray), .int .i64 0, .string (⟨#[122, 122, 122, 122]⟩ : ByteArray), .int .i64 (-1), .string (⟨#[122, 122, 122, 122]⟩ : ByteArray), .int .i64 1000, .string (⟨#[97]⟩ : ByteArray), .int .i64 1, .string (⟨#[65]⟩ : ByteArray), .int .i64 0]) (ok := fun _ => True) (okp := fun _ => True) ?hr ?hp (fun _ hk => hk) trivial (Below.refl _ _) (Nat.le_refl _) (by simp) ?_; (case hd => rfl); (case hg => rfl); (case hr => go_simp <;> rfl); (case hp => exact (Reps.c2 (show Kd.M k65 _ _ _ (⟨(⟨#[]⟩ : ByteArray), 0⟩ : S65) [.string (⟨#[]⟩ : ByteArray), .int .i64 0] from (k65_mkM _ _ _ (⟨(⟨#[]⟩ : ByteArray), 0⟩ : S65) )) (Reps.c2 (show Kd.M k65 _ _ _ (⟨(⟨#[122, 122, 122, 122]⟩ : ByteArray), (-1)⟩ : S65) [.string (⟨#[122, 122, 122, 122]⟩ : ByteArray), .int .i64 (-1)] from (k65_mkM _ _ _ (⟨(⟨#[122, 122, 122, 122]⟩ : ByteArray), (-1)⟩ : S65) )) (Reps.c2 (show Kd.M k65 _ _ _ (⟨(⟨#[122, 122, 122, 122]⟩ : ByteArray), 1000⟩ : S65) [.string (⟨#[122, 122, 122, 122]⟩ : ByteArray), .int .i64 1000] from (k65_mkM _ _ _ (⟨(⟨#[122, 122, 122, 122]⟩ : ByteArray), 1000⟩ : S65) )) (Reps.c2 (show Kd.M k65 _ _ _ (⟨(⟨#[97]⟩ : ByteArray), 1⟩ : S65) [.string (⟨#[97]⟩ : ByteArray), .int .i64 1] from (k65_mkM _ _ _ (⟨(⟨#[97]⟩ : ByteArray), 1⟩ : S65) )) (Reps.c2 (show Kd.M k65 _ _ _ (⟨(⟨#[65]⟩ : ByteArray), 0⟩ : S65) [.string (⟨#[65]⟩ : ByteArray), .int .i64 0] from (k65_mkM _ _ _ (⟨(⟨#[65]⟩ : ByteArray), 0⟩ : S65) )) (Reps.none _ _))))))); intro v524 w36 ho37 hb hg_ hnew_; clear hg_ hnew_; (first | rw [← Ny523.out] at ho37 | (simp only [Int.reduceToNat] at ho37; rw [← Ny523.out] at ho37)); have HO525 := ak (Kd.R_lower (Kd.R_new' ho37 (Kd.R_lt (hR HO_5.out))) (keep_size (w := w) (g := g) (row := none) (by repeat (first | exact HK.out | apply KeepBut.set_ | apply keep_drewN | apply keep_drew | apply keep_alloc)))); replace HO_5 := ak (Kd.R_elder' (hR HO_5.out) (Kd.R_base ho37) hb); replace HK := ak (KeepBut.trans (by repeat (first | exact HK.out | apply KeepBut.set_ | apply keep_drewN | apply keep_drew | apply keep_alloc)) (KeepBut.of_below hb g none) (.inl rfl)); replace HB := ak (below_step (by repeat (first | exact HB.out | apply bA | apply bN | apply bD | refine bS ?_ (IsS79.ge HI0.out))) hb); replace HI0 := ak (IsS79.below (by repeat (first | exact HI0.out | apply IsS79.alloc | apply IsS79.drewN | apply IsS79.drew | apply IsS79.set_1)) hb); clear hb ho37) | ((with_reducible refine gate_callee (f := 62) rfl ?_); refine gL (some 62) Try.func62 #[.pointer (some ⟨g, 0, none⟩), .int .i64 5] ?_; (with_reducible refine (spec_l20Rd_pick.calls kj15 g s0_0 t522 5 t526 t527 w0 _ ?side1 ?side2 A31.out).mono ?_); (case side1 => repeat (first | exact HI0.out | apply IsS79.alloc | apply IsS79.drewN | apply IsS79.drew | apply IsS79.set_1)); (case side2 => repeat (first | exact HB.out | apply bA | apply bN | apply bD | refine bS ?_ (IsS79.ge HI0.out))); rintro e w38 ⟨rfl, hi, hb, hk⟩; refine ⟨_, rfl, ?_⟩; replace HO_5 := ak (Kd.R_mono (Kd.R_keep (IsS79.apart (show IsS79 w0 _ g s0_0 t522 from by repeat (first | exact HI0.out | apply IsS79.alloc | apply IsS79.drewN | apply IsS79.drew | apply IsS79.set_1)) (hR HO_5.out) (by decide)) hk (fun _ h => h.2)) (fun _ h => h.1)); replace HO525 := ak (Kd.R_mono (Kd.R_keep (IsS79.apart (show IsS79 w0 _ g s0_0 t522 from by repeat (first | exact HI0.out | apply IsS79.alloc | apply IsS79.drewN | apply IsS79.drew | apply IsS79.set_1)) (hR HO525.out) (by decide)) hk (fun _ h => h.2)) (fun _ h => h.1)); replace HK := ak (KeepBut.trans (by repeat (first | exact HK.out | apply KeepBut.set_ | apply keep_drewN | apply keep_drew | apply keep_alloc)) hk (.inl rfl)); replace HB := ak (hb); replace HI0 := ak (hi); (try clear hb); obtain ⟨Ao39, co39, eo39⟩ := Kd.R_slice HO525.out; subst eo39; have p528 : 0 ≤ (t526 : Int) := of_decide_eq_true (by assumption); have q528 : t526 < (y523.length : Int) := of_decide_eq_true (by assumption); obtain ⟨ad528, e528, hx528_0, hx528_1⟩ := at_T65 (Kd.R_reads' HO525.out).2.2 t526 p528 q528; cases e528; replace p528 := eq_true p528; replace q528 := eq_true q528) | ((with_reducible refine gate_builtin (b := .append) (xs := #[.tmp 54, .tmp 65]) rfl ?_); at_builtin; refine Kd.R_append k65 w.heap.size rfl (.tmp 54) (.tmp 65) 36 65 (.agg #[(.string ⟨#[]⟩), (.int .i64 0)]) 24 rfl Try.underlying36 info65 rfl (by decide) (by omega) u5 x5_15 (⟨(rd_T65 y523 t526).f0, (rd_T65 y523 t526).f1⟩ : S65) [.string ((rd_T65 y523 t526).f0), .int .i64 ((rd_T65 y523 t526).f1)] (fun k_ => some k_ ≠ (.slice (some ad528) y523.length co39 : Value).ownBlock) (fun _ => False) rfl rfl ?aP (fun _ hk => hk.elim) ?aF ?aO (Below.refl _ _) ?aS ?aL ?_; (case aP => exact k65_mkM _ _ _ (⟨(rd_T65 y523 t526).f0, (rd_T65 y523 t526).f1⟩ : S65)); (case aF => exact (fun k_ hk => Kd.fresh' (Kd.R_lt (hR HO525.out)) k_ hk)); (case aO => exact (by (with_reducible repeat (first | apply Kd.R_alloc | apply Kd.R_drewN | apply Kd.R_drew)); exact Kd.R_mono HO_5.out (fun _ hk => hk.2))); (case aS => exact (keep_size (w := w) (g := g) (row := none) (by repeat (first | exact HK.out | apply KeepBut.set_ | apply keep_drewN | apply keep_drew | apply keep_alloc)))); (case aL => have := LMc34.out; omega); intro v530 w40 ho hb hg hat; rw [← Ny529.out] at ho; replace HO525 := ak (Kd.R_after (ok := (fun _ => True)) (hR HO525.out) hg hat); replace HB := ak (below_weaken (by repeat (first | exact HB.out | apply bA | apply bN | apply bD | refine bS ?_ (IsS79.ge HI0.out))) HL.out hb); replace HI0 := ak (IsS79.grown (by repeat (first | exact HI0.out | apply IsS79.alloc | apply IsS79.drewN | apply IsS79.drew | apply IsS79.set_1)) hg (IsS79.own_ne HI0.out HO_5.out (by decide))); replace HK := ak (KeepBut.trans (by repeat (first | exact HK.out | apply KeepBut.set_ | apply keep_drewN | apply keep_drew | apply keep_alloc)) (KeepBut.of_grown hg g) (Kd.R_base2 HO_5.out)); have HO531 := ak (ho); clear HO_5; clear ho hb hg hat))
          go_ret
          exact ⟨_, by first | rfl | (simp [*, errW_none, errW_some] <;> rfl), by (with_reducible repeat (first | apply Kd.R_alloc | apply Kd.R_drewN | apply Kd.R_drew)); exact Kd.R_mono HO531.out (fun _ hk => trivial), by repeat (first | exact HI0.out | apply IsS79.alloc | apply IsS79.drewN | apply IsS79.drew | apply IsS79.set_1), by repeat (first | exact HB.out | apply bA | apply bN | apply bD | refine bS ?_ (IsS79.ge HI0.out)), by repeat (first | exact HK.out | apply KeepBut.set_ | apply keep_drewN | apply keep_drew | apply keep_alloc)⟩
         ·rw [if_neg c34] at H
          exact absurd H (by simp)
        ·rw [if_neg c33] at H
         exact absurd H (by simp)
       ·rw [if_neg c32] at H
        exact absurd H (by simp)
      ·replace c30 := Bool.eq_false_iff.mpr c30
       subst c30
       rw [if_neg (show ¬ (false = true) by decide)] at H
       simp only [Option.some.injEq, Prod.mk.injEq] at H
       obtain ⟨rfl, rfl⟩ := H
       go_wp2_with (first | ((with_reducible refine gate_callee (f := 63) rfl ?_); refine gL (some 53) Try.func63 #[.pointer (some ⟨g, 0, none⟩), .int .i64 a1] ?_; (with_reducible refine (spec_l20Rd_odd.calls kj15 g s0_0 t515 a1 false t522 w0 _ ?side1 ?side2 A29.out).mono ?_); (case side1 => repeat (first | exact HI0.out | apply IsS79.alloc | apply IsS79.drewN | apply IsS79.drew | apply IsS79.set_1)); (case side2 => repeat (first | exact HB.out | apply bA | apply bN | apply bD | refine bS ?_ (IsS79.ge HI0.out))); rintro e w41 ⟨rfl, hi, hb, hk⟩; refine ⟨_, rfl, ?_⟩; replace HO_5 := ak (Kd.R_mono (Kd.R_keep (IsS79.apart (show IsS79 w0 _ g s0_0 t515 from by repeat (first | exact HI0.out | apply IsS79.alloc | apply IsS79.drewN | apply IsS79.drew | apply IsS79.set_1)) (hR HO_5.out) (by decide)) hk (fun _ h => h.2)) (fun _ h => h.1)); replace HK := ak (KeepBut.trans (by repeat (first | exact HK.out | apply KeepBut.set_ | apply keep_drewN | apply keep_drew | apply keep_alloc)) hk (.inl rfl)); replace HB := ak (hb); replace HI0 := ak (hi); (try clear hb)))
       go_ret
       exact ⟨_, by first | rfl | (simp [*, errW_none, errW_some] <;> rfl), by (with_reducible repeat (first | apply Kd.R_alloc | apply Kd.R_drewN | apply Kd.R_drew)); exact HO_5.out, by repeat (first | exact HI0.out | apply IsS79.alloc | apply IsS79.drewN | apply IsS79.drew | apply IsS79.set_1), by repeat (first | exact HB.out | apply bA | apply bN | apply bD | refine bS ?_ (IsS79.ge HI0.out)), by repeat (first | exact HK.out | apply KeepBut.set_ | apply keep_drewN | apply keep_drew | apply keep_alloc)⟩

/-! ### spec_l20Pages: function 39 -/
def spec_l20Pages.l0 : Nat → Int → List (S53) → Int → List Int → Int → Option ((List (S53)) × Int)
 | 0, _, _, _, _, _ => none
 | k + 1, x1, x5, x6, x1000, x1001 => if x6 > 0 then ((spec_PagesList.f k x5).bind fun t541 => ((spec_l20Near.f k x1000 x1001 t541 0).bind fun bt544 => ((spec_l20Value.f k x1000 bt544.2 0).bind fun bt546 => ((spec_PagesPut.f k x5 bt544.1 bt546.1).bind fun bt548 => ((spec_l20Rd_pick.f k x1000 bt546.2 3).bind fun bt552 => (if bt552.1 = 0 then ((spec_l20Near.f k x1000 bt552.2 t541 0).bind fun bt554 => ((spec_PagesDrop.f k x5 bt554.1).bind fun bt556 => (spec_l20Pages.l0 k x1 bt556.1 (wrap64 (x6 - 1)) x1000 bt554.2))) else (spec_l20Pages.l0 k x1 bt548.1 (wrap64 (x6 - 1)) x1000 bt552.2))))))) else ((spec_l20Rd_odd.f k x1000 x1001 x1).bind fun bt560 => (if bt560.1 = true then ((spec_l20Rd_pick.f k x1000 bt560.2 3).bind fun bt562 => (if bt562.1 = 0 then (if x5.length < 5864062014805 then (some ((x5 ++ [(⟨([] : List (S65))⟩ : S53)]), bt562.2)) else (none)) else (if bt562.1 = 1 then ((some (([(⟨(([(⟨(⟨#[122, 122, 122, 122]⟩ : ByteArray), 0⟩ : S65)] : List (S65)))⟩ : S53), (⟨(([(⟨(⟨#[122, 122, 122, 122]⟩ : ByteArray), 0⟩ : S65), (⟨(⟨#[122, 122, 122, 122]⟩ : ByteArray), 0⟩ : S65)] : List (S65)))⟩ : S53)] : List (S53)) : List (S53))).bind fun y573 => (if x5.length + y573.length < 5864062014805 then (some ((x5 ++ y573), bt562.2)) else (none))) else (if x5.length < 5864062014805 then (some ((x5 ++ [(⟨(([(⟨(⟨#[118]⟩ : ByteArray), 0⟩ : S65), (⟨(⟨#[119]⟩ : ByteArray), 0⟩ : S65), (⟨(⟨#[120]⟩ : ByteArray), 0⟩ : S65), (⟨(⟨#[121]⟩ : ByteArray), 0⟩ : S65), (⟨(⟨#[122, 122]⟩ : ByteArray), 0⟩ : S65)] : List (S65)))⟩ : S53)]), bt562.2)) else (none))))) else (some (x5, bt560.2))))
def spec_l20Pages.f (k : Nat) (s0_0 : List Int) (s0_1 : Int) (a1 : Int) : Option ((List (S53)) × Int) := (spec_l20Pairs.f k s0_0 s0_1 0).bind fun bt532 => ((spec_PagesOf.f k bt532.1).bind fun t536 => ((spec_l20Rd_pick.f k s0_0 bt532.2 8).bind fun bt539 => (spec_l20Pages.l0 k a1 t536 bt539.1 s0_0 bt539.2)))
theorem spec_l20Pages.mono_l : ∀ k, (∀ y0 y1 y2 y3 y4, LeO (spec_l20Pages.l0 k y0 y1 y2 y3 y4) (spec_l20Pages.l0 (k + 1) y0 y1 y2 y3 y4))
 | 0 => fun _ _ _ _ _ r h => by simp [spec_l20Pages.l0] at h
 | k + 1 => by
  have ih0 := spec_l20Pages.mono_l k
  ·intro y0 y1 y2 y3 y4
   unfold spec_l20Pages.l0
   repeat' first
   | (with_reducible exact ih0 _ _ _ _ _)
   | (with_reducible exact spec_PagesDrop.mono _ _ _)
   | (with_reducible exact spec_PagesList.mono _ _)
   | (with_reducible exact spec_PagesOf.mono _ _)
   | (with_reducible exact spec_PagesPut.mono _ _ _ _)
   | (with_reducible exact spec_l20Near.mono _ _ _ _ _)
   | (with_reducible exact spec_l20Pairs.mono _ _ _ _)
   | (with_reducible exact spec_l20Rd_odd.mono _ _ _ _)
   | (with_reducible exact spec_l20Rd_pick.mono _ _ _ _)
   | (with_reducible exact spec_l20Value.mono _ _ _ _)
   | (with_reducible exact LeO.refl _)
   | (with_reducible exact LeO.none _)
   | (with_reducible refine LeO.ite ?_ ?_)
   | (with_reducible refine LeO.bind ?_ (fun _ => ?_))
   | exact ih0 _ _ _ _ _
   | exact LeO.none _
   | refine LeO.ite ?_ ?_
   | refine LeO.bind ?_ (fun _ => ?_)
theorem spec_l20Pages.mono : ∀ a0 a1 a2 k, LeO (spec_l20Pages.f k a0 a1 a2) (spec_l20Pages.f (k + 1) a0 a1 a2) := by
 intro a0 a1 a2 k
 have ih0 := spec_l20Pages.mono_l k
 unfold spec_l20Pages.f
 repeat' first
   | (with_reducible exact ih0 _ _ _ _ _)
   | (with_reducible exact spec_PagesDrop.mono _ _ _)
   | (with_reducible exact spec_PagesList.mono _ _)
   | (with_reducible exact spec_PagesOf.mono _ _)
   | (with_reducible exact spec_PagesPut.mono _ _ _ _)
   | (with_reducible exact spec_l20Near.mono _ _ _ _ _)
   | (with_reducible exact spec_l20Pairs.mono _ _ _ _)
   | (with_reducible exact spec_l20Rd_odd.mono _ _ _ _)
   | (with_reducible exact spec_l20Rd_pick.mono _ _ _ _)
   | (with_reducible exact spec_l20Value.mono _ _ _ _)
   | (with_reducible exact LeO.refl _)
   | (with_reducible exact LeO.none _)
   | (with_reducible refine LeO.ite ?_ ?_)
   | (with_reducible refine LeO.bind ?_ (fun _ => ?_))
   | exact ih0 _ _ _ _ _
   | exact LeO.none _
   | refine LeO.ite ?_ ?_
   | refine LeO.bind ?_ (fun _ => ?_)
theorem spec_l20Pages.calls (k : Nat) (g : Nat) (s0_0 : List Int) (s0_1 : Int) (a1 : Int) (r1 : List (S53)) (r2 : Int) (w0 w : World) (hI : IsS79 w0 w g s0_0 s0_1) (hB : Below w0.heap.size w0 w) (h : spec_l20Pages.f k s0_0 s0_1 a1 = some (r1, r2)) :
  Calls Try.prog 39 #[.pointer (some ⟨g, 0, none⟩), .int .i64 a1] w fun e w' => ∃ v0_ : Value, e = .returned (v0_) ∧ Kd.N k53 53 w' w.heap.size (fun k_ => (w.heap.size ≤ k_)) v0_ r1 ∧ IsS79 w0 w' g s0_0 r2 ∧ Below w0.heap.size w0 w' ∧ KeepBut w w' g none := by
 have hu53 := Try.underlying53
 have hu65 := Try.underlying65
 have HI0 := ak hI
 have HK := ak (KeepBut.refl w g none)
 have HL := ak hB.size
 clear hI
 have HW0 := ak hB.size
 have HB := ak hB
 clear hB
 have H : ((spec_l20Pairs.f k s0_0 s0_1 0).bind fun bt532 => ((spec_PagesOf.f k bt532.1).bind fun t536 => ((spec_l20Rd_pick.f k s0_0 bt532.2 8).bind fun bt539 => (spec_l20Pages.l0 k a1 t536 bt539.1 s0_0 bt539.2)))) = some (r1, r2) := h
 clear h
 replace H := Option.bind_eq_some_iff.mp H
 obtain ⟨⟨t532, t535⟩, A30, H⟩ := H
 try dsimp only at H
 have A3 := ak A30
 clear A30
 replace H := Option.bind_eq_some_iff.mp H
 obtain ⟨t536, A40, H⟩ := H
 try dsimp only at H
 have A4 := ak A40
 clear A40
 replace H := Option.bind_eq_some_iff.mp H
 obtain ⟨⟨t539, t540⟩, A50, H⟩ := H
 try dsimp only at H
 have A5 := ak A50
 clear A50
 have H' := ak H
 clear H
 go_enter Try.func39, Try.ntmps39
 go_wp2_with (first | ((with_reducible refine gate_callee (f := 61) rfl ?_); refine gL (some 11) Try.func61 #[.pointer (some ⟨g, 0, none⟩), .int .i64 0] ?_; (with_reducible refine (spec_l20Pairs.calls k g s0_0 s0_1 0 t532 t535 w0 _ ?side1 ?side2 A3.out).mono ?_); (case side1 => repeat (first | exact HI0.out | apply IsS79.alloc | apply IsS79.drewN | apply IsS79.drew | apply IsS79.set_1)); (case side2 => repeat (first | exact HB.out | apply bA | apply bN | apply bD | refine bS ?_ (IsS79.ge HI0.out))); rintro e w6 ⟨v533, rfl, ho0, hi, hb, hk⟩; refine ⟨_, rfl, ?_⟩; have HO534 := ak (Kd.R_lower (Kd.R_newM (M := fun k_ => (w.heap.size ≤ k_)) ho0 (keep_size (w := w) (g := g) (row := none) (by repeat (first | exact HK.out | apply KeepBut.set_ | apply keep_drewN | apply keep_drew | apply keep_alloc))) (fun k_ h_ => h_)) (keep_size (w := w) (g := g) (row := none) (by repeat (first | exact HK.out | apply KeepBut.set_ | apply keep_drewN | apply keep_drew | apply keep_alloc)))); replace HK := ak (KeepBut.trans (by repeat (first | exact HK.out | apply KeepBut.set_ | apply keep_drewN | apply keep_drew | apply keep_alloc)) hk (.inl rfl)); replace HB := ak (hb); replace HI0 := ak (hi); (try clear hb); (try clear ho0); obtain ⟨Ao7, co7, eo7⟩ := Kd.R_slice HO534.out; subst eo7) | ((with_reducible refine gate_callee (f := 60) rfl ?_); refine gL (some 12) Try.func60 #[.slice Ao7 t532.length co7] ?_; (with_reducible refine (spec_PagesOf.calls k _ _ t532 t536 _ ?side1 ?side2 A4.out).mono ?_); (case side1 => exact hC (Kd.R_reads' HO534.out).2.2); (case side2 => exact (Kd.R_reads' HO534.out).2.1); rintro e w8 ⟨v537, rfl, ho0, hb⟩; refine ⟨_, rfl, ?_⟩; have HO538 := ak (Kd.N_lower (Kd.N_mono (ok' := fun k_ => (w.heap.size ≤ k_) ∧ some k_ ≠ (.slice Ao7 t532.length co7 : Value).ownBlock ∧ k_ ≠ g) (Kd.S_N (Kd.S_bound ho0)) (fun k_ hk_ => ⟨(Nat.le_trans (keep_size (w := w) (g := g) (row := none) (by repeat (first | exact HK.out | apply KeepBut.set_ | apply keep_drewN | apply keep_drew | apply keep_alloc))) hk_.2.1), (Kd.fresh' (Kd.R_lt (hR HO534.out)) k_ hk_.2.1), (IsS79.fresh (by repeat (first | exact HI0.out | apply IsS79.alloc | apply IsS79.drewN | apply IsS79.drew | apply IsS79.set_1)) k_ hk_.2.1)⟩)) (keep_size (w := w) (g := g) (row := none) (by repeat (first | exact HK.out | apply KeepBut.set_ | apply keep_drewN | apply keep_drew | apply keep_alloc)))); replace HO534 := ak (Kd.R_below (hR HO534.out) hb); replace HK := ak (KeepBut.trans (by repeat (first | exact HK.out | apply KeepBut.set_ | apply keep_drewN | apply keep_drew | apply keep_alloc)) (KeepBut.of_below hb g none) (.inl rfl)); replace HB := ak (below_step (by repeat (first | exact HB.out | apply bA | apply bN | apply bD | refine bS ?_ (IsS79.ge HI0.out))) hb); replace HI0 := ak (IsS79.below (by repeat (first | exact HI0.out | apply IsS79.alloc | apply IsS79.drewN | apply IsS79.drew | apply IsS79.set_1)) hb); (try clear hb); (try clear ho0)) | ((with_reducible refine gate_callee (f := 62) rfl ?_); refine gL (some 14) Try.func62 #[.pointer (some ⟨g, 0, none⟩), .int .i64 8] ?_; (with_reducible refine (spec_l20Rd_pick.calls k g s0_0 t535 8 t539 t540 w0 _ ?side1 ?side2 A5.out).mono ?_); (case side1 => repeat (first | exact HI0.out | apply IsS79.alloc | apply IsS79.drewN | apply IsS79.drew | apply IsS79.set_1)); (case side2 => repeat (first | exact HB.out | apply bA | apply bN | apply bD | refine bS ?_ (IsS79.ge HI0.out))); rintro e w9 ⟨rfl, hi, hb, hk⟩; refine ⟨_, rfl, ?_⟩; replace HO534 := ak (Kd.R_mono (Kd.R_keep (IsS79.apart (show IsS79 w0 _ g s0_0 t535 from by repeat (first | exact HI0.out | apply IsS79.alloc | apply IsS79.drewN | apply IsS79.drew | apply IsS79.set_1)) (hR HO534.out) (by decide)) hk (fun _ h => h.2)) (fun _ h => h.1)); replace HO538 := ak (Kd.N_mono (Kd.N_keep (Kd.N_mono (ok := fun k_ => (((w.heap.size ≤ k_)) ∧ (some k_ ≠ (.slice Ao7 t532.length co7 : Value).ownBlock ∧ k_ ≠ g))) (hN HO538.out) (fun k_ hk_ => (⟨hk_, hk_.2.2⟩ : _ ∧ k_ ≠ g))) hk (fun _ h => h.2)) (fun _ h => h.1)); replace HK := ak (KeepBut.trans (by repeat (first | exact HK.out | apply KeepBut.set_ | apply keep_drewN | apply keep_drew | apply keep_alloc)) hk (.inl rfl)); replace HB := ak (hb); replace HI0 := ak (hi); (try clear hb)))
 go_loopg [5, 6] k (fun kq v5 v6 w' => ∃ (x5_1 : List (S53)) (x6_1 : Int) (x1001_1 : Int), v6 = .int .i64 x6_1 ∧ Aside0 (spec_l20Pages.l0 kq a1 x5_1 x6_1 s0_0 x1001_1 = some (r1, r2)) ∧ Aside0 (kq ≤ k) ∧ Aside0 (Kd.N k53 53 w' w.heap.size (fun k_ => (w.heap.size ≤ k_) ∧ k_ ≠ g) v5 x5_1) ∧ Aside0 (IsS79 w0 w' g s0_0 x1001_1) ∧ Aside0 (KeepBut w w' g none) ∧ Aside0 (Below w0.heap.size w0 w'))
 case atStart => exact ⟨(t536), (t539), (t540), (by first | rfl | (simp [*]; done)), H', ⟨Nat.le_refl _⟩, ⟨by (with_reducible repeat (first | apply Kd.N_alloc | apply Kd.N_drewN | apply Kd.N_drew)); exact Kd.N_mono HO538.out (fun _ hk => ⟨hk.1, hk.2.2⟩)⟩, ⟨by repeat (first | exact HI0.out | apply IsS79.alloc | apply IsS79.drewN | apply IsS79.drew | apply IsS79.set_1)⟩, ⟨by repeat (first | exact HK.out | apply KeepBut.set_ | apply keep_drewN | apply keep_drew | apply keep_alloc)⟩, ⟨by repeat (first | exact HB.out | apply bA | apply bN | apply bD | refine bS ?_ (IsS79.ge HI0.out))⟩⟩
 case round =>
  clear H'
  try clear p2
  try clear c3
  try clear c6
  obtain ⟨x5_1, x6_1, x1001_1, rfl, HA, HK1, HO_5, HI0, HK, HB⟩ := hrel
  cases gk with
  | zero => exact absurd HA.out (by simp [spec_l20Pages.l0])
  | succ k1 =>
   have H := HA.out
   clear HA
   simp only [spec_l20Pages.l0] at H
   by_cases c10 : x6_1 > 0
   ·rw [if_pos c10] at H
    have c10b0 : decide (0 < x6_1) = true := decide_eq_true c10
    clear c10
    replace H := Option.bind_eq_some_iff.mp H
    obtain ⟨t541, A110, H⟩ := H
    try dsimp only at H
    have A11 := ak A110
    clear A110
    replace H := Option.bind_eq_some_iff.mp H
    obtain ⟨⟨t544, t545⟩, A120, H⟩ := H
    try dsimp only at H
    have A12 := ak A120
    clear A120
    replace H := Option.bind_eq_some_iff.mp H
    obtain ⟨⟨t546, t547⟩, A130, H⟩ := H
    try dsimp only at H
    have A13 := ak A130
    clear A130
    replace H := Option.bind_eq_some_iff.mp H
    obtain ⟨⟨t548, t551⟩, A140, H⟩ := H
    try dsimp only at H
    have A14 := ak A140
    clear A140
    replace H := Option.bind_eq_some_iff.mp H
    obtain ⟨⟨t552, t553⟩, A150, H⟩ := H
    try dsimp only at H
    have A15 := ak A150
    clear A150
    by_cases c16 : t552 = 0
    ·rw [if_pos c16] at H
     have c16b0 : (t552 == 0) = true := beq_iff_eq.mpr c16
     have c16b1 : (t552 != 0) = false := bne_eq_false_iff_eq.mpr c16
     clear c16
     replace H := Option.bind_eq_some_iff.mp H
     obtain ⟨⟨t554, t555⟩, A170, H⟩ := H
     try dsimp only at H
     have A17 := ak A170
     clear A170
     replace H := Option.bind_eq_some_iff.mp H
     obtain ⟨⟨t556, t559⟩, A180, H⟩ := H
     try dsimp only at H
     have A18 := ak A180
     clear A180
     have H' := ak H
     clear H
     obtain ⟨Ao19, co19, eo19⟩ := Kd.N_slice HO_5.out
     subst eo19
     go_wp2_with (first | ((with_reducible refine gate_callee (f := 41) rfl ?_); refine gL (some 20) Try.func41 #[.slice Ao19 x5_1.length co19] ?_; (with_reducible refine (spec_PagesList.calls k1 _ _ x5_1 t541 _ ?side1 ?side2 A11.out).mono ?_); (case side1 => exact hC (Kd.N_reads' HO_5.out).2.2); (case side2 => exact (Kd.N_reads' HO_5.out).2.1); rintro e w20 ⟨v542, rfl, ho0, hb⟩; refine ⟨_, rfl, ?_⟩; replace HO_5 := ak (Kd.N_elder' (hN HO_5.out) (Kd.R_base ho0) hb); have HO543 := ak (Kd.R_lower (Kd.R_newM (M := fun k_ => (w.heap.size ≤ k_)) ho0 (keep_size (w := w) (g := g) (row := none) (by repeat (first | exact HK.out | apply KeepBut.set_ | apply keep_drewN | apply keep_drew | apply keep_alloc))) (fun k_ h_ => h_)) (keep_size (w := w) (g := g) (row := none) (by repeat (first | exact HK.out | apply KeepBut.set_ | apply keep_drewN | apply keep_drew | apply keep_alloc)))); replace HK := ak (KeepBut.trans (by repeat (first | exact HK.out | apply KeepBut.set_ | apply keep_drewN | apply keep_drew | apply keep_alloc)) (KeepBut.of_below hb g none) (.inl rfl)); replace HB := ak (below_step (by repeat (first | exact HB.out | apply bA | apply bN | apply bD | refine bS ?_ (IsS79.ge HI0.out))) hb); replace HI0 := ak (IsS79.below (by repeat (first | exact HI0.out | apply IsS79.alloc | apply IsS79.drewN | apply IsS79.drew | apply IsS79.set_1)) hb); (try clear hb); (try clear ho0); obtain ⟨Ao21, co21, eo21⟩ := Kd.R_slice HO543.out; subst eo21) | ((with_reducible refine gate_callee (f := 40) rfl ?_); refine gL (some 25) Try.func40 #[.pointer (some ⟨g, 0, none⟩), .slice Ao21 t541.length co21, .int .i64 0] ?_; (with_reducible refine (spec_l20Near.calls k1 g s0_0 x1001_1 _ _ t541 0 t544 t545 w0 _ ?side1 ?side2 ?side3 ?side4 A12.out).mono ?_); (case side1 => repeat (first | exact HI0.out | apply IsS79.alloc | apply IsS79.drewN | apply IsS79.drew | apply IsS79.set_1)); (case side2 => repeat (first | exact HB.out | apply bA | apply bN | apply bD | refine bS ?_ (IsS79.ge HI0.out))); (case side3 => exact Kd.C_foot_own (IsS79.apart (show IsS79 w0 _ g s0_0 x1001_1 from by repeat (first | exact HI0.out | apply IsS79.alloc | apply IsS79.drewN | apply IsS79.drew | apply IsS79.set_1)) (hR HO543.out) (by decide)) (fun _ h_ => h_.2)); (case side4 => exact (Kd.R_reads' HO543.out).2.1); rintro e w22 ⟨rfl, hi, hb, hk⟩; refine ⟨_, rfl, ?_⟩; replace HO_5 := ak (Kd.N_mono (Kd.N_keep (Kd.N_mono (ok := fun k_ => ((((w.heap.size ≤ k_)) ∧ k_ ≠ g) ∧ some k_ ≠ (.slice Ao21 t541.length co21 : Value).ownBlock)) (hN HO_5.out) (fun k_ hk_ => (⟨hk_, hk_.1.2⟩ : _ ∧ k_ ≠ g))) hk (fun _ h => h.2)) (fun _ h => h.1)); replace HO543 := ak (Kd.R_mono (Kd.R_keep (IsS79.apart (show IsS79 w0 _ g s0_0 x1001_1 from by repeat (first | exact HI0.out | apply IsS79.alloc | apply IsS79.drewN | apply IsS79.drew | apply IsS79.set_1)) (hR HO543.out) (by decide)) hk (fun _ h => h.2)) (fun _ h => h.1)); replace HK := ak (KeepBut.trans (by repeat (first | exact HK.out | apply KeepBut.set_ | apply keep_drewN | apply keep_drew | apply keep_alloc)) hk (.inl rfl)); replace HB := ak (hb); replace HI0 := ak (hi); (try clear hb)) | ((with_reducible refine gate_callee (f := 42) rfl ?_); refine gL (some 27) Try.func42 #[.pointer (some ⟨g, 0, none⟩), .int .i64 0] ?_; (with_reducible refine (spec_l20Value.calls k1 g s0_0 t545 0 t546 t547 w0 _ ?side1 ?side2 A13.out).mono ?_); (case side1 => repeat (first | exact HI0.out | apply IsS79.alloc | apply IsS79.drewN | apply IsS79.drew | apply IsS79.set_1)); (case side2 => repeat (first | exact HB.out | apply bA | apply bN | apply bD | refine bS ?_ (IsS79.ge HI0.out))); rintro e w23 ⟨rfl, hi, hb, hk⟩; refine ⟨_, rfl, ?_⟩; replace HO_5 := ak (Kd.N_mono (Kd.N_keep (Kd.N_mono (ok := fun k_ => ((((w.heap.size ≤ k_)) ∧ k_ ≠ g) ∧ some k_ ≠ (.slice Ao21 t541.length co21 : Value).ownBlock)) (hN HO_5.out) (fun k_ hk_ => (⟨hk_, hk_.1.2⟩ : _ ∧ k_ ≠ g))) hk (fun _ h => h.2)) (fun _ h => h.1)); replace HO543 := ak (Kd.R_mono (Kd.R_keep (IsS79.apart (show IsS79 w0 _ g s0_0 t545 from by repeat (first | exact HI0.out | apply IsS79.alloc | apply IsS79.drewN | apply IsS79.drew | apply IsS79.set_1)) (hR HO543.out) (by decide)) hk (fun _ h => h.2)) (fun _ h => h.1)); replace HK := ak (KeepBut.trans (by repeat (first | exact HK.out | apply KeepBut.set_ | apply keep_drewN | apply keep_drew | apply keep_alloc)) hk (.inl rfl)); replace HB := ak (hb); replace HI0 := ak (hi); (try clear hb)) | ((with_reducible refine gate_callee (f := 15) rfl ?_); refine gL (some 28) Try.func15 #[.slice Ao19 x5_1.length co19, .string t544, .int .i64 t546] ?_; (with_reducible refine (spec_PagesPut.calls k1 _ _ x5_1 t544 t546 t548 t551 _ ?side1 ?side2 A14.out).mono ?_); (case side1 => exact hC (Kd.N_reads' HO_5.out).2.2); (case side2 => exact (Kd.N_reads' HO_5.out).2.1); rintro e w24 ⟨v549, rfl, ho0, hb⟩; refine ⟨_, rfl, ?_⟩; have HO550 := ak (Kd.N_lower (Kd.N_mono (ok' := fun k_ => (w.heap.size ≤ k_) ∧ some k_ ≠ (.slice Ao19 x5_1.length co19 : Value).ownBlock ∧ some k_ ≠ (.slice Ao21 t541.length co21 : Value).ownBlock ∧ k_ ≠ g) ho0 (fun k_ hk_ => ⟨(Nat.le_trans (keep_size (w := w) (g := g) (row := none) (by repeat (first | exact HK.out | apply KeepBut.set_ | apply keep_drewN | apply keep_drew | apply keep_alloc))) hk_), (Kd.fresh' (Kd.N_lt (hN HO_5.out)) k_ hk_), (Kd.fresh' (Kd.R_lt (hR HO543.out)) k_ hk_), (IsS79.fresh (by repeat (first | exact HI0.out | apply IsS79.alloc | apply IsS79.drewN | apply IsS79.drew | apply IsS79.set_1)) k_ hk_)⟩)) (keep_size (w := w) (g := g) (row := none) (by repeat (first | exact HK.out | apply KeepBut.set_ | apply keep_drewN | apply keep_drew | apply keep_alloc)))); replace HO_5 := ak (Kd.N_elder' (hN HO_5.out) (Kd.N_base ho0) hb); replace HO543 := ak (Kd.R_below (hR HO543.out) hb); replace HK := ak (KeepBut.trans (by repeat (first | exact HK.out | apply KeepBut.set_ | apply keep_drewN | apply keep_drew | apply keep_alloc)) (KeepBut.of_below hb g none) (.inl rfl)); replace HB := ak (below_step (by repeat (first | exact HB.out | apply bA | apply bN | apply bD | refine bS ?_ (IsS79.ge HI0.out))) hb); replace HI0 := ak (IsS79.below (by repeat (first | exact HI0.out | apply IsS79.alloc | apply IsS79.drewN | apply IsS79.drew | apply IsS79.set_1)) hb); (try clear hb); (try clear ho0)) | ((with_reducible refine gate_callee (f := 62) rfl ?_); refine gL (some 32) Try.func62 #[.pointer (some ⟨g, 0, none⟩), .int .i64 3] ?_; (with_reducible refine (spec_l20Rd_pick.calls k1 g s0_0 t547 3 t552 t553 w0 _ ?side1 ?side2 A15.out).mono ?_); (case side1 => repeat (first | exact HI0.out | apply IsS79.alloc | apply IsS79.drewN | apply IsS79.drew | apply IsS79.set_1)); (case side2 => repeat (first | exact HB.out | apply bA | apply bN | apply bD | refine bS ?_ (IsS79.ge HI0.out))); rintro e w25 ⟨rfl, hi, hb, hk⟩; refine ⟨_, rfl, ?_⟩; replace HO_5 := ak (Kd.N_mono (Kd.N_keep (Kd.N_mono (ok := fun k_ => (((((w.heap.size ≤ k_)) ∧ k_ ≠ g) ∧ some k_ ≠ (.slice Ao21 t541.length co21 : Value).ownBlock) ∧ some k_ ≠ (v549 : Value).ownBlock)) (hN HO_5.out) (fun k_ hk_ => (⟨hk_, hk_.1.1.2⟩ : _ ∧ k_ ≠ g))) hk (fun _ h => h.2)) (fun _ h => h.1)); replace HO543 := ak (Kd.R_mono (Kd.R_keep (IsS79.apart (show IsS79 w0 _ g s0_0 t547 from by repeat (first | exact HI0.out | apply IsS79.alloc | apply IsS79.drewN | apply IsS79.drew | apply IsS79.set_1)) (hR HO543.out) (by decide)) hk (fun _ h => h.2)) (fun _ h => h.1)); replace HO550 := ak (Kd.N_mono (Kd.N_keep (Kd.N_mono (ok := fun k_ => (((w.heap.size ≤ k_)) ∧ (some k_ ≠ (.slice Ao19 x5_1.length co19 : Value).ownBlock ∧ (some k_ ≠ (.slice Ao21 t541.length co21 : Value).ownBlock ∧ k_ ≠ g)))) (hN HO550.out) (fun k_ hk_ => (⟨hk_, hk_.2.2.2⟩ : _ ∧ k_ ≠ g))) hk (fun _ h => h.2)) (fun _ h => h.1)); replace HK := ak (KeepBut.trans (by repeat (first | exact HK.out | apply KeepBut.set_ | apply keep_drewN | apply keep_drew | apply keep_alloc)) hk (.inl rfl)); replace HB := ak (hb); replace HI0 := ak (hi); (try clear hb)) | ((with_reducible refine gate_callee (f := 40) rfl ?_); refine gL (some 38) Try.func40 #[.pointer (some ⟨g, 0, none⟩), .slice Ao21 t541.length co21, .int .i64 0] ?_; (with_reducible refine (spec_l20Near.calls k1 g s0_0 t553 _ _ t541 0 t554 t555 w0 _ ?side1 ?side2 ?side3 ?side4 A17.out).mono ?_); (case side1 => repeat (first | exact HI0.out | apply IsS79.alloc | apply IsS79.drewN | apply IsS79.drew | apply IsS79.set_1)); (case side2 => repeat (first | exact HB.out | apply bA | apply bN | apply bD | refine bS ?_ (IsS79.ge HI0.out))); (case side3 => exact Kd.C_foot_own (IsS79.apart (show IsS79 w0 _ g s0_0 t553 from by repeat (first | exact HI0.out | apply IsS79.alloc | apply IsS79.drewN | apply IsS79.drew | apply IsS79.set_1)) (hR HO543.out) (by decide)) (fun _ h_ => h_.2)); (case side4 => exact (Kd.R_reads' HO543.out).2.1); rintro e w26 ⟨rfl, hi, hb, hk⟩; refine ⟨_, rfl, ?_⟩; replace HO_5 := ak (Kd.N_mono (Kd.N_keep (Kd.N_mono (ok := fun k_ => (((((w.heap.size ≤ k_)) ∧ k_ ≠ g) ∧ some k_ ≠ (.slice Ao21 t541.length co21 : Value).ownBlock) ∧ some k_ ≠ (v549 : Value).ownBlock)) (hN HO_5.out) (fun k_ hk_ => (⟨hk_, hk_.1.1.2⟩ : _ ∧ k_ ≠ g))) hk (fun _ h => h.2)) (fun _ h => h.1)); replace HO543 := ak (Kd.R_mono (Kd.R_keep (IsS79.apart (show IsS79 w0 _ g s0_0 t553 from by repeat (first | exact HI0.out | apply IsS79.alloc | apply IsS79.drewN | apply IsS79.drew | apply IsS79.set_1)) (hR HO543.out) (by decide)) hk (fun _ h => h.2)) (fun _ h => h.1)); replace HO550 := ak (Kd.N_mono (Kd.N_keep (Kd.N_mono (ok := fun k_ => (((w.heap.size ≤ k_)) ∧ (some k_ ≠ (.slice Ao19 x5_1.length co19 : Value).ownBlock ∧ (some k_ ≠ (.slice Ao21 t541.length co21 : Value).ownBlock ∧ k_ ≠ g)))) (hN HO550.out) (fun k_ hk_ => (⟨hk_, hk_.2.2.2⟩ : _ ∧ k_ ≠ g))) hk (fun _ h => h.2)) (fun _ h => h.1)); replace HK := ak (KeepBut.trans (by repeat (first | exact HK.out | apply KeepBut.set_ | apply keep_drewN | apply keep_drew | apply keep_alloc)) hk (.inl rfl)); replace HB := ak (hb); replace HI0 := ak (hi); (try clear hb)) | ((with_reducible refine gate_callee (f := 7) rfl ?_); refine gL (some 39) Try.func7 #[.slice Ao19 x5_1.length co19, .string t554] ?_; (with_reducible refine (spec_PagesDrop.calls k1 _ _ x5_1 t554 t556 t559 _ ?side1 ?side2 A18.out).mono ?_); (case side1 => exact hC (Kd.N_reads' HO_5.out).2.2); (case side2 => exact (Kd.N_reads' HO_5.out).2.1); rintro e w27 ⟨v557, rfl, ho0, hb⟩; refine ⟨_, rfl, ?_⟩; have HO558 := ak (Kd.N_lower (Kd.N_mono (ok' := fun k_ => (w.heap.size ≤ k_) ∧ some k_ ≠ (.slice Ao19 x5_1.length co19 : Value).ownBlock ∧ some k_ ≠ (.slice Ao21 t541.length co21 : Value).ownBlock ∧ some k_ ≠ (v549 : Value).ownBlock ∧ k_ ≠ g) ho0 (fun k_ hk_ => ⟨(Nat.le_trans (keep_size (w := w) (g := g) (row := none) (by repeat (first | exact HK.out | apply KeepBut.set_ | apply keep_drewN | apply keep_drew | apply keep_alloc))) hk_), (Kd.fresh' (Kd.N_lt (hN HO_5.out)) k_ hk_), (Kd.fresh' (Kd.R_lt (hR HO543.out)) k_ hk_), (Kd.fresh' (Kd.N_lt (hN HO550.out)) k_ hk_), (IsS79.fresh (by repeat (first | exact HI0.out | apply IsS79.alloc | apply IsS79.drewN | apply IsS79.drew | apply IsS79.set_1)) k_ hk_)⟩)) (keep_size (w := w) (g := g) (row := none) (by repeat (first | exact HK.out | apply KeepBut.set_ | apply keep_drewN | apply keep_drew | apply keep_alloc)))); replace HO_5 := ak (Kd.N_elder' (hN HO_5.out) (Kd.N_base ho0) hb); replace HO543 := ak (Kd.R_below (hR HO543.out) hb); replace HO550 := ak (Kd.N_elder' (hN HO550.out) (Kd.N_base ho0) hb); replace HK := ak (KeepBut.trans (by repeat (first | exact HK.out | apply KeepBut.set_ | apply keep_drewN | apply keep_drew | apply keep_alloc)) (KeepBut.of_below hb g none) (.inl rfl)); replace HB := ak (below_step (by repeat (first | exact HB.out | apply bA | apply bN | apply bD | refine bS ?_ (IsS79.ge HI0.out))) hb); replace HI0 := ak (IsS79.below (by repeat (first | exact HI0.out | apply IsS79.alloc | apply IsS79.drewN | apply IsS79.drew | apply IsS79.set_1)) hb); (try clear hb); (try clear ho0)))
     go_roundg k1
     case measure => have := HK1.out; omega
     case rel => exact ⟨(t556), (wrap64 (x6_1 - 1)), (t555), (by first | rfl | (simp [*]; done)), H', ⟨by have := HK1.out; omega⟩, ⟨by (with_reducible repeat (first | apply Kd.N_alloc | apply Kd.N_drewN | apply Kd.N_drew)); exact Kd.N_mono HO558.out (fun _ hk => ⟨hk.1, hk.2.2.2.2⟩)⟩, ⟨by repeat (first | exact HI0.out | apply IsS79.alloc | apply IsS79.drewN | apply IsS79.drew | apply IsS79.set_1)⟩, ⟨by repeat (first | exact HK.out | apply KeepBut.set_ | apply keep_drewN | apply keep_drew | apply keep_alloc)⟩, ⟨by repeat (first | exact HB.out | apply bA | apply bN | apply bD | refine bS ?_ (IsS79.ge HI0.out))⟩⟩
    ·rw [if_neg c16] at H
     have c16b0 : (t552 == 0) = false := beq_eq_false_iff_ne.mpr c16
     have c16b1 : (t552 != 0) = true := bne_iff_ne.mpr c16
     have H' := ak H
     clear H
     obtain ⟨Ao28, co28, eo28⟩ := Kd.N_slice HO_5.out
     subst eo28
     go_wp2_with (first | ((with_reducible refine gate_callee (f := 41) rfl ?_); refine gL (some 20) Try.func41 #[.slice Ao28 x5_1.length co28] ?_; (with_reducible refine (spec_PagesList.calls k1 _ _ x5_1 t541 _ ?side1 ?side2 A11.out).mono ?_); (case side1 => exact hC (Kd.N_reads' HO_5.out).2.2); (case side2 => exact (Kd.N_reads' HO_5.out).2.1); rintro e w29 ⟨v542, rfl, ho0, hb⟩; refine ⟨_, rfl, ?_⟩; replace HO_5 := ak (Kd.N_elder' (hN HO_5.out) (Kd.R_base ho0) hb); have HO543 := ak (Kd.R_lower (Kd.R_newM (M := fun k_ => (w.heap.size ≤ k_)) ho0 (keep_size (w := w) (g := g) (row := none) (by repeat (first | exact HK.out | apply KeepBut.set_ | apply keep_drewN | apply keep_drew | apply keep_alloc))) (fun k_ h_ => h_)) (keep_size (w := w) (g := g) (row := none) (by repeat (first | exact HK.out | apply KeepBut.set_ | apply keep_drewN | apply keep_drew | apply keep_alloc)))); replace HK := ak (KeepBut.trans (by repeat (first | exact HK.out | apply KeepBut.set_ | apply keep_drewN | apply keep_drew | apply keep_alloc)) (KeepBut.of_below hb g none) (.inl rfl)); replace HB := ak (below_step (by repeat (first | exact HB.out | apply bA | apply bN | apply bD | refine bS ?_ (IsS79.ge HI0.out))) hb); replace HI0 := ak (IsS79.below (by repeat (first | exact HI0.out | apply IsS79.alloc | apply IsS79.drewN | apply IsS79.drew | apply IsS79.set_1)) hb); (try clear hb); (try clear ho0); obtain ⟨Ao30, co30, eo30⟩ := Kd.R_slice HO543.out; subst eo30) | ((with_reducible refine gate_callee (f := 40) rfl ?_); refine gL (some 25) Try.func40 #[.pointer (some ⟨g, 0, none⟩), .slice Ao30 t541.length co30, .int .i64 0] ?_; (with_reducible refine (spec_l20Near.calls k1 g s0_0 x1001_1 _ _ t541 0 t544 t545 w0 _ ?side1 ?side2 ?side3 ?side4 A12.out).mono ?_); (case side1 => repeat (first | exact HI0.out | apply IsS79.alloc | apply IsS79.drewN | apply IsS79.drew | apply IsS79.set_1)); (case side2 => repeat (first | exact HB.out | apply bA | apply bN | apply bD | refine bS ?_ (IsS79.ge HI0.out))); (case side3 => exact Kd.C_foot_own (IsS79.apart (show IsS79 w0 _ g s0_0 x1001_1 from by repeat (first | exact HI0.out | apply IsS79.alloc | apply IsS79.drewN | apply IsS79.drew | apply IsS79.set_1)) (hR HO543.out) (by decide)) (fun _ h_ => h_.2)); (case side4 => exact (Kd.R_reads' HO543.out).2.1); rintro e w31 ⟨rfl, hi, hb, hk⟩; refine ⟨_, rfl, ?_⟩; replace HO_5 := ak (Kd.N_mono (Kd.N_keep (Kd.N_mono (ok := fun k_ => ((((w.heap.size ≤ k_)) ∧ k_ ≠ g) ∧ some k_ ≠ (.slice Ao30 t541.length co30 : Value).ownBlock)) (hN HO_5.out) (fun k_ hk_ => (⟨hk_, hk_.1.2⟩ : _ ∧ k_ ≠ g))) hk (fun _ h => h.2)) (fun _ h => h.1)); replace HO543 := ak (Kd.R_mono (Kd.R_keep (IsS79.apart (show IsS79 w0 _ g s0_0 x1001_1 from by repeat (first | exact HI0.out | apply IsS79.alloc | apply IsS79.drewN | apply IsS79.drew | apply IsS79.set_1)) (hR HO543.out) (by decide)) hk (fun _ h => h.2)) (fun _ h => h.1)); replace HK := ak (KeepBut.trans (by repeat (first | exact HK.out | apply KeepBut.set_ | apply keep_drewN | apply keep_drew | apply keep_alloc)) hk (.inl rfl)); replace HB := ak (hb); replace HI0 := ak (hi); (try clear hb)) | ((with_reducible refine gate_callee (f := 42) rfl ?_); refine gL (some 27) Try.func42 #[.pointer (some ⟨g, 0, none⟩), .int .i64 0] ?_; (with_reducible refine (spec_l20Value.calls k1 g s0_0 t545 0 t546 t547 w0 _ ?side1 ?side2 A13.out).mono ?_); (case side1 => repeat (first | exact HI0.out | apply IsS79.alloc | apply IsS79.drewN | apply IsS79.drew | apply IsS79.set_1)); (case side2 => repeat (first | exact HB.out | apply bA | apply bN | apply bD | refine bS ?_ (IsS79.ge HI0.out))); rintro e w32 ⟨rfl, hi, hb, hk⟩; refine ⟨_, rfl, ?_⟩; replace HO_5 := ak (Kd.N_mono (Kd.N_keep (Kd.N_mono (ok := fun k_ => ((((w.heap.size ≤ k_)) ∧ k_ ≠ g) ∧ some k_ ≠ (.slice Ao30 t541.length co30 : Value).ownBlock)) (hN HO_5.out) (fun k_ hk_ => (⟨hk_, hk_.1.2⟩ : _ ∧ k_ ≠ g))) hk (fun _ h => h.2)) (fun _ h => h.1)); replace HO543 := ak (Kd.R_mono (Kd.R_keep (IsS79.apart (show IsS79 w0 _ g s0_0 t545 from by repeat (first | exact HI0.out | apply IsS79.alloc | apply IsS79.drewN | apply IsS79.drew | apply IsS79.set_1)) (hR HO543.out) (by decide)) hk (fun _ h => h.2)) (fun _ h => h.1)); replace HK := ak (KeepBut.trans (by repeat (first | exact HK.out | apply KeepBut.set_ | apply keep_drewN | apply keep_drew | apply keep_alloc)) hk (.inl rfl)); replace HB := ak (hb); replace HI0 := ak (hi); (try clear hb)) | ((with_reducible refine gate_callee (f := 15) rfl ?_); refine gL (some 28) Try.func15 #[.slice Ao28 x5_1.length co28, .string t544, .int .i64 t546] ?_; (with_reducible refine (spec_PagesPut.calls k1 _ _ x5_1 t544 t546 t548 t551 _ ?side1 ?side2 A14.out).mono ?_); (case side1 => exact hC (Kd.N_reads' HO_5.out).2.2); (case side2 => exact (Kd.N_reads' HO_5.out).2.1); rintro e w33 ⟨v549, rfl, ho0, hb⟩; refine ⟨_, rfl, ?_⟩; have HO550 := ak (Kd.N_lower (Kd.N_mono (ok' := fun k_ => (w.heap.size ≤ k_) ∧ some k_ ≠ (.slice Ao28 x5_1.length co28 : Value).ownBlock ∧ some k_ ≠ (.slice Ao30 t541.length co30 : Value).ownBlock ∧ k_ ≠ g) ho0 (fun k_ hk_ => ⟨(Nat.le_trans (keep_size (w := w) (g := g) (row := none) (by repeat (first | exact HK.out | apply KeepBut.set_ | apply keep_drewN | apply keep_drew | apply keep_alloc))) hk_), (Kd.fresh' (Kd.N_lt (hN HO_5.out)) k_ hk_), (Kd.fresh' (Kd.R_lt (hR HO543.out)) k_ hk_), (IsS79.fresh (by repeat (first | exact HI0.out | apply IsS79.alloc | apply IsS79.drewN | apply IsS79.drew | apply IsS79.set_1)) k_ hk_)⟩)) (keep_size (w := w) (g := g) (row := none) (by repeat (first | exact HK.out | apply KeepBut.set_ | apply keep_drewN | apply keep_drew | apply keep_alloc)))); replace HO_5 := ak (Kd.N_elder' (hN HO_5.out) (Kd.N_base ho0) hb); replace HO543 := ak (Kd.R_below (hR HO543.out) hb); replace HK := ak (KeepBut.trans (by repeat (first | exact HK.out | apply KeepBut.set_ | apply keep_drewN | apply keep_drew | apply keep_alloc)) (KeepBut.of_below hb g none) (.inl rfl)); replace HB := ak (below_step (by repeat (first | exact HB.out | apply bA | apply bN | apply bD | refine bS ?_ (IsS79.ge HI0.out))) hb); replace HI0 := ak (IsS79.below (by repeat (first | exact HI0.out | apply IsS79.alloc | apply IsS79.drewN | apply IsS79.drew | apply IsS79.set_1)) hb); (try clear hb); (try clear ho0)) | ((with_reducible refine gate_callee (f := 62) rfl ?_); refine gL (some 32) Try.func62 #[.pointer (some ⟨g, 0, none⟩), .int .i64 3] ?_; (with_reducible refine (spec_l20Rd_pick.calls k1 g s0_0 t547 3 t552 t553 w0 _ ?side1 ?side2 A15.out).mono ?_); (case side1 => repeat (first | exact HI0.out | apply IsS79.alloc | apply IsS79.drewN | apply IsS79.drew | apply IsS79.set_1)); (case side2 => repeat (first | exact HB.out | apply bA | apply bN | apply bD | refine bS ?_ (IsS79.ge HI0.out))); rintro e w34 ⟨rfl, hi, hb, hk⟩; refine ⟨_, rfl, ?_⟩; replace HO_5 := ak (Kd.N_mono (Kd.N_keep (Kd.N_mono (ok := fun k_ => (((((w.heap.size ≤ k_)) ∧ k_ ≠ g) ∧ some k_ ≠ (.slice Ao30 t541.length co30 : Value).ownBlock) ∧ some k_ ≠ (v549 : Value).ownBlock)) (hN HO_5.out) (fun k_ hk_ => (⟨hk_, hk_.1.1.2⟩ : _ ∧ k_ ≠ g))) hk (fun _ h => h.2)) (fun _ h => h.1)); replace HO543 := ak (Kd.R_mono (Kd.R_keep (IsS79.apart (show IsS79 w0 _ g s0_0 t547 from by repeat (first | exact HI0.out | apply IsS79.alloc | apply IsS79.drewN | apply IsS79.drew | apply IsS79.set_1)) (hR HO543.out) (by decide)) hk (fun _ h => h.2)) (fun _ h => h.1)); replace HO550 := ak (Kd.N_mono (Kd.N_keep (Kd.N_mono (ok := fun k_ => (((w.heap.size ≤ k_)) ∧ (some k_ ≠ (.slice Ao28 x5_1.length co28 : Value).ownBlock ∧ (some k_ ≠ (.slice Ao30 t541.length co30 : Value).ownBlock ∧ k_ ≠ g)))) (hN HO550.out) (fun k_ hk_ => (⟨hk_, hk_.2.2.2⟩ : _ ∧ k_ ≠ g))) hk (fun _ h => h.2)) (fun _ h => h.1)); replace HK := ak (KeepBut.trans (by repeat (first | exact HK.out | apply KeepBut.set_ | apply keep_drewN | apply keep_drew | apply keep_alloc)) hk (.inl rfl)); replace HB := ak (hb); replace HI0 := ak (hi); (try clear hb)))
     go_roundg k1
     case measure => have := HK1.out; omega
     case rel => exact ⟨(t548), (wrap64 (x6_1 - 1)), (t553), (by first | rfl | (simp [*]; done)), H', ⟨by have := HK1.out; omega⟩, ⟨by (with_reducible repeat (first | apply Kd.N_alloc | apply Kd.N_drewN | apply Kd.N_drew)); exact Kd.N_mono HO550.out (fun _ hk => ⟨hk.1, hk.2.2.2⟩)⟩, ⟨by repeat (first | exact HI0.out | apply IsS79.alloc | apply IsS79.drewN | apply IsS79.drew | apply IsS79.set_1)⟩, ⟨by repeat (first | exact HK.out | apply KeepBut.set_ | apply keep_drewN | apply keep_drew | apply keep_alloc)⟩, ⟨by repeat (first | exact HB.out | apply bA | apply bN | apply bD | refine bS ?_ (IsS79.ge HI0.out))⟩⟩
   ·rw [if_neg c10] at H
    have c10b0 : decide (0 < x6_1) = false := decide_eq_false c10
    clear c10
    replace H := Option.bind_eq_some_iff.mp H
    obtain ⟨⟨t560, t561⟩, A350, H⟩ := H
    try dsimp only at H
    have A35 := ak A350
    clear A350
    by_cases c36 : t560 = true
    ·subst c36
     rw [if_pos rfl] at H
     replace H := Option.bind_eq_some_iff.mp H
     obtain ⟨⟨t562, t563⟩, A370, H⟩ := H
     try dsimp only at H
     have A37 := ak A370
     clear A370
     by_cases c38 : t562 = 0
     ·rw [if_pos c38] at H
      have c38b0 : (t562 == 0) = true := beq_iff_eq.mpr c38
      have c38b1 : (t562 != 0) = false := bne_eq_false_iff_eq.mpr c38
      clear c38
      by_cases c39 : x5_1.length < 5864062014805
      ·rw [if_pos c39] at H
       have LMc39 := ak c39
       clear c39
       obtain ⟨y564, hy564⟩ : ∃ y_ : List (S53), y_ = (x5_1 ++ [(⟨([] : List (S65))⟩ : S53)]) := ⟨_, rfl⟩
       replace H : (some (y564, t563)) = some (r1, r2) := by first | (rw [hy564]; exact H) | exact H
       have Ny564 := ak hy564
       clear hy564
       simp only [Option.some.injEq, Prod.mk.injEq] at H
       obtain ⟨rfl, rfl⟩ := H
       go_wp2_with (first | ((with_reducible refine gate_callee (f := 63) rfl ?_); refine gL (some 45) Try.func63 #[.pointer (some ⟨g, 0, none⟩), .int .i64 a1] ?_; (with_reducible refine (spec_l20Rd_odd.calls k1 g s0_0 x1001_1 a1 true t561 w0 _ ?side1 ?side2 A35.out).mono ?_); (case side1 => repeat (first | exact HI0.out | apply IsS79.alloc | apply IsS79.drewN | apply IsS79.drew | apply IsS79.set_1)); (case side2 => repeat (first | exact HB.out | apply bA | apply bN | apply bD | refine bS ?_ (IsS79.ge HI0.out))); rintro e w40 ⟨rfl, hi, hb, hk⟩; refine ⟨_, rfl, ?_⟩; replace HO_5 := ak (Kd.N_mono (Kd.N_keep (Kd.N_mono (ok := fun k_ => (((w.heap.size ≤ k_)) ∧ k_ ≠ g)) (hN HO_5.out) (fun k_ hk_ => (⟨hk_, hk_.2⟩ : _ ∧ k_ ≠ g))) hk (fun _ h => h.2)) (fun _ h => h.1)); replace HK := ak (KeepBut.trans (by repeat (first | exact HK.out | apply KeepBut.set_ | apply keep_drewN | apply keep_drew | apply keep_alloc)) hk (.inl rfl)); replace HB := ak (hb); replace HI0 := ak (hi); (try clear hb)) | ((with_reducible refine gate_callee (f := 62) rfl ?_); refine gL (some 47) Try.func62 #[.pointer (some ⟨g, 0, none⟩), .int .i64 3] ?_; (with_reducible refine (spec_l20Rd_pick.calls k1 g s0_0 t561 3 t562 t563 w0 _ ?side1 ?side2 A37.out).mono ?_); (case side1 => repeat (first | exact HI0.out | apply IsS79.alloc | apply IsS79.drewN | apply IsS79.drew | apply IsS79.set_1)); (case side2 => repeat (first | exact HB.out | apply bA | apply bN | apply bD | refine bS ?_ (IsS79.ge HI0.out))); rintro e w41 ⟨rfl, hi, hb, hk⟩; refine ⟨_, rfl, ?_⟩; replace HO_5 := ak (Kd.N_mono (Kd.N_keep (Kd.N_mono (ok := fun k_ => (((w.heap.size ≤ k_)) ∧ k_ ≠ g)) (hN HO_5.out) (fun k_ hk_ => (⟨hk_, hk_.2⟩ : _ ∧ k_ ≠ g))) hk (fun _ h => h.2)) (fun _ h => h.1)); replace HK := ak (KeepBut.trans (by repeat (first | exact HK.out | apply KeepBut.set_ | apply keep_drewN | apply keep_drew | apply keep_alloc)) hk (.inl rfl)); replace HB := ak (hb); replace HI0 := ak (hi); (try clear hb)) | ((with_reducible refine gate_builtin (b := .append) (xs := #[.tmp 60, .tmp 62]) rfl ?_); at_builtin; refine Kd.N_append k53 w.heap.size rfl (.tmp 60) (.tmp 62) 24 53 (.agg #[(.slice none 0 0)]) 24 rfl Try.underlying24 info53 rfl (by decide) (by omega) u5 x5_1 (⟨([] : List (S65))⟩ : S53) [.slice none 0 0] (fun k_ => (w.heap.size ≤ k_) ∧ k_ ≠ g) (fun k_ => ((fun k_ => (w.heap.size ≤ k_) ∧ k_ ≠ g)) k_ ∧ some k_ ≠ (u5 : Value).ownBlock) rfl rfl ?aP (fun _ hk => hk) ?aF ?aO (Below.refl _ _) ?aS ?aL ?_; (case aP => exact (k53_mkF _ _ (⟨([] : List (S65))⟩ : S53) (Nat.le_refl _) (Kd.F_nil _ _ _))); (case aF => exact (fun k_ hk => ⟨(Nat.le_trans (keep_size (w := w) (g := g) (row := none) (by repeat (first | exact HK.out | apply KeepBut.set_ | apply keep_drewN | apply keep_drew | apply keep_alloc))) hk), IsS79.fresh (by repeat (first | exact HI0.out | apply IsS79.alloc | apply IsS79.drewN | apply IsS79.drew | apply IsS79.set_1)) k_ hk⟩)); (case aO => exact (hN HO_5.out)); (case aS => exact (keep_size (w := w) (g := g) (row := none) (by repeat (first | exact HK.out | apply KeepBut.set_ | apply keep_drewN | apply keep_drew | apply keep_alloc)))); (case aL => have := LMc39.out; omega); intro v565 w42 ho hb hg hat; rw [← Ny564.out] at ho; replace HB := ak (below_weaken (by repeat (first | exact HB.out | apply bA | apply bN | apply bD | refine bS ?_ (IsS79.ge HI0.out))) HL.out hb); replace HI0 := ak (IsS79.grown (by repeat (first | exact HI0.out | apply IsS79.alloc | apply IsS79.drewN | apply IsS79.drew | apply IsS79.set_1)) hg (IsS79.own_neN HI0.out HO_5.out (by decide))); replace HK := ak (KeepBut.trans (by repeat (first | exact HK.out | apply KeepBut.set_ | apply keep_drewN | apply keep_drew | apply keep_alloc)) (KeepBut.of_grown hg g) (Kd.N_base2 HO_5.out)); have HO566 := ak (ho); clear HO_5; clear ho hb hg hat))
       go_ret
       exact ⟨_, by first | rfl | (simp [*, errW_none, errW_some] <;> rfl), by (with_reducible repeat (first | apply Kd.N_alloc | apply Kd.N_drewN | apply Kd.N_drew)); exact Kd.N_mono HO566.out (fun _ hk => hk.1), by repeat (first | exact HI0.out | apply IsS79.alloc | apply IsS79.drewN | apply IsS79.drew | apply IsS79.set_1), by repeat (first | exact HB.out | apply bA | apply bN | apply bD | refine bS ?_ (IsS79.ge HI0.out)), by repeat (first | exact HK.out | apply KeepBut.set_ | apply keep_drewN | apply keep_drew | apply keep_alloc)⟩
      ·rw [if_neg c39] at H
       exact absurd H (by simp)
     ·rw [if_neg c38] at H
      have c38b0 : (t562 == 0) = false := beq_eq_false_iff_ne.mpr c38
      have c38b1 : (t562 != 0) = true := bne_iff_ne.mpr c38
      by_cases c43 : t562 = 1
      ·rw [if_pos c43] at H
       have c43b0 : (t562 == 1) = true := beq_iff_eq.mpr c43
       have c43b1 : (t562 != 1) = false := bne_eq_false_iff_eq.mpr c43
       clear c43
       obtain ⟨y567, hy567⟩ : ∃ y_ : List (S65), y_ = (([(⟨(⟨#[122, 122, 122, 122]⟩ : ByteArray), 0⟩ : S65)] : List (S65))) := ⟨_, rfl⟩
       replace H : ((some (([(⟨y567⟩ : S53), (⟨(([(⟨(⟨#[122, 122, 122, 122]⟩ : ByteArray), 0⟩ : S65), (⟨(⟨#[122, 122, 122, 122]⟩ : ByteArray), 0⟩ : S65)] : List (S65)))⟩ : S53)] : List (S53)) : List (S53))).bind fun y573 => (if x5_1.length + y573.length < 5864062014805 then (some ((x5_1 ++ y573), t563)) else (none))) = some (r1, r2) := by first | (rw [hy567]; exact H) | exact H
       have Ny567 := ak hy567
       clear hy567
       obtain ⟨y570, hy570⟩ : ∃ y_ : List (S65), y_ = (([(⟨(⟨#[122, 122, 122, 122]⟩ : ByteArray), 0⟩ : S65), (⟨(⟨#[122, 122, 122, 122]⟩ : ByteArray), 0⟩ : S65)] : List (S65))) := ⟨_, rfl⟩
       replace H : ((some (([(⟨y567⟩ : S53), (⟨y570⟩ : S53)] : List (S53)) : List (S53))).bind fun y573 => (if x5_1.length + y573.length < 5864062014805 then (some ((x5_1 ++ y573), t563)) else (none))) = some (r1, r2) := by first | (rw [hy570]; exact H) | exact H
       have Ny570 := ak hy570
       clear hy570
       obtain ⟨y573, hy573⟩ : ∃ y_ : List (S53), y_ = (([(⟨y567⟩ : S53), (⟨y570⟩ : S53)] : List (S53))) := ⟨_, rfl⟩
       replace H : (if x5_1.length + y573.length < 5864062014805 then (some ((x5_1 ++ y573), t563)) else (none)) = some (r1, r2) := by first | (rw [hy573]; exact H) | exact H
       have Ny573 := ak hy573
       clear hy573
       by_cases c44 : x5_1.length + y573.length < 5864062014805
       ·rw [if_pos c44] at H
        have LMc44 := ak c44
        clear c44
        obtain ⟨y576, hy576⟩ : ∃ y_ : List (S53), y_ = (x5_1 ++ y573) := ⟨_, rfl⟩
        replace H : (some (y576, t563)) = some (r1, r2) := by first | (rw [hy576]; exact H) | exact H
        have Ny576 := ak hy576
        clear hy576
        simp only [Option.some.injEq, Prod.mk.injEq] at H
        obtain ⟨rfl, rfl⟩ := H
        go_wp2_with (first | ((with_reducible refine gate_callee (f := 63) rfl ?_); refine gL (some 45) Try.func63 #[.pointer (some ⟨g, 0, none⟩), .int .i64 a1] ?_; (with_reducible refine (spec_l20Rd_odd.calls k1 g s0_0 x1001_1 a1 true t561 w0 _ ?side1 ?side2 A35.out).mono ?_); (case side1 => repeat (first | exact HI0.out | apply IsS79.alloc | apply IsS79.drewN | apply IsS79.drew | apply IsS79.set_1)); (case side2 => repeat (first | exact HB.out | apply bA | apply bN | apply bD | refine bS ?_ (IsS79.ge HI0.out))); rintro e w45 ⟨rfl, hi, hb, hk⟩; refine ⟨_, rfl, ?_⟩; replace HO_5 := ak (Kd.N_mono (Kd.N_keep (Kd.N_mono (ok := fun k_ => (((w.heap.size ≤ k_)) ∧ k_ ≠ g)) (hN HO_5.out) (fun k_ hk_ => (⟨hk_, hk_.2⟩ : _ ∧ k_ ≠ g))) hk (fun _ h => h.2)) (fun _ h => h.1)); replace HK := ak (KeepBut.trans (by repeat (first | exact HK.out | apply KeepBut.set_ | apply keep_drewN | apply keep_drew | apply keep_alloc)) hk (.inl rfl)); replace HB := ak (hb); replace HI0 := ak (hi); (try clear hb)) | ((with_reducible refine gate_callee (f := 62) rfl ?_); refine gL (some 47) Try.func62 #[.pointer (some ⟨g, 0, none⟩), .int .i64 3] ?_; (with_reducible refine (spec_l20Rd_pick.calls k1 g s0_0 t561 3 t562 t563 w0 _ ?side1 ?side2 A37.out).mono ?_); (case side1 => repeat (first | exact HI0.out | apply IsS79.alloc | apply IsS79.drewN | apply IsS79.drew | apply IsS79.set_1)); (case side2 => repeat (first | exact HB.out | apply bA | apply bN | apply bD | refine bS ?_ (IsS79.ge HI0.out))); rintro e w46 ⟨rfl, hi, hb, hk⟩; refine ⟨_, rfl, ?_⟩; replace HO_5 := ak (Kd.N_mono (Kd.N_keep (Kd.N_mono (ok := fun k_ => (((w.heap.size ≤ k_)) ∧ k_ ≠ g)) (hN HO_5.out) (fun k_ hk_ => (⟨hk_, hk_.2⟩ : _ ∧ k_ ≠ g))) hk (fun _ h => h.2)) (fun _ h => h.1)); replace HK := ak (KeepBut.trans (by repeat (first | exact HK.out | apply KeepBut.set_ | apply keep_drewN | apply keep_drew | apply keep_alloc)) hk (.inl rfl)); replace HB := ak (hb); replace HI0 := ak (hi); (try clear hb)) | ((with_reducible refine gate_dst (N := 68) rfl ?_); refine Kd.R_lit k65 _ 65 ?hg (N := 68) ?hd (xs := ([(⟨(⟨#[122, 122, 122, 122]⟩ : ByteArray), 0⟩ : S65)] : List (S65))) (inner := [.string (⟨#[122, 122, 122, 122]⟩ : ByteArray), .int .i64 0]) (ok := fun _ => True) (okp := fun _ => True) ?hr ?hp (fun _ hk => hk) trivial (Below.refl _ _) (Nat.le_refl _) (by simp) ?_; (case hd => rfl); (case hg => rfl); (case hr => go_simp <;> rfl); (case hp => exact (Reps.c2 (show Kd.M k65 _ _ _ (⟨(⟨#[122, 122, 122, 122]⟩ : ByteArray), 0⟩ : S65) [.string (⟨#[122, 122, 122, 122]⟩ : ByteArray), .int .i64 0] from (k65_mkM _ _ _ (⟨(⟨#[122, 122, 122, 122]⟩ : ByteArray), 0⟩ : S65) )) (Reps.none _ _))); intro v568 w47 ho48 hb hg_ hnew_; clear hg_ hnew_; (first | rw [← Ny567.out] at ho48 | (simp only [Int.reduceToNat] at ho48; rw [← Ny567.out] at ho48)); replace HO_5 := ak (Kd.N_elder' (hN HO_5.out) (Kd.R_base ho48) hb); have HO569 := ak (Kd.R_lower (Kd.R_newM (M := fun k_ => (w.heap.size ≤ k_)) ho48 (keep_size (w := w) (g := g) (row := none) (by repeat (first | exact HK.out | apply KeepBut.set_ | apply keep_drewN | apply keep_drew | apply keep_alloc))) (fun k_ h_ => h_)) (keep_size (w := w) (g := g) (row := none) (by repeat (first | exact HK.out | apply KeepBut.set_ | apply keep_drewN | apply keep_drew | apply keep_alloc)))); replace HK := ak (KeepBut.trans (by repeat (first | exact HK.out | apply KeepBut.set_ | apply keep_drewN | apply keep_drew | apply keep_alloc)) (KeepBut.of_below hb g none) (.inl rfl)); replace HB := ak (below_step (by repeat (first | exact HB.out | apply bA | apply bN | apply bD | refine bS ?_ (IsS79.ge HI0.out))) hb); replace HI0 := ak (IsS79.below (by repeat (first | exact HI0.out | apply IsS79.alloc | apply IsS79.drewN | apply IsS79.drew | apply IsS79.set_1)) hb); clear hb ho48; obtain ⟨Ao49, co49, eo49⟩ := Kd.R_slice HO569.out; subst eo49) | ((with_reducible refine gate_dst (N := 72) rfl ?_); refine Kd.R_lit k65 _ 65 ?hg (N := 72) ?hd (xs := ([(⟨(⟨#[122, 122, 122, 122]⟩ : ByteArray), 0⟩ : S65), (⟨(⟨#[122, 122, 122, 122]⟩ : ByteArray), 0⟩ : S65)] : List (S65))) (inner := [.string (⟨#[122, 122, 122, 122]⟩ : ByteArray), .int .i64 0, .string (⟨#[122, 122, 122, 122]⟩ : ByteArray), .int .i64 0]) (ok := fun _ => True) (okp := fun _ => True) ?hr ?hp (fun _ hk => hk) trivial (Below.refl _ _) (Nat.le_refl _) (by simp) ?_; (case hd => rfl); (case hg => rfl); (case hr => go_simp <;> rfl); (case hp => exact (Reps.c2 (show Kd.M k65 _ _ _ (⟨(⟨#[122, 122, 122, 122]⟩ : ByteArray), 0⟩ : S65) [.string (⟨#[122, 122, 122, 122]⟩ : ByteArray), .int .i64 0] from (k65_mkM _ _ _ (⟨(⟨#[122, 122, 122, 122]⟩ : ByteArray), 0⟩ : S65) )) (Reps.c2 (show Kd.M k65 _ _ _ (⟨(⟨#[122, 122, 122, 122]⟩ : ByteArray), 0⟩ : S65) [.string (⟨#[122, 122, 122, 122]⟩ : ByteArray), .int .i64 0] from (k65_mkM _ _ _ (⟨(⟨#[122, 122, 122, 122]⟩ : ByteArray), 0⟩ : S65) )) (Reps.none _ _)))); intro v571 w50 ho51 hb hg_ hnew_; clear hg_ hnew_; (first | rw [← Ny570.out] at ho51 | (simp only [Int.reduceToNat] at ho51; rw [← Ny570.out] at ho51)); replace HO_5 := ak (Kd.N_elder' (hN HO_5.out) (Kd.R_base ho51) hb); have HO572 := ak (Kd.R_lower (Kd.R_new' (Kd.R_newM (M := fun k_ => (w.heap.size ≤ k_)) ho51 (keep_size (w := w) (g := g) (row := none) (by repeat (first | exact HK.out | apply KeepBut.set_ | apply keep_drewN | apply keep_drew | apply keep_alloc))) (fun k_ h_ => h_)) (Kd.R_lt (hR HO569.out))) (keep_size (w := w) (g := g) (row := none) (by repeat (first | exact HK.out | apply KeepBut.set_ | apply keep_drewN | apply keep_drew | apply keep_alloc)))); replace HO569 := ak (Kd.R_elder' (hR HO569.out) (Kd.R_base ho51) hb); replace HK := ak (KeepBut.trans (by repeat (first | exact HK.out | apply KeepBut.set_ | apply keep_drewN | apply keep_drew | apply keep_alloc)) (KeepBut.of_below hb g none) (.inl rfl)); replace HB := ak (below_step (by repeat (first | exact HB.out | apply bA | apply bN | apply bD | refine bS ?_ (IsS79.ge HI0.out))) hb); replace HI0 := ak (IsS79.below (by repeat (first | exact HI0.out | apply IsS79.alloc | apply IsS79.drewN | apply IsS79.drew | apply IsS79.set_1)) hb); clear hb ho51; obtain ⟨Ao52, co52, eo52⟩ := Kd.R_slice HO572.out; subst eo52) | ((with_reducible refine gate_dst (N := 74) rfl ?_); refine Kd.N_lit k53 _ 53 ?hg (N' := 74) ?hd (xs := ([(⟨y567⟩ : S53), (⟨y570⟩ : S53)] : List (S53))) (inner := [.slice Ao49 y567.length co49, .slice Ao52 y570.length co52]) (ok := (fun k_ => (w.heap.size ≤ k_) ∧ some k_ ≠ (u5 : Value).ownBlock ∧ k_ ≠ g)) (okp := (fun k_ => (w.heap.size ≤ k_) ∧ some k_ ≠ (u5 : Value).ownBlock ∧ k_ ≠ g)) ?hr ?hp (fun _ hk => hk) ((show ∀ k_, w50.heap.size ≤ k_ → (fun k_ => (w.heap.size ≤ k_) ∧ some k_ ≠ (u5 : Value).ownBlock ∧ k_ ≠ g) k_ from fun k_ hk => ⟨(Nat.le_trans (keep_size (w := w) (g := g) (row := none) (by repeat (first | exact HK.out | apply KeepBut.set_ | apply keep_drewN | apply keep_drew | apply keep_alloc))) hk), Kd.fresh' (Kd.N_lt (hN HO_5.out)) k_ hk, IsS79.fresh (by repeat (first | exact HI0.out | apply IsS79.alloc | apply IsS79.drewN | apply IsS79.drew | apply IsS79.set_1)) k_ hk⟩) _ (Nat.le_refl _)) (Below.refl _ _) (Nat.le_refl _) (by simp) ?_; (case hd => rfl); (case hg => rfl); (case hr => go_simp <;> rfl); (case hp => exact (Reps.one (show Kd.FK k53 _ _ (⟨y567⟩ : S53) [.slice Ao49 y567.length co49] from (k53_mkF _ _ (⟨y567⟩ : S53) (Kd.R_reads' (Kd.R_mono (ok' := (fun k_ => (w.heap.size ≤ k_) ∧ some k_ ≠ (u5 : Value).ownBlock ∧ k_ ≠ g)) (IsS79.apart HI0.out (Kd.R_apart' (HO569.out) (Kd.N_typed HO_5.out) (by decide)) (by decide)) (fun k_ hk => ⟨hk.1.1.1.1, ⟨hk.1.2, hk.2⟩⟩))).2.1 (Kd.R_F (Kd.R_mono (ok' := (fun k_ => (w.heap.size ≤ k_) ∧ some k_ ≠ (u5 : Value).ownBlock ∧ k_ ≠ g)) (IsS79.apart HI0.out (Kd.R_apart' (HO569.out) (Kd.N_typed HO_5.out) (by decide)) (by decide)) (fun k_ hk => ⟨hk.1.1.1.1, ⟨hk.1.2, hk.2⟩⟩))))) (Reps.one (show Kd.FK k53 _ _ (⟨y570⟩ : S53) [.slice Ao52 y570.length co52] from (k53_mkF _ _ (⟨y570⟩ : S53) (Kd.R_reads' (Kd.R_mono (ok' := (fun k_ => (w.heap.size ≤ k_) ∧ some k_ ≠ (u5 : Value).ownBlock ∧ k_ ≠ g)) (IsS79.apart HI0.out (Kd.R_apart' (HO572.out) (Kd.N_typed HO_5.out) (by decide)) (by decide)) (fun k_ hk => ⟨hk.1.1.1.1, ⟨hk.1.2, hk.2⟩⟩))).2.1 (Kd.R_F (Kd.R_mono (ok' := (fun k_ => (w.heap.size ≤ k_) ∧ some k_ ≠ (u5 : Value).ownBlock ∧ k_ ≠ g)) (IsS79.apart HI0.out (Kd.R_apart' (HO572.out) (Kd.N_typed HO_5.out) (by decide)) (by decide)) (fun k_ hk => ⟨hk.1.1.1.1, ⟨hk.1.2, hk.2⟩⟩))))) (Reps.none _ _)))); intro v574 w53 ho54 hb hg_ hnew_; clear hg_ hnew_; (first | rw [← Ny573.out] at ho54 | (simp only [Int.reduceToNat] at ho54; rw [← Ny573.out] at ho54)); replace HO_5 := ak (Kd.N_elder' (hN HO_5.out) (Kd.N_base ho54) hb); have HO575 := ak (Kd.N_lower ho54 (keep_size (w := w) (g := g) (row := none) (by repeat (first | exact HK.out | apply KeepBut.set_ | apply keep_drewN | apply keep_drew | apply keep_alloc)))); replace HK := ak (KeepBut.trans (by repeat (first | exact HK.out | apply KeepBut.set_ | apply keep_drewN | apply keep_drew | apply keep_alloc)) (KeepBut.of_below hb g none) (.inl rfl)); replace HB := ak (below_step (by repeat (first | exact HB.out | apply bA | apply bN | apply bD | refine bS ?_ (IsS79.ge HI0.out))) hb); replace HI0 := ak (IsS79.below (by repeat (first | exact HI0.out | apply IsS79.alloc | apply IsS79.drewN | apply IsS79.drew | apply IsS79.set_1)) hb); clear HO569 HO572; clear hb ho54; obtain ⟨Ao56, co56, eo56⟩ := Kd.N_slice HO575.out; subst eo56) | ((with_reducible refine gate_builtin (b := .append) (xs := #[.tmp 66, .tmp 74]) rfl ?_); at_builtin; refine Kd.N_append_rows k53 w.heap.size rfl (.tmp 66) (.tmp 74) 24 53 (.agg #[(.slice none 0 0)]) 24 rfl Try.underlying24 info53 rfl (by decide) (by omega) u5 x5_1 y573 _ _ _ (fun k_ => (w.heap.size ≤ k_) ∧ k_ ≠ g) (fun k_ => ((fun k_ => (w.heap.size ≤ k_) ∧ k_ ≠ g)) k_ ∧ some k_ ≠ (u5 : Value).ownBlock) rfl rfl ?aO ?aR (fun _ hk => hk) ?aF (Below.refl _ _) ?aS ?aL ?_; (case aR => exact (by skip; exact Kd.N_F (Kd.N_mono (ok' := (fun k_ => ((fun k_ => (w.heap.size ≤ k_) ∧ k_ ≠ g)) k_ ∧ some k_ ≠ (u5 : Value).ownBlock)) (HO575.out) (fun k_ hk => ⟨⟨hk.1, hk.2.2⟩, hk.2.1⟩)))); (case aF => exact (fun k_ hk => ⟨(Nat.le_trans (keep_size (w := w) (g := g) (row := none) (by repeat (first | exact HK.out | apply KeepBut.set_ | apply keep_drewN | apply keep_drew | apply keep_alloc))) hk), IsS79.fresh (by repeat (first | exact HI0.out | apply IsS79.alloc | apply IsS79.drewN | apply IsS79.drew | apply IsS79.set_1)) k_ hk⟩)); (case aO => exact (by (with_reducible repeat (first | apply Kd.N_alloc | apply Kd.N_drewN | apply Kd.N_drew)); exact Kd.N_mono HO_5.out (fun _ hk => ⟨hk.1.1.1.1, hk.1.1.1.2⟩))); (case aS => exact (keep_size (w := w) (g := g) (row := none) (by repeat (first | exact HK.out | apply KeepBut.set_ | apply keep_drewN | apply keep_drew | apply keep_alloc)))); (case aL => have := LMc44.out; omega); intro v577 w55 ho hb hg hat; rw [← Ny576.out] at ho; replace HO575 := ak (Kd.N_afterv (ok := (fun k_ => (w.heap.size ≤ k_) ∧ k_ ≠ g)) (by (with_reducible repeat (first | apply Kd.N_alloc | apply Kd.N_drewN | apply Kd.N_drew)); exact Kd.N_mono HO575.out (fun _ hk => ⟨⟨hk.1, hk.2.2⟩, hk.2.1⟩)) hg hat); replace HB := ak (below_weaken (by repeat (first | exact HB.out | apply bA | apply bN | apply bD | refine bS ?_ (IsS79.ge HI0.out))) HL.out hb); replace HI0 := ak (IsS79.grown (by repeat (first | exact HI0.out | apply IsS79.alloc | apply IsS79.drewN | apply IsS79.drew | apply IsS79.set_1)) hg (IsS79.own_neN HI0.out HO_5.out (by decide))); replace HK := ak (KeepBut.trans (by repeat (first | exact HK.out | apply KeepBut.set_ | apply keep_drewN | apply keep_drew | apply keep_alloc)) (KeepBut.of_grown hg g) (Kd.N_base2 HO_5.out)); have HO578 := ak (ho); clear HO_5; clear ho hb hg hat))
        go_ret
        exact ⟨_, by first | rfl | (simp [*, errW_none, errW_some] <;> rfl), by (with_reducible repeat (first | apply Kd.N_alloc | apply Kd.N_drewN | apply Kd.N_drew)); exact Kd.N_mono HO578.out (fun _ hk => hk.1), by repeat (first | exact HI0.out | apply IsS79.alloc | apply IsS79.drewN | apply IsS79.drew | apply IsS79.set_1), by repeat (first | exact HB.out | apply bA | apply bN | apply bD | refine bS ?_ (IsS79.ge HI0.out)), by repeat (first | exact HK.out | apply KeepBut.set_ | apply keep_drewN | apply keep_drew | apply keep_alloc)⟩
       ·rw [if_neg c44] at H
        exact absurd H (by simp)
      ·rw [if_neg c43] at H
       have c43b0 : (t562 == 1) = false := beq_eq_false_iff_ne.mpr c43
       have c43b1 : (t562 != 1) = true := bne_iff_ne.mpr c43
       obtain ⟨y579, hy579⟩ : ∃ y_ : List (S65), y_ = (([(⟨(⟨#[118]⟩ : ByteArray), 0⟩ : S65), (⟨(⟨#[119]⟩ : ByteArray), 0⟩ : S65), (⟨(⟨#[120]⟩ : ByteArray), 0⟩ : S65), (⟨(⟨#[121]⟩ : ByteArray), 0⟩ : S65), (⟨(⟨#[122, 122]⟩ : ByteArray), 0⟩ : S65)] : List (S65))) := ⟨_, rfl⟩
       replace H : (if x5_1.length < 5864062014805 then (some ((x5_1 ++ [(⟨y579⟩ : S53)]), t563)) else (none)) = some (r1, r2) := by first | (rw [hy579]; exact H) | exact H
       have Ny579 := ak hy579
       clear hy579
       by_cases c57 : x5_1.length < 5864062014805
       ·rw [if_pos c57] at H
        have LMc57 := ak c57
        clear c57
        obtain ⟨y582, hy582⟩ : ∃ y_ : List (S53), y_ = (x5_1 ++ [(⟨y579⟩ : S53)]) := ⟨_, rfl⟩
        replace H : (some (y582, t563)) = some (r1, r2) := by first | (rw [hy582]; exact H) | exact H
        have Ny582 := ak hy582
        clear hy582
        simp only [Option.some.injEq, Prod.mk.injEq] at H
        obtain ⟨rfl, rfl⟩ := H
        go_wp2_with (first | ((with_reducible refine gate_callee (f := 63) rfl ?_); refine gL (some 45) Try.func63 #[.pointer (some ⟨g, 0, none⟩), .int .i64 a1] ?_; (with_reducible refine (spec_l20Rd_odd.calls k1 g s0_0 x1001_1 a1 true t561 w0 _ ?side1 ?side2 A35.out).mono ?_); (case side1 => repeat (first | exact HI0.out | apply IsS79.alloc | apply IsS79.drewN | apply IsS79.drew | apply IsS79.set_1)); (case side2 => repeat (first | exact HB.out | apply bA | apply bN | apply bD | refine bS ?_ (IsS79.ge HI0.out))); rintro e w58 ⟨rfl, hi, hb, hk⟩; refine ⟨_, rfl, ?_⟩; replace HO_5 := ak (Kd.N_mono (Kd.N_keep (Kd.N_mono (ok := fun k_ => (((w.heap.size ≤ k_)) ∧ k_ ≠ g)) (hN HO_5.out) (fun k_ hk_ => (⟨hk_, hk_.2⟩ : _ ∧ k_ ≠ g))) hk (fun _ h => h.2)) (fun _ h => h.1)); replace HK := ak (KeepBut.trans (by repeat (first | exact HK.out | apply KeepBut.set_ | apply keep_drewN | apply keep_drew | apply keep_alloc)) hk (.inl rfl)); replace HB := ak (hb); replace HI0 := ak (hi); (try clear hb)) | ((with_reducible refine gate_callee (f := 62) rfl ?_); refine gL (some 47) Try.func62 #[.pointer (some ⟨g, 0, none⟩), .int .i64 3] ?_; (with_reducible refine (spec_l20Rd_pick.calls k1 g s0_0 t561 3 t562 t563 w0 _ ?side1 ?side2 A37.out).mono ?_); (case side1 => repeat (first | exact HI0.out | apply IsS79.alloc | apply IsS79.drewN | apply IsS79.drew | apply IsS79.set_1)); (case side2 => repeat (first | exact HB.out | apply bA | apply bN | apply bD | refine bS ?_ (IsS79.ge HI0.out))); rintro e w59 ⟨rfl, hi, hb, hk⟩; refine ⟨_, rfl, ?_⟩; replace HO_5 := ak (Kd.N_mono (Kd.N_keep (Kd.N_mono (ok := fun k_ => (((w.heap.size ≤ k_)) ∧ k_ ≠ g)) (hN HO_5.out) (fun k_ hk_ => (⟨hk_, hk_.2⟩ : _ ∧ k_ ≠ g))) hk (fun _ h => h.2)) (fun _ h => h.1)); replace HK := ak (KeepBut.trans (by repeat (first | exact HK.out | apply KeepBut.set_ | apply keep_drewN | apply keep_drew | apply keep_alloc)) hk (.inl rfl)); replace HB := ak (hb); replace HI0 := ak (hi); (try clear hb)) | ((with_reducible refine gate_dst (N := 54) rfl ?_); refine Kd.R_lit k65 _ 65 ?hg (N := 54) ?hd (xs := ([(⟨(⟨#[118]⟩ : ByteArray), 0⟩ : S65), (⟨(⟨#[119]⟩ : ByteArray), 0⟩ : S65), (⟨(⟨#[120]⟩ : ByteArray), 0⟩ : S65), (⟨(⟨#[121]⟩ : ByteArray), 0⟩ : S65), (⟨(⟨#[122, 122]⟩ : ByteArray), 0⟩ : S65)] : List (S65))) (inner := [.string (⟨#[118]⟩ : ByteArray), .int .i64 0, .string (⟨#[119]⟩ : ByteArray), .int .i64 0, .string (⟨#[120]⟩ : ByteArray), .int .i64 0, .string (⟨#[121]⟩ : ByteArray), .int .i64 0, .string (⟨#[122, 122]⟩ : ByteArray), .int .i64 0]) (ok := fun _ => True) (okp := fun _ => True) ?hr ?hp (fun _ hk => hk) trivial (Below.refl _ _) (Nat.le_refl _) (by simp) ?_; (case hd => rfl); (case hg => rfl); (case hr => go_simp <;> rfl); (case hp => exact (Reps.c2 (show Kd.M k65 _ _ _ (⟨(⟨#[118]⟩ : ByteArray), 0⟩ : S65) [.string (⟨#[118]⟩ : ByteArray), .int .i64 0] from (k65_mkM _ _ _ (⟨(⟨#[118]⟩ : ByteArray), 0⟩ : S65) )) (Reps.c2 (show Kd.M k65 _ _ _ (⟨(⟨#[119]⟩ : ByteArray), 0⟩ : S65) [.string (⟨#[119]⟩ : ByteArray), .int .i64 0] from (k65_mkM _ _ _ (⟨(⟨#[119]⟩ : ByteArray), 0⟩ : S65) )) (Reps.c2 (show Kd.M k65 _ _ _ (⟨(⟨#[120]⟩ : ByteArray), 0⟩ : S65) [.string (⟨#[120]⟩ : ByteArray), .int .i64 0] from (k65_mkM _ _ _ (⟨(⟨#[120]⟩ : ByteArray), 0⟩ : S65) )) (Reps.c2 (show Kd.M k65 _ _ _ (⟨(⟨#[121]⟩ : ByteArray), 0⟩ : S65) [.string (⟨#[121]⟩ : ByteArray), .int .i64 0] from (k65_mkM _ _ _ (⟨(⟨#[121]⟩ : ByteArray), 0⟩ : S65) )) (Reps.c2 (show Kd.M k65 _ _ _ (⟨(⟨#[122, 122]⟩ : ByteArray), 0⟩ : S65) [.string (⟨#[122, 122]⟩ : ByteArray), .int .i64 0] from (k65_mkM _ _ _ (⟨(⟨#[122, 122]⟩ : ByteArray), 0⟩ : S65) )) (Reps.none _ _))))))); intro v580 w60 ho61 hb hg_ hnew_; clear hg_ hnew_; (first | rw [← Ny579.out] at ho61 | (simp only [Int.reduceToNat] at ho61; rw [← Ny579.out] at ho61)); replace HO_5 := ak (Kd.N_elder' (hN HO_5.out) (Kd.R_base ho61) hb); have HO581 := ak (Kd.R_lower (Kd.R_newM (M := fun k_ => (w.heap.size ≤ k_)) ho61 (keep_size (w := w) (g := g) (row := none) (by repeat (first | exact HK.out | apply KeepBut.set_ | apply keep_drewN | apply keep_drew | apply keep_alloc))) (fun k_ h_ => h_)) (keep_size (w := w) (g := g) (row := none) (by repeat (first | exact HK.out | apply KeepBut.set_ | apply keep_drewN | apply keep_drew | apply keep_alloc)))); replace HK := ak (KeepBut.trans (by repeat (first | exact HK.out | apply KeepBut.set_ | apply keep_drewN | apply keep_drew | apply keep_alloc)) (KeepBut.of_below hb g none) (.inl rfl)); replace HB := ak (below_step (by repeat (first | exact HB.out | apply bA | apply bN | apply bD | refine bS ?_ (IsS79.ge HI0.out))) hb); replace HI0 := ak (IsS79.below (by repeat (first | exact HI0.out | apply IsS79.alloc | apply IsS79.drewN | apply IsS79.drew | apply IsS79.set_1)) hb); clear hb ho61; obtain ⟨Ao62, co62, eo62⟩ := Kd.R_slice HO581.out; subst eo62) | ((with_reducible refine gate_builtin (b := .append) (xs := #[.tmp 48, .tmp 56]) rfl ?_); at_builtin; refine Kd.N_append k53 w.heap.size rfl (.tmp 48) (.tmp 56) 24 53 (.agg #[(.slice none 0 0)]) 24 rfl Try.underlying24 info53 rfl (by decide) (by omega) u5 x5_1 (⟨y579⟩ : S53) [.slice Ao62 y579.length co62] (fun k_ => (w.heap.size ≤ k_) ∧ k_ ≠ g) (fun k_ => ((fun k_ => (w.heap.size ≤ k_) ∧ k_ ≠ g)) k_ ∧ some k_ ≠ (u5 : Value).ownBlock) rfl rfl ?aP (fun _ hk => hk) ?aF ?aO (Below.refl _ _) ?aS ?aL ?_; (case aP => exact (k53_mkF _ _ (⟨y579⟩ : S53) (Kd.R_reads' (Kd.R_mono (ok' := (fun k_ => ((fun k_ => (w.heap.size ≤ k_) ∧ k_ ≠ g)) k_ ∧ some k_ ≠ (u5 : Value).ownBlock)) (IsS79.apart HI0.out (Kd.R_apart' (HO581.out) (Kd.N_typed HO_5.out) (by decide)) (by decide)) (fun k_ hk => ⟨⟨hk.1.1.1, hk.2⟩, hk.1.2⟩))).2.1 (Kd.R_F (Kd.R_mono (ok' := (fun k_ => ((fun k_ => (w.heap.size ≤ k_) ∧ k_ ≠ g)) k_ ∧ some k_ ≠ (u5 : Value).ownBlock)) (IsS79.apart HI0.out (Kd.R_apart' (HO581.out) (Kd.N_typed HO_5.out) (by decide)) (by decide)) (fun k_ hk => ⟨⟨hk.1.1.1, hk.2⟩, hk.1.2⟩))))); (case aF => exact (fun k_ hk => ⟨(Nat.le_trans (keep_size (w := w) (g := g) (row := none) (by repeat (first | exact HK.out | apply KeepBut.set_ | apply keep_drewN | apply keep_drew | apply keep_alloc))) hk), IsS79.fresh (by repeat (first | exact HI0.out | apply IsS79.alloc | apply IsS79.drewN | apply IsS79.drew | apply IsS79.set_1)) k_ hk⟩)); (case aO => exact (by (with_reducible repeat (first | apply Kd.N_alloc | apply Kd.N_drewN | apply Kd.N_drew)); exact Kd.N_mono HO_5.out (fun _ hk => ⟨hk.1.1, hk.1.2⟩))); (case aS => exact (keep_size (w := w) (g := g) (row := none) (by repeat (first | exact HK.out | apply KeepBut.set_ | apply keep_drewN | apply keep_drew | apply keep_alloc)))); (case aL => have := LMc57.out; omega); intro v583 w63 ho hb hg hat; rw [← Ny582.out] at ho; replace HB := ak (below_weaken (by repeat (first | exact HB.out | apply bA | apply bN | apply bD | refine bS ?_ (IsS79.ge HI0.out))) HL.out hb); replace HI0 := ak (IsS79.grown (by repeat (first | exact HI0.out | apply IsS79.alloc | apply IsS79.drewN | apply IsS79.drew | apply IsS79.set_1)) hg (IsS79.own_neN HI0.out HO_5.out (by decide))); replace HK := ak (KeepBut.trans (by repeat (first | exact HK.out | apply KeepBut.set_ | apply keep_drewN | apply keep_drew | apply keep_alloc)) (KeepBut.of_grown hg g) (Kd.N_base2 HO_5.out)); have HO584 := ak (ho); clear HO_5 HO581; clear ho hb hg hat))
        go_ret
        exact ⟨_, by first | rfl | (simp [*, errW_none, errW_some] <;> rfl), by (with_reducible repeat (first | apply Kd.N_alloc | apply Kd.N_drewN | apply Kd.N_drew)); exact Kd.N_mono HO584.out (fun _ hk => hk.1), by repeat (first | exact HI0.out | apply IsS79.alloc | apply IsS79.drewN | apply IsS79.drew | apply IsS79.set_1), by repeat (first | exact HB.out | apply bA | apply bN | apply bD | refine bS ?_ (IsS79.ge HI0.out)), by repeat (first | exact HK.out | apply KeepBut.set_ | apply keep_drewN | apply keep_drew | apply keep_alloc)⟩
       ·rw [if_neg c57] at H
        exact absurd H (by simp)
    ·replace c36 := Bool.eq_false_iff.mpr c36
     subst c36
     rw [if_neg (show ¬ (false = true) by decide)] at H
     simp only [Option.some.injEq, Prod.mk.injEq] at H
     obtain ⟨rfl, rfl⟩ := H
     go_wp2_with (first | ((with_reducible refine gate_callee (f := 63) rfl ?_); refine gL (some 45) Try.func63 #[.pointer (some ⟨g, 0, none⟩), .int .i64 a1] ?_; (with_reducible refine (spec_l20Rd_odd.calls k1 g s0_0 x1001_1 a1 false t561 w0 _ ?side1 ?side2 A35.out).mono ?_); (case side1 => repeat (first | exact HI0.out | apply IsS79.alloc | apply IsS79.drewN | apply IsS79.drew | apply IsS79.set_1)); (case side2 => repeat (first | exact HB.out | apply bA | apply bN | apply bD | refine bS ?_ (IsS79.ge HI0.out))); rintro e w64 ⟨rfl, hi, hb, hk⟩; refine ⟨_, rfl, ?_⟩; replace HO_5 := ak (Kd.N_mono (Kd.N_keep (Kd.N_mono (ok := fun k_ => (((w.heap.size ≤ k_)) ∧ k_ ≠ g)) (hN HO_5.out) (fun k_ hk_ => (⟨hk_, hk_.2⟩ : _ ∧ k_ ≠ g))) hk (fun _ h => h.2)) (fun _ h => h.1)); replace HK := ak (KeepBut.trans (by repeat (first | exact HK.out | apply KeepBut.set_ | apply keep_drewN | apply keep_drew | apply keep_alloc)) hk (.inl rfl)); replace HB := ak (hb); replace HI0 := ak (hi); (try clear hb)))
     go_ret
     exact ⟨_, by first | rfl | (simp [*, errW_none, errW_some] <;> rfl), by (with_reducible repeat (first | apply Kd.N_alloc | apply Kd.N_drewN | apply Kd.N_drew)); exact Kd.N_mono HO_5.out (fun _ hk => hk.1), by repeat (first | exact HI0.out | apply IsS79.alloc | apply IsS79.drewN | apply IsS79.drew | apply IsS79.set_1), by repeat (first | exact HB.out | apply bA | apply bN | apply bD | refine bS ?_ (IsS79.ge HI0.out)), by repeat (first | exact HK.out | apply KeepBut.set_ | apply keep_drewN | apply keep_drew | apply keep_alloc)⟩

/-! ### spec_DrawPagesPut: function 13 -/
def spec_DrawPagesPut.f (k : Nat) (l0 : List Int) : Option ((List (S53)) × ByteArray × Int) := (spec_l20Open.f l0).bind fun bt585 => ((spec_l20Pages.f k bt585.1 bt585.2 14).bind fun bt588 => ((spec_PagesList.f k bt588.1).bind fun t592 => ((spec_l20Near.f k bt585.1 bt588.2 t592 14).bind fun bt595 => ((spec_l20Value.f k bt585.1 bt595.2 14).bind fun bt597 => (some (bt588.1, bt595.1, bt597.1))))))
theorem spec_DrawPagesPut.mono : ∀ a0 k, LeO (spec_DrawPagesPut.f k a0) (spec_DrawPagesPut.f (k + 1) a0) := by
 intro a0 k
 unfold spec_DrawPagesPut.f
 repeat' first
   | (with_reducible exact spec_PagesList.mono _ _)
   | (with_reducible exact spec_l20Near.mono _ _ _ _ _)
   | (with_reducible exact spec_l20Pages.mono _ _ _ _)
   | (with_reducible exact spec_l20Value.mono _ _ _ _)
   | (with_reducible exact LeO.refl _)
   | (with_reducible exact LeO.none _)
   | (with_reducible refine LeO.ite ?_ ?_)
   | (with_reducible refine LeO.bind ?_ (fun _ => ?_))
   | exact LeO.none _
   | refine LeO.ite ?_ ?_
   | refine LeO.bind ?_ (fun _ => ?_)
theorem spec_DrawPagesPut.calls (k : Nat) (A0 : Option Addr) (c0 : Nat) (l0 : List Int) (r1 : List (S53)) (r2 : ByteArray) (r3 : Int) (w : World) (hr0 : Kd.C (Kd.int .u8) w A0 l0.length l0) (hc0 : l0.length ≤ c0) (h : spec_DrawPagesPut.f k l0 = some (r1, r2, r3)) :
  Calls Try.prog 13 #[.slice A0 l0.length c0] w fun e w' => ∃ v0_ : Value, e = .returned (.tuple #[v0_, .string r2, .int .i64 r3]) ∧ Kd.N k53 53 w' w.heap.size (fun k_ => (w.heap.size ≤ k_)) v0_ r1 ∧ Below w.heap.size w w' := by
 have HR0 := ak hr0
 have HC0 := ak hc0
 clear hr0 hc0
 have HB := ak (Below.refl w.heap.size w)
 have H : ((spec_l20Open.f l0).bind fun bt585 => ((spec_l20Pages.f k bt585.1 bt585.2 14).bind fun bt588 => ((spec_PagesList.f k bt588.1).bind fun t592 => ((spec_l20Near.f k bt585.1 bt588.2 t592 14).bind fun bt595 => ((spec_l20Value.f k bt585.1 bt595.2 14).bind fun bt597 => (some (bt588.1, bt595.1, bt597.1))))))) = some (r1, r2, r3) := h
 clear h
 replace H := Option.bind_eq_some_iff.mp H
 obtain ⟨⟨t585, t586⟩, A20, H⟩ := H
 try dsimp only at H
 have A2 := ak A20
 clear A20
 replace H := Option.bind_eq_some_iff.mp H
 obtain ⟨⟨t588, t591⟩, A30, H⟩ := H
 try dsimp only at H
 have A3 := ak A30
 clear A30
 replace H := Option.bind_eq_some_iff.mp H
 obtain ⟨t592, A40, H⟩ := H
 try dsimp only at H
 have A4 := ak A40
 clear A40
 replace H := Option.bind_eq_some_iff.mp H
 obtain ⟨⟨t595, t596⟩, A50, H⟩ := H
 try dsimp only at H
 have A5 := ak A50
 clear A50
 replace H := Option.bind_eq_some_iff.mp H
 obtain ⟨⟨t597, t598⟩, A60, H⟩ := H
 try dsimp only at H
 have A6 := ak A60
 clear A60
 simp only [Option.some.injEq, Prod.mk.injEq] at H
 obtain ⟨rfl, rfl, rfl⟩ := H
 go_enter Try.func13, Try.ntmps13
 go_wp2_with (first | ((with_reducible refine gate_callee (f := 38) rfl ?_); refine gL (some 9) Try.func38 #[.slice A0 l0.length c0] ?_; (with_reducible refine (spec_l20Open.calls _ _ l0 t585 t586 w _ ?side1 ?side2 ?side3 A2.out).mono ?_); (case side1 => exact hopb HB.out); (case side2 => exact HR0.out); (case side3 => exact HC0.out); rintro e w7 ⟨g587, rfl, hi, hb, hb2⟩; refine ⟨_, rfl, ?_⟩; replace HB := ak (hb); have HI587 := ak (hi); (try clear hb)) | ((with_reducible refine gate_callee (f := 39) rfl ?_); refine gL (some 11) Try.func39 #[.pointer (some ⟨g587, 0, none⟩), .int .i64 14] ?_; (with_reducible refine (spec_l20Pages.calls k g587 t585 t586 14 t588 t591 w _ ?side1 ?side2 A3.out).mono ?_); (case side1 => repeat (first | exact HI587.out | apply IsS79.alloc | apply IsS79.drewN | apply IsS79.drew | apply IsS79.set_1)); (case side2 => repeat (first | exact HB.out | apply bA | apply bN | apply bD | refine bS ?_ (IsS79.ge HI587.out))); rintro e w8 ⟨v589, rfl, ho0, hi, hb, hk⟩; refine ⟨_, rfl, ?_⟩; have HO590 := ak (Kd.N_lower (Kd.N_mono (ok' := fun k_ => (w.heap.size ≤ k_) ∧ k_ ≠ g587) ho0 (fun k_ hk_ => ⟨(Nat.le_trans (below_size (by repeat (first | exact HB.out | apply bA | apply bN | apply bD | refine bS ?_ (IsS79.ge HI587.out)))) hk_), (IsS79.fresh (by repeat (first | exact HI587.out | apply IsS79.alloc | apply IsS79.drewN | apply IsS79.drew | apply IsS79.set_1)) k_ hk_)⟩)) (below_size (by repeat (first | exact HB.out | apply bA | apply bN | apply bD | refine bS ?_ (IsS79.ge HI587.out))))); replace HB := ak (hb); replace HI587 := ak (hi); (try clear hb); (try clear ho0); obtain ⟨Ao9, co9, eo9⟩ := Kd.N_slice HO590.out; subst eo9) | ((with_reducible refine gate_callee (f := 41) rfl ?_); refine gL (some 14) Try.func41 #[.slice Ao9 t588.length co9] ?_; (with_reducible refine (spec_PagesList.calls k _ _ t588 t592 _ ?side1 ?side2 A4.out).mono ?_); (case side1 => exact hC (Kd.N_reads' HO590.out).2.2); (case side2 => exact (Kd.N_reads' HO590.out).2.1); rintro e w10 ⟨v593, rfl, ho0, hb⟩; refine ⟨_, rfl, ?_⟩; replace HO590 := ak (Kd.N_elder' (hN HO590.out) (Kd.R_base ho0) hb); have HO594 := ak (Kd.R_lower (Kd.R_newM (M := fun k_ => (w.heap.size ≤ k_)) ho0 (below_size (by repeat (first | exact HB.out | apply bA | apply bN | apply bD | refine bS ?_ (IsS79.ge HI587.out)))) (fun k_ h_ => h_)) (below_size (by repeat (first | exact HB.out | apply bA | apply bN | apply bD | refine bS ?_ (IsS79.ge HI587.out))))); replace HB := ak (below_step (by repeat (first | exact HB.out | apply bA | apply bN | apply bD | refine bS ?_ (IsS79.ge HI587.out))) hb); replace HI587 := ak (IsS79.below (by repeat (first | exact HI587.out | apply IsS79.alloc | apply IsS79.drewN | apply IsS79.drew | apply IsS79.set_1)) hb); (try clear hb); (try clear ho0); obtain ⟨Ao11, co11, eo11⟩ := Kd.R_slice HO594.out; subst eo11) | ((with_reducible refine gate_callee (f := 40) rfl ?_); refine gL (some 15) Try.func40 #[.pointer (some ⟨g587, 0, none⟩), .slice Ao11 t592.length co11, .int .i64 14] ?_; (with_reducible refine (spec_l20Near.calls k g587 t585 t591 _ _ t592 14 t595 t596 w _ ?side1 ?side2 ?side3 ?side4 A5.out).mono ?_); (case side1 => repeat (first | exact HI587.out | apply IsS79.alloc | apply IsS79.drewN | apply IsS79.drew | apply IsS79.set_1)); (case side2 => repeat (first | exact HB.out | apply bA | apply bN | apply bD | refine bS ?_ (IsS79.ge HI587.out))); (case side3 => exact Kd.C_foot_own (IsS79.apart (show IsS79 w _ g587 t585 t591 from by repeat (first | exact HI587.out | apply IsS79.alloc | apply IsS79.drewN | apply IsS79.drew | apply IsS79.set_1)) (hR HO594.out) (by decide)) (fun _ h_ => h_.2)); (case side4 => exact (Kd.R_reads' HO594.out).2.1); rintro e w12 ⟨rfl, hi, hb, hk⟩; refine ⟨_, rfl, ?_⟩; replace HO590 := ak (Kd.N_mono (Kd.N_keep (Kd.N_mono (ok := fun k_ => ((((w.heap.size ≤ k_)) ∧ k_ ≠ g587) ∧ some k_ ≠ (.slice Ao11 t592.length co11 : Value).ownBlock)) (hN HO590.out) (fun k_ hk_ => (⟨hk_, hk_.1.2⟩ : _ ∧ k_ ≠ g587))) hk (fun _ h => h.2)) (fun _ h => h.1)); replace HO594 := ak (Kd.R_mono (Kd.R_keep (IsS79.apart (show IsS79 w _ g587 t585 t591 from by repeat (first | exact HI587.out | apply IsS79.alloc | apply IsS79.drewN | apply IsS79.drew | apply IsS79.set_1)) (hR HO594.out) (by decide)) hk (fun _ h => h.2)) (fun _ h => h.1)); replace HB := ak (hb); replace HI587 := ak (hi); (try clear hb)) | ((with_reducible refine gate_callee (f := 42) rfl ?_); refine gL (some 19) Try.func42 #[.pointer (some ⟨g587, 0, none⟩), .int .i64 14] ?_; (with_reducible refine (spec_l20Value.calls k g587 t585 t596 14 t597 t598 w _ ?side1 ?side2 A6.out).mono ?_); (case side1 => repeat (first | exact HI587.out | apply IsS79.alloc | apply IsS79.drewN | apply IsS79.drew | apply IsS79.set_1)); (case side2 => repeat (first | exact HB.out | apply bA | apply bN | apply bD | refine bS ?_ (IsS79.ge HI587.out))); rintro e w13 ⟨rfl, hi, hb, hk⟩; refine ⟨_, rfl, ?_⟩; replace HO590 := ak (Kd.N_mono (Kd.N_keep (Kd.N_mono (ok := fun k_ => ((((w.heap.size ≤ k_)) ∧ k_ ≠ g587) ∧ some k_ ≠ (.slice Ao11 t592.length co11 : Value).ownBlock)) (hN HO590.out) (fun k_ hk_ => (⟨hk_, hk_.1.2⟩ : _ ∧ k_ ≠ g587))) hk (fun _ h => h.2)) (fun _ h => h.1)); replace HO594 := ak (Kd.R_mono (Kd.R_keep (IsS79.apart (show IsS79 w _ g587 t585 t596 from by repeat (first | exact HI587.out | apply IsS79.alloc | apply IsS79.drewN | apply IsS79.drew | apply IsS79.set_1)) (hR HO594.out) (by decide)) hk (fun _ h => h.2)) (fun _ h => h.1)); replace HB := ak (hb); replace HI587 := ak (hi); (try clear hb)))
 go_ret3
 exact ⟨_, by first | rfl | (simp [*, errW_none, errW_some] <;> rfl), by (with_reducible repeat (first | apply Kd.N_alloc | apply Kd.N_drewN | apply Kd.N_drew)); exact Kd.N_mono HO590.out (fun _ hk => hk.1.1), by repeat (first | exact HB.out | apply bA | apply bN | apply bD | refine bS ?_ (IsS79.ge HI587.out))⟩

end Go.Proofs.Ytengnnhehjcfhaa.PFnPagesPut
