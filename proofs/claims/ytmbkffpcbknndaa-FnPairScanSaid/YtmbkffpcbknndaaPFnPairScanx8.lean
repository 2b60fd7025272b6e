-- Written for this claim by a program of this session (wip/myprint in the proofs' repo)
import Derived.Test.YtmbkffpcbknndaaPFnPairScanx0
import Derived.Test.YtmbkffpcbknndaaPFnPairScanx6
import Derived.Test.YtmbkffpcbknndaaPFnPairScanx7
namespace Go.Proofs.Ytmbkffpcbknndaa.PFnPairScan
open Go.RowKit Go.Proofs.YtmbkffpcbknndaaW.PrintWords Go.Proofs.YtmbkffpcbknndaaW.PrintLast Go.Proofs.YtmbkffpcbknndaaW.PrintMore
attribute [local go_sem] max2_int min2_int max_two min_two max_three min_three max_four min_four max2_strs min2_strs   -- for this text's walks alone
set_option linter.unusedVariables false
set_option linter.unusedSimpArgs false

/-! ### spec_l20Pairs: function 42 -/
mutual
def spec_l20Pairs.l0 : Nat → Int → List (S28) → Int → List Int → Int → Option ((List (S28)) × Int)
  | 0, _, _, _, _, _ => none
  | k + 1, x1, x5, x6, x1000, x1001 => if x6 > 0 then ((spec_l20Key.f k x1000 x1001 0).bind fun bt232 => ((spec_l20Value.f k x1000 bt232.2 0).bind fun bt234 => ((spec_PairPut.f k x5 bt232.1 bt234.1).bind fun bt236 => (spec_l20Pairs.l0 k x1 bt236.1 (wrap64 (x6 - 1)) x1000 bt234.2)))) else ((spec_l20Rd_pick.f k x1000 x1001 16).bind fun bt240 => (if bt240.1 = 15 then (spec_l20Pairs.l1 k x1 x5 0 x1000 bt240.2) else (spec_l20Pairs.j3 k x1 x5 x1000 bt240.2)))
def spec_l20Pairs.j3 : Nat → Int → List (S28) → List Int → Int → Option ((List (S28)) × Int)
  | 0, _, _, _, _ => none
  | k + 1, x1, x5, x1000, x1001 => (spec_l20Rd_odd.f k x1000 x1001 x1).bind fun bt247 => (if bt247.1 = true then ((some (([(⟨(⟨#[]⟩ : ByteArray), 0⟩ : S28), (⟨(⟨#[122, 122, 122, 122]⟩ : ByteArray), (-1)⟩ : S28), (⟨(⟨#[122, 122, 122, 122]⟩ : ByteArray), 1000⟩ : S28), (⟨(⟨#[97]⟩ : ByteArray), 1⟩ : S28), (⟨(⟨#[65]⟩ : ByteArray), 0⟩ : S28)] : List (S28)) : List (S28))).bind fun y249 => ((spec_l20Rd_pick.f k x1000 bt247.2 5).bind fun bt252 => (if 0 ≤ bt252.1 then (if bt252.1 < (y249.length : Int) then (if x5.length < 5864062014805 then (some ((x5 ++ [(⟨(rd_T28 y249 bt252.1).f0, (rd_T28 y249 bt252.1).f1⟩ : S28)]), bt252.2)) else (none)) else (none)) else (none)))) else (some (x5, bt247.2)))
def spec_l20Pairs.l1 : Nat → Int → List (S28) → Int → List Int → Int → Option ((List (S28)) × Int)
  | 0, _, _, _, _, _ => none
  | k + 1, x1, x5, x9, x1000, x1001 => if (x5.length : Int) < 48 then (spec_l20Pairs.j2 k x1 x5 x9 (decide (x9 < 200)) x1000 x1001) else (spec_l20Pairs.j2 k x1 x5 x9 false x1000 x1001)
def spec_l20Pairs.j2 : Nat → Int → List (S28) → Int → Bool → List Int → Int → Option ((List (S28)) × Int)
  | 0, _, _, _, _, _, _ => none
  | k + 1, x1, x5, x9, x38, x1000, x1001 => if x38 = true then ((spec_KeyAt.f k (wrap64 (x9 * 9))).bind fun t242 => ((spec_PairPut.f k x5 t242 x9).bind fun bt243 => (spec_l20Pairs.l1 k x1 bt243.1 (wrap64 (x9 + 1)) x1000 x1001))) else (spec_l20Pairs.j3 k x1 x5 x1000 x1001)
end
def spec_l20Pairs.f (k : Nat) (s0_0 : List Int) (s0_1 : Int) (a1 : Int) : Option ((List (S28)) × Int) := (spec_l20Rd_pick.f k s0_0 s0_1 9).bind fun bt230 => (spec_l20Pairs.l0 k a1 (([] : List (S28))) bt230.1 s0_0 bt230.2)
theorem spec_l20Pairs.mono_l : ∀ k, (∀ y0 y1 y2 y3 y4, LeO (spec_l20Pairs.l0 k y0 y1 y2 y3 y4) (spec_l20Pairs.l0 (k + 1) y0 y1 y2 y3 y4)) ∧ (∀ y0 y1 y2 y3, LeO (spec_l20Pairs.j3 k y0 y1 y2 y3) (spec_l20Pairs.j3 (k + 1) y0 y1 y2 y3)) ∧ (∀ y0 y1 y2 y3 y4, LeO (spec_l20Pairs.l1 k y0 y1 y2 y3 y4) (spec_l20Pairs.l1 (k + 1) y0 y1 y2 y3 y4)) ∧ (∀ y0 y1 y2 y3 y4 y5, LeO (spec_l20Pairs.j2 k y0 y1 y2 y3 y4 y5) (spec_l20Pairs.j2 (k + 1) y0 y1 y2 y3 y4 y5))
  | 0 => ⟨fun _ _ _ _ _ r h => by simp [spec_l20Pairs.l0] at h, fun _ _ _ _ r h => by simp [spec_l20Pairs.j3] at h, fun _ _ _ _ _ r h => by simp [spec_l20Pairs.l1] at h, fun _ _ _ _ _ _ r h => by simp [spec_l20Pairs.j2] at h⟩
  | k + 1 => by
    obtain ⟨ih0, ih1, ih2, ih3⟩ := spec_l20Pairs.mono_l k
    refine ⟨?_, ?_, ?_, ?_⟩
    · intro y0 y1 y2 y3 y4
      unfold spec_l20Pairs.l0
      repeat' first
      | (with_reducible exact ih0 _ _ _ _ _)
      | (with_reducible exact ih1 _ _ _ _)
      | (with_reducible exact ih2 _ _ _ _ _)
      | (with_reducible exact ih3 _ _ _ _ _ _)
      | (with_reducible exact spec_KeyAt.mono _ _)
      | (with_reducible exact spec_PairPut.mono _ _ _ _)
      | (with_reducible exact spec_l20Key.mono _ _ _ _)
      | (with_reducible exact spec_l20Rd_odd.mono _ _ _ _)
      | (with_reducible exact spec_l20Rd_pick.mono _ _ _ _)
      | (with_reducible exact spec_l20Value.mono _ _ _ _)
      | (with_reducible exact LeO.refl _)
      | (with_reducible exact LeO.none _)
      | (with_reducible refine LeO.ite ?_ ?_)
      | (with_reducible refine LeO.bind ?_ (fun _ => ?_))
      | exact ih0 _ _ _ _ _
      | exact ih1 _ _ _ _
      | exact ih2 _ _ _ _ _
      | exact ih3 _ _ _ _ _ _
      | exact spec_KeyAt.mono _ _
      | exact spec_PairPut.mono _ _ _ _
      | exact spec_l20Key.mono _ _ _ _
      | exact spec_l20Rd_odd.mono _ _ _ _
      | exact spec_l20Rd_pick.mono _ _ _ _
      | exact spec_l20Value.mono _ _ _ _
      | exact LeO.none _
      | refine LeO.ite ?_ ?_
      | refine LeO.bind ?_ (fun _ => ?_)
    · intro y0 y1 y2 y3
      unfold spec_l20Pairs.j3
      repeat' first
      | (with_reducible exact ih0 _ _ _ _ _)
      | (with_reducible exact ih1 _ _ _ _)
      | (with_reducible exact ih2 _ _ _ _ _)
      | (with_reducible exact ih3 _ _ _ _ _ _)
      | (with_reducible exact spec_KeyAt.mono _ _)
      | (with_reducible exact spec_PairPut.mono _ _ _ _)
      | (with_reducible exact spec_l20Key.mono _ _ _ _)
      | (with_reducible exact spec_l20Rd_odd.mono _ _ _ _)
      | (with_reducible exact spec_l20Rd_pick.mono _ _ _ _)
      | (with_reducible exact spec_l20Value.mono _ _ _ _)
      | (with_reducible exact LeO.refl _)
      | (with_reducible exact LeO.none _)
      | (with_reducible refine LeO.ite ?_ ?_)
      | (with_reducible refine LeO.bind ?_ (fun _ => ?_))
      | exact ih0 _ _ _ _ _
      | exact ih1 _ _ _ _
      | exact ih2 _ _ _ _ _
      | exact ih3 _ _ _ _ _ _
      | exact spec_KeyAt.mono _ _
      | exact spec_PairPut.mono _ _ _ _
      | exact spec_l20Key.mono _ _ _ _
      | exact spec_l20Rd_odd.mono _ _ _ _
      | exact spec_l20Rd_pick.mono _ _ _ _
      | exact spec_l20Value.mono _ _ _ _
      | exact LeO.none _
      | refine LeO.ite ?_ ?_
      | refine LeO.bind ?_ (fun _ => ?_)
    · intro y0 y1 y2 y3 y4
      unfold spec_l20Pairs.l1
      repeat' first
      | (with_reducible exact ih0 _ _ _ _ _)
      | (with_reducible exact ih1 _ _ _ _)
      | (with_reducible exact ih2 _ _ _ _ _)
      | (with_reducible exact ih3 _ _ _ _ _ _)
      | (with_reducible exact spec_KeyAt.mono _ _)
      | (with_reducible exact spec_PairPut.mono _ _ _ _)
      | (with_reducible exact spec_l20Key.mono _ _ _ _)
      | (with_reducible exact spec_l20Rd_odd.mono _ _ _ _)
      | (with_reducible exact spec_l20Rd_pick.mono _ _ _ _)
      | (with_reducible exact spec_l20Value.mono _ _ _ _)
      | (with_reducible exact LeO.refl _)
      | (with_reducible exact LeO.none _)
      | (with_reducible refine LeO.ite ?_ ?_)
      | (with_reducible refine LeO.bind ?_ (fun _ => ?_))
      | exact ih0 _ _ _ _ _
      | exact ih1 _ _ _ _
      | exact ih2 _ _ _ _ _
      | exact ih3 _ _ _ _ _ _
      | exact spec_KeyAt.mono _ _
      | exact spec_PairPut.mono _ _ _ _
      | exact spec_l20Key.mono _ _ _ _
      | exact spec_l20Rd_odd.mono _ _ _ _
      | exact spec_l20Rd_pick.mono _ _ _ _
      | exact spec_l20Value.mono _ _ _ _
      | exact LeO.none _
      | refine LeO.ite ?_ ?_
      | refine LeO.bind ?_ (fun _ => ?_)
    · intro y0 y1 y2 y3 y4 y5
      unfold spec_l20Pairs.j2
      repeat' first
      | (with_reducible exact ih0 _ _ _ _ _)
      | (with_reducible exact ih1 _ _ _ _)
      | (with_reducible exact ih2 _ _ _ _ _)
      | (with_reducible exact ih3 _ _ _ _ _ _)
      | (with_reducible exact spec_KeyAt.mono _ _)
      | (with_reducible exact spec_PairPut.mono _ _ _ _)
      | (with_reducible exact spec_l20Key.mono _ _ _ _)
      | (with_reducible exact spec_l20Rd_odd.mono _ _ _ _)
      | (with_reducible exact spec_l20Rd_pick.mono _ _ _ _)
      | (with_reducible exact spec_l20Value.mono _ _ _ _)
      | (with_reducible exact LeO.refl _)
      | (with_reducible exact LeO.none _)
      | (with_reducible refine LeO.ite ?_ ?_)
      | (with_reducible refine LeO.bind ?_ (fun _ => ?_))
      | exact ih0 _ _ _ _ _
      | exact ih1 _ _ _ _
      | exact ih2 _ _ _ _ _
      | exact ih3 _ _ _ _ _ _
      | exact spec_KeyAt.mono _ _
      | exact spec_PairPut.mono _ _ _ _
      | exact spec_l20Key.mono _ _ _ _
      | exact spec_l20Rd_odd.mono _ _ _ _
      | exact spec_l20Rd_pick.mono _ _ _ _
      | exact spec_l20Value.mono _ _ _ _
      | exact LeO.none _
      | refine LeO.ite ?_ ?_
      | refine LeO.bind ?_ (fun _ => ?_)
theorem spec_l20Pairs.mono : ∀ a0 a1 a2 k, LeO (spec_l20Pairs.f k a0 a1 a2) (spec_l20Pairs.f (k + 1) a0 a1 a2) := by
  intro a0 a1 a2 k
  obtain ⟨ih0, ih1, ih2, ih3⟩ := spec_l20Pairs.mono_l k
  unfold spec_l20Pairs.f
  repeat' first
      | (with_reducible exact ih0 _ _ _ _ _)
      | (with_reducible exact ih1 _ _ _ _)
      | (with_reducible exact ih2 _ _ _ _ _)
      | (with_reducible exact ih3 _ _ _ _ _ _)
      | (with_reducible exact spec_KeyAt.mono _ _)
      | (with_reducible exact spec_PairPut.mono _ _ _ _)
      | (with_reducible exact spec_l20Key.mono _ _ _ _)
      | (with_reducible exact spec_l20Rd_odd.mono _ _ _ _)
      | (with_reducible exact spec_l20Rd_pick.mono _ _ _ _)
      | (with_reducible exact spec_l20Value.mono _ _ _ _)
      | (with_reducible exact LeO.refl _)
      | (with_reducible exact LeO.none _)
      | (with_reducible refine LeO.ite ?_ ?_)
      | (with_reducible refine LeO.bind ?_ (fun _ => ?_))
      | exact ih0 _ _ _ _ _
      | exact ih1 _ _ _ _
      | exact ih2 _ _ _ _ _
      | exact ih3 _ _ _ _ _ _
      | exact spec_KeyAt.mono _ _
      | exact spec_PairPut.mono _ _ _ _
      | exact spec_l20Key.mono _ _ _ _
      | exact spec_l20Rd_odd.mono _ _ _ _
      | exact spec_l20Rd_pick.mono _ _ _ _
      | exact spec_l20Value.mono _ _ _ _
      | exact LeO.none _
      | refine LeO.ite ?_ ?_
      | refine LeO.bind ?_ (fun _ => ?_)
set_option maxHeartbeats 8000000 in
set_option maxRecDepth 100000 in
theorem spec_l20Pairs.calls (k : Nat) (g : Nat) (s0_0 : List Int) (s0_1 : Int) (a1 : Int) (r1 : List (S28)) (r2 : Int) (w0 w : World) (hI : IsS73 w0 w g s0_0 s0_1) (hB : Below w0.heap.size w0 w) (h : spec_l20Pairs.f k s0_0 s0_1 a1 = some (r1, r2)) :
    Calls Try.prog 42 #[.pointer (some ⟨g, 0, none⟩), .int .i64 a1] w fun e w' => ∃ v0_ : Value, e = .returned (v0_) ∧ Kd.R k28 28 w' w.heap.size (fun _ => True) v0_ r1 ∧ IsS73 w0 w' g s0_0 r2 ∧ Below w0.heap.size w0 w' ∧ KeepBut w w' g none := by
  have hu28 := Try.underlying28
  have HI0 := Aside0.mk hI
  have HK := Aside0.mk (KeepBut.refl w g none)
  have HL := Aside0.mk hB.size
  clear hI
  have HW0 := Aside0.mk hB.size
  have HB := Aside0.mk hB
  clear hB
  have H : ((spec_l20Rd_pick.f k s0_0 s0_1 9).bind fun bt230 => (spec_l20Pairs.l0 k a1 (([] : List (S28))) bt230.1 s0_0 bt230.2)) = some (r1, r2) := h
  clear h
  obtain ⟨y227, hy227⟩ : ∃ y_ : List (S28), y_ = (([] : List (S28))) := ⟨_, rfl⟩
  replace H : ((spec_l20Rd_pick.f k s0_0 s0_1 9).bind fun bt230 => (spec_l20Pairs.l0 k a1 y227 bt230.1 s0_0 bt230.2)) = some (r1, r2) := by first | (rw [hy227]; with_reducible exact H) | (have H2_ := (Option.bind_some _ _).symm.trans H; rw [hy227]; with_reducible exact H2_) | (have H2_ := (Option.bind_some _ _).symm.trans H; with_reducible exact H2_) | with_reducible exact H | (rw [hy227]; exact H) | exact H
  have Ny227 := Aside0.mk hy227
  clear hy227
  replace H := Option.bind_eq_some_iff.mp H
  obtain ⟨⟨t230, t231⟩, A30, H⟩ := H
  replace H : (spec_l20Pairs.l0 k a1 y227 t230 s0_0 t231) = some (r1, r2) := H
  have A3 := Aside0.mk A30
  clear A30
  have H' := Aside0.mk H
  clear H
  go_enter Try.func42, Try.ntmps42
  go_wp2_with (first | ((with_reducible refine gate_dst (N := 12) rfl ?_); refine Kd.R_lit k28 _ 28 ?hg (N := 12) ?hd (xs := ([] : List (S28))) (inner := []) (ok := fun _ => True) (okp := fun _ => True) ?hr ?hp (fun _ hk => hk) trivial (Below.refl _ _) (Nat.le_refl _) (by simp) ?_; (case hd => rfl); (case hg => rfl); (case hr => first | (go_simp; done) | (go_simp; rfl)); (case hp => exact (Reps.none _ _)); intro v228 w4 ho5 hb hg_ hnew_; clear hg_ hnew_; (first | rw [← Ny227.out] at ho5 | (simp only [Int.reduceToNat] at ho5; rw [← Ny227.out] at ho5)); have n0_ := Aside0.mk (Kd.R_lower ho5 (keep_size (w := w) (g := g) (row := none) (by repeat (first | (with_reducible first | exact HK.out | apply KeepBut.set_ | apply keep_drewN | apply keep_drew | apply keep_alloc) | exact HK.out)))); have n1_ := Aside0.mk (IsS73.below (by repeat (first | (with_reducible first | exact HI0.out | apply IsS73.alloc | apply IsS73.drewN | apply IsS73.drew | apply IsS73.set_1) | exact HI0.out)) hb); have n2_ := Aside0.mk (KeepBut.trans (by repeat (first | (with_reducible first | exact HK.out | apply KeepBut.set_ | apply keep_drewN | apply keep_drew | apply keep_alloc) | exact HK.out)) (KeepBut.of_below hb g none) (.inl rfl)); have n3_ := Aside0.mk (below_step (by repeat (first | (with_reducible first | exact HB.out | apply below_alloc | apply pw_below_drewN | apply below_drew1 | refine below_set ?_ (IsS73.ge HI0.out)) | exact HB.out)) hb); clear HI0; clear HK; clear HB; have HO229 := n0_; have HI0 := n1_; have HK := n2_; have HB := n3_; clear n0_ n1_ n2_ n3_; clear hb ho5) | ((with_reducible refine gate_callee (f := 56) rfl ?_); refine goesL_ (some 14) rfl rfl Try.func56 (by kernel_rfl) rfl #[.pointer (some ⟨g, 0, none⟩), .int .i64 9] rfl (by (try simp only [List.map_toArray, List.map_cons, List.map_nil]); first | done | rfl | (simp only [List.length_drop, List.length_take]; rfl)) ?_; (with_reducible refine (spec_l20Rd_pick.calls k g s0_0 s0_1 9 t230 t231 w0 _ ?side1 ?side2 A3.out).mono ?_); (case side1 => repeat (first | (with_reducible first | exact HI0.out | apply IsS73.alloc | apply IsS73.drewN | apply IsS73.drew | apply IsS73.set_1) | exact HI0.out)); (case side2 => repeat (first | (with_reducible first | exact HB.out | apply below_alloc | apply pw_below_drewN | apply below_drew1 | refine below_set ?_ (IsS73.ge HI0.out)) | exact HB.out)); rintro e w6 ⟨rfl, hi, hb, hk⟩; refine ⟨_, rfl, ?_⟩; have n0_ := Aside0.mk (Kd.R_mono (Kd.R_keep (IsS73.apart (show IsS73 w0 _ g s0_0 s0_1 from by repeat (first | (with_reducible first | exact HI0.out | apply IsS73.alloc | apply IsS73.drewN | apply IsS73.drew | apply IsS73.set_1) | exact HI0.out)) (by (with_reducible repeat (first | apply Kd.R_alloc | apply Kd.R_drewN | apply Kd.R_drew)); exact HO229.out) (by decide)) hk (fun _ h => h.2)) (fun _ h => h.1)); have n1_ := Aside0.mk (KeepBut.trans (by repeat (first | (with_reducible first | exact HK.out | apply KeepBut.set_ | apply keep_drewN | apply keep_drew | apply keep_alloc) | exact HK.out)) hk (.inl rfl)); have n2_ := Aside0.mk (hb); have n3_ := Aside0.mk (hi); clear HO229; clear HK; clear HB; clear HI0; have HO229 := n0_; have HK := n1_; have HB := n2_; have HI0 := n3_; clear n0_ n1_ n2_ n3_; (try clear hb); (try clear hb2); (try clear hk); (try clear hi)))
  go_loopg [5, 6] k (fun kq v5 v6 w' => ∃ (x5_1 : List (S28)) (x6_1 : Int) (x1001_1 : Int), v6 = .int .i64 x6_1 ∧ Aside0 (spec_l20Pairs.l0 kq a1 x5_1 x6_1 s0_0 x1001_1 = some (r1, r2)) ∧ Aside0 (kq ≤ k) ∧ Aside0 (Kd.R k28 28 w' w.heap.size (fun _ => True) v5 x5_1) ∧ Aside0 (IsS73 w0 w' g s0_0 x1001_1) ∧ Aside0 (KeepBut w w' g none) ∧ Aside0 (Below w0.heap.size w0 w'))
  case atStart => exact ⟨(y227), (t230), (t231), (by first | rfl | (simp; done) | (simp [bne]; done) | (simp [*]; done)), H', ⟨Nat.le_refl _⟩, ⟨by (with_reducible repeat (first | apply Kd.R_alloc | apply Kd.R_drewN | apply Kd.R_drew)); exact HO229.out⟩, ⟨by repeat (first | (with_reducible first | exact HI0.out | apply IsS73.alloc | apply IsS73.drewN | apply IsS73.drew | apply IsS73.set_1) | exact HI0.out)⟩, ⟨by repeat (first | (with_reducible first | exact HK.out | apply KeepBut.set_ | apply keep_drewN | apply keep_drew | apply keep_alloc) | exact HK.out)⟩, ⟨by repeat (first | (with_reducible first | exact HB.out | apply below_alloc | apply pw_below_drewN | apply below_drew1 | refine below_set ?_ (IsS73.ge HI0.out)) | exact HB.out)⟩⟩
  case round =>
    clear H'
    try clear p2
    try clear c4
    try clear c5
    obtain ⟨x5_1, x6_1, x1001_1, rfl, HA, HK1, HO_5, HI0, HK, HB⟩ := hrel
    cases gk with
    | zero => exact absurd HA.out (by simp [spec_l20Pairs.l0])
    | succ k1 =>
      have H := HA.out
      clear HA
      simp only [spec_l20Pairs.l0] at H
      by_cases c7 : x6_1 > 0
      · rw [if_pos c7] at H
        have c7b0 : decide (0 < x6_1) = true := decide_eq_true c7
        clear c7
        replace H := Option.bind_eq_some_iff.mp H
        obtain ⟨⟨t232, t233⟩, A80, H⟩ := H
        replace H : ((spec_l20Value.f k1 s0_0 t233 0).bind fun bt234 => ((spec_PairPut.f k1 x5_1 t232 bt234.1).bind fun bt236 => (spec_l20Pairs.l0 k1 a1 bt236.1 (wrap64 (x6_1 - 1)) s0_0 bt234.2))) = some (r1, r2) := H
        have A8 := Aside0.mk A80
        clear A80
        replace H := Option.bind_eq_some_iff.mp H
        obtain ⟨⟨t234, t235⟩, A90, H⟩ := H
        replace H : ((spec_PairPut.f k1 x5_1 t232 t234).bind fun bt236 => (spec_l20Pairs.l0 k1 a1 bt236.1 (wrap64 (x6_1 - 1)) s0_0 t235)) = some (r1, r2) := H
        have A9 := Aside0.mk A90
        clear A90
        replace H := Option.bind_eq_some_iff.mp H
        obtain ⟨⟨t236, t237⟩, A100, H⟩ := H
        replace H : (spec_l20Pairs.l0 k1 a1 t236 (wrap64 (x6_1 - 1)) s0_0 t235) = some (r1, r2) := H
        have A10 := Aside0.mk A100
        clear A100
        have H' := Aside0.mk H
        clear H
        go_wp2_with (first | ((with_reducible refine gate_callee (f := 62) rfl ?_); refine goesL_ (some 22) rfl rfl Try.func62 (by kernel_rfl) rfl #[.pointer (some ⟨g, 0, none⟩), .int .i64 0] rfl (by (try simp only [List.map_toArray, List.map_cons, List.map_nil]); first | done | rfl | (simp only [List.length_drop, List.length_take]; rfl)) ?_; (with_reducible refine (spec_l20Key.calls k1 g s0_0 x1001_1 0 t232 t233 w0 _ ?side1 ?side2 A8.out).mono ?_); (case side1 => repeat (first | (with_reducible first | exact HI0.out | apply IsS73.alloc | apply IsS73.drewN | apply IsS73.drew | apply IsS73.set_1) | exact HI0.out)); (case side2 => repeat (first | (with_reducible first | exact HB.out | apply below_alloc | apply pw_below_drewN | apply below_drew1 | refine below_set ?_ (IsS73.ge HI0.out)) | exact HB.out)); rintro e w11 ⟨rfl, hi, hb, hk⟩; refine ⟨_, rfl, ?_⟩; have n0_ := Aside0.mk (Kd.R_mono (Kd.R_keep (IsS73.apart (show IsS73 w0 _ g s0_0 x1001_1 from by repeat (first | (with_reducible first | exact HI0.out | apply IsS73.alloc | apply IsS73.drewN | apply IsS73.drew | apply IsS73.set_1) | exact HI0.out)) (by (with_reducible repeat (first | apply Kd.R_alloc | apply Kd.R_drewN | apply Kd.R_drew)); exact HO_5.out) (by decide)) hk (fun _ h => h.2)) (fun _ h => h.1)); have n1_ := Aside0.mk (KeepBut.trans (by repeat (first | (with_reducible first | exact HK.out | apply KeepBut.set_ | apply keep_drewN | apply keep_drew | apply keep_alloc) | exact HK.out)) hk (.inl rfl)); have n2_ := Aside0.mk (hb); have n3_ := Aside0.mk (hi); clear HO_5; clear HK; clear HB; clear HI0; have HO_5 := n0_; have HK := n1_; have HB := n2_; have HI0 := n3_; clear n0_ n1_ n2_ n3_; (try clear hb); (try clear hb2); (try clear hk); (try clear hi)) | ((with_reducible refine gate_callee (f := 54) rfl ?_); refine goesL_ (some 24) rfl rfl Try.func54 (by kernel_rfl) rfl #[.pointer (some ⟨g, 0, none⟩), .int .i64 0] rfl (by (try simp only [List.map_toArray, List.map_cons, List.map_nil]); first | done | rfl | (simp only [List.length_drop, List.length_take]; rfl)) ?_; (with_reducible refine (spec_l20Value.calls k1 g s0_0 t233 0 t234 t235 w0 _ ?side1 ?side2 A9.out).mono ?_); (case side1 => repeat (first | (with_reducible first | exact HI0.out | apply IsS73.alloc | apply IsS73.drewN | apply IsS73.drew | apply IsS73.set_1) | exact HI0.out)); (case side2 => repeat (first | (with_reducible first | exact HB.out | apply below_alloc | apply pw_below_drewN | apply below_drew1 | refine below_set ?_ (IsS73.ge HI0.out)) | exact HB.out)); rintro e w12 ⟨rfl, hi, hb, hk⟩; refine ⟨_, rfl, ?_⟩; have n0_ := Aside0.mk (Kd.R_mono (Kd.R_keep (IsS73.apart (show IsS73 w0 _ g s0_0 t233 from by repeat (first | (with_reducible first | exact HI0.out | apply IsS73.alloc | apply IsS73.drewN | apply IsS73.drew | apply IsS73.set_1) | exact HI0.out)) (by (with_reducible repeat (first | apply Kd.R_alloc | apply Kd.R_drewN | apply Kd.R_drew)); exact HO_5.out) (by decide)) hk (fun _ h => h.2)) (fun _ h => h.1)); have n1_ := Aside0.mk (KeepBut.trans (by repeat (first | (with_reducible first | exact HK.out | apply KeepBut.set_ | apply keep_drewN | apply keep_drew | apply keep_alloc) | exact HK.out)) hk (.inl rfl)); have n2_ := Aside0.mk (hb); have n3_ := Aside0.mk (hi); clear HO_5; clear HK; clear HB; clear HI0; have HO_5 := n0_; have HK := n1_; have HB := n2_; have HI0 := n3_; clear n0_ n1_ n2_ n3_; (try clear hb); (try clear hb2); (try clear hk); (try clear hi); obtain ⟨Ao13, co13, eo13⟩ := Kd.R_slice HO_5.out; subst eo13) | ((with_reducible refine gate_callee (f := 25) rfl ?_); refine goesL_ (some 25) rfl rfl Try.func25 (by kernel_rfl) rfl #[.slice Ao13 x5_1.length co13, .string t232, .int .i64 t234] rfl (by (try simp only [List.map_toArray, List.map_cons, List.map_nil]); first | done | rfl | (simp only [List.length_drop, List.length_take]; rfl)) ?_; (with_reducible refine (spec_PairPut.calls k1 _ _ x5_1 t232 t234 t236 t237 _ ?side1 ?side2 A10.out).mono ?_); (case side1 => repeat (first | exact (Kd.R_reads' HO_5.out).2.2 | (with_reducible refine Kd.C_alloc ?_ _) | (with_reducible refine Kd.C_drewN ?_ _) | (with_reducible refine Kd.C_drew ?_))); (case side2 => exact (Kd.R_reads' HO_5.out).2.1); rintro e w14 ⟨v238, rfl, ho0, hb⟩; refine ⟨_, rfl, ?_⟩; have n0_ := Aside0.mk (Kd.R_elder' (by (with_reducible repeat (first | apply Kd.R_alloc | apply Kd.R_drewN | apply Kd.R_drew)); exact HO_5.out) (Kd.R_base ho0) hb); have n1_ := Aside0.mk (Kd.R_lower (Kd.R_new' ho0 (Kd.R_lt (by (with_reducible repeat (first | apply Kd.R_alloc | apply Kd.R_drewN | apply Kd.R_drew)); exact HO_5.out))) (keep_size (w := w) (g := g) (row := none) (by repeat (first | (with_reducible first | exact HK.out | apply KeepBut.set_ | apply keep_drewN | apply keep_drew | apply keep_alloc) | exact HK.out)))); have n2_ := Aside0.mk (IsS73.below (by repeat (first | (with_reducible first | exact HI0.out | apply IsS73.alloc | apply IsS73.drewN | apply IsS73.drew | apply IsS73.set_1) | exact HI0.out)) hb); have n3_ := Aside0.mk (KeepBut.trans (by repeat (first | (with_reducible first | exact HK.out | apply KeepBut.set_ | apply keep_drewN | apply keep_drew | apply keep_alloc) | exact HK.out)) (KeepBut.of_below hb g none) (.inl rfl)); have n4_ := Aside0.mk (below_step (by repeat (first | (with_reducible first | exact HB.out | apply below_alloc | apply pw_below_drewN | apply below_drew1 | refine below_set ?_ (IsS73.ge HI0.out)) | exact HB.out)) hb); clear HO_5; clear HI0; clear HK; clear HB; have HO_5 := n0_; have HO239 := n1_; have HI0 := n2_; have HK := n3_; have HB := n4_; clear n0_ n1_ n2_ n3_ n4_; (try clear hb); (try clear hb2); (try clear hk); (try clear hi); (try clear ho0)))
        go_roundg k1
        case measure => have := HK1.out; omega
        case rel => exact ⟨(t236), (wrap64 (x6_1 - 1)), (t235), (by first | rfl | (simp; done) | (simp [bne]; done) | (simp [*]; done)), H', ⟨by have := HK1.out; omega⟩, ⟨by (with_reducible repeat (first | apply Kd.R_alloc | apply Kd.R_drewN | apply Kd.R_drew)); exact Kd.R_mono HO239.out (fun _ hk => trivial)⟩, ⟨by repeat (first | (with_reducible first | exact HI0.out | apply IsS73.alloc | apply IsS73.drewN | apply IsS73.drew | apply IsS73.set_1) | exact HI0.out)⟩, ⟨by repeat (first | (with_reducible first | exact HK.out | apply KeepBut.set_ | apply keep_drewN | apply keep_drew | apply keep_alloc) | exact HK.out)⟩, ⟨by repeat (first | (with_reducible first | exact HB.out | apply below_alloc | apply pw_below_drewN | apply below_drew1 | refine below_set ?_ (IsS73.ge HI0.out)) | exact HB.out)⟩⟩
      · rw [if_neg c7] at H
        have c7b0 : decide (0 < x6_1) = false := decide_eq_false c7
        clear c7
        replace H := Option.bind_eq_some_iff.mp H
        obtain ⟨⟨t240, t241⟩, A150, H⟩ := H
        replace H : (if t240 = 15 then (spec_l20Pairs.l1 k1 a1 x5_1 0 s0_0 t241) else (spec_l20Pairs.j3 k1 a1 x5_1 s0_0 t241)) = some (r1, r2) := H
        have A15 := Aside0.mk A150
        clear A150
        have HC16 := Aside0.mk H
        clear H
        go_upto_if 31 with (first | ((with_reducible refine gate_callee (f := 56) rfl ?_); refine goesL_ (some 30) rfl rfl Try.func56 (by kernel_rfl) rfl #[.pointer (some ⟨g, 0, none⟩), .int .i64 16] rfl (by (try simp only [List.map_toArray, List.map_cons, List.map_nil]); first | done | rfl | (simp only [List.length_drop, List.length_take]; rfl)) ?_; (with_reducible refine (spec_l20Rd_pick.calls k1 g s0_0 x1001_1 16 t240 t241 w0 _ ?side1 ?side2 A15.out).mono ?_); (case side1 => repeat (first | (with_reducible first | exact HI0.out | apply IsS73.alloc | apply IsS73.drewN | apply IsS73.drew | apply IsS73.set_1) | exact HI0.out)); (case side2 => repeat (first | (with_reducible first | exact HB.out | apply below_alloc | apply pw_below_drewN | apply below_drew1 | refine below_set ?_ (IsS73.ge HI0.out)) | exact HB.out)); rintro e w17 ⟨rfl, hi, hb, hk⟩; refine ⟨_, rfl, ?_⟩; have n0_ := Aside0.mk (Kd.R_mono (Kd.R_keep (IsS73.apart (show IsS73 w0 _ g s0_0 x1001_1 from by repeat (first | (with_reducible first | exact HI0.out | apply IsS73.alloc | apply IsS73.drewN | apply IsS73.drew | apply IsS73.set_1) | exact HI0.out)) (by (with_reducible repeat (first | apply Kd.R_alloc | apply Kd.R_drewN | apply Kd.R_drew)); exact HO_5.out) (by decide)) hk (fun _ h => h.2)) (fun _ h => h.1)); have n1_ := Aside0.mk (KeepBut.trans (by repeat (first | (with_reducible first | exact HK.out | apply KeepBut.set_ | apply keep_drewN | apply keep_drew | apply keep_alloc) | exact HK.out)) hk (.inl rfl)); have n2_ := Aside0.mk (hb); have n3_ := Aside0.mk (hi); clear HO_5; clear HK; clear HB; clear HI0; have HO_5 := n0_; have HK := n1_; have HB := n2_; have HI0 := n3_; clear n0_ n1_ n2_ n3_; (try clear hb); (try clear hb2); (try clear hk); (try clear hi)))
        (try simp only [Act.put, List.setIfInBounds_toArray, List.set_cons_zero, List.set_cons_succ])
        go_cut [5] (fun v5 wc => ∃ (kq : Nat) (x5_15 : List (S28)), Aside0 (spec_l20Pairs.j3 kq a1 x5_15 s0_0 t241 = some (r1, r2)) ∧ Aside0 (kq ≤ k1) ∧ Aside0 (Kd.R k28 28 wc w.heap.size (fun _ => True) v5 x5_15) ∧ Aside0 (IsS73 w0 wc g s0_0 t241) ∧ Aside0 (KeepBut w wc g none) ∧ Aside0 (Below w0.heap.size w0 wc))
        case first =>
          have H := HC16.out
          clear HC16
          by_cases c18 : t240 = 15
          · rw [if_pos c18] at H
            have c18b0 : (t240 == 15) = true := beq_iff_eq.mpr c18
            have c18b1 : (t240 != 15) = false := bne_eq_false_iff_eq.mpr c18
            clear c18
            (first | rw [c18b0] | (simp only [i64_w, i32_w]; rw [c18b0]) | skip)
            have H' := Aside0.mk H
            clear H
            go_wp2
            go_loopg [5, 9] k1 (fun kq v5 v9 w' => ∃ (x5_2 : List (S28)) (x9_2 : Int), v9 = .int .i64 x9_2 ∧ Aside0 (spec_l20Pairs.l1 kq a1 x5_2 x9_2 s0_0 t241 = some (r1, r2)) ∧ Aside0 (kq ≤ k1) ∧ Aside0 (Kd.R k28 28 w' w.heap.size (fun _ => True) v5 x5_2) ∧ Aside0 (IsS73 w0 w' g s0_0 t241) ∧ Aside0 (KeepBut w w' g none) ∧ Aside0 (Below w0.heap.size w0 w'))
            case atStart => exact ⟨(x5_1), (0), (by first | rfl | (simp; done) | (simp [bne]; done) | (simp [*]; done)), H', ⟨Nat.le_refl _⟩, ⟨by (with_reducible repeat (first | apply Kd.R_alloc | apply Kd.R_drewN | apply Kd.R_drew)); exact HO_5.out⟩, ⟨by repeat (first | (with_reducible first | exact HI0.out | apply IsS73.alloc | apply IsS73.drewN | apply IsS73.drew | apply IsS73.set_1) | exact HI0.out)⟩, ⟨by repeat (first | (with_reducible first | exact HK.out | apply KeepBut.set_ | apply keep_drewN | apply keep_drew | apply keep_alloc) | exact HK.out)⟩, ⟨by repeat (first | (with_reducible first | exact HB.out | apply below_alloc | apply pw_below_drewN | apply below_drew1 | refine below_set ?_ (IsS73.ge HI0.out)) | exact HB.out)⟩⟩
            case round =>
              clear H'
              try clear c1
              try clear c2
              try clear p2
              try clear c4
              try clear c5
              try clear c6
              try clear p6
              try clear c7
              try clear c7b0
              try clear c18
              try clear c18b0
              try clear c18b1
              try clear p2
              obtain ⟨x5_2, x9_2, rfl, HA, HK2, HO_5, HI0, HK, HB⟩ := hrel
              cases gk with
              | zero => exact absurd HA.out (by simp [spec_l20Pairs.l1])
              | succ k2 =>
                have H := HA.out
                clear HA
                simp only [spec_l20Pairs.l1] at H
                have HC19 := Aside0.mk H
                clear H
                go_upto_region 9 with (fail)
                go_cut [38] (fun v38 wc => ∃ (kq : Nat) (x38_18 : Bool), v38 = .bool x38_18 ∧ Aside0 (spec_l20Pairs.j2 kq a1 x5_2 x9_2 x38_18 s0_0 t241 = some (r1, r2)) ∧ Aside0 (kq ≤ k2) ∧ Aside0 (Kd.R k28 28 wc w.heap.size (fun _ => True) u5 x5_2) ∧ Aside0 (IsS73 w0 wc g s0_0 t241) ∧ Aside0 (KeepBut w wc g none) ∧ Aside0 (Below w0.heap.size w0 wc))
                case first =>
                  have H := HC19.out
                  clear HC19
                  by_cases c20 : (x5_2.length : Int) < 48
                  · rw [if_pos c20] at H
                    have c20b0 : decide ((x5_2.length : Int) < 48) = true := decide_eq_true c20
                    have c20b1 : decide (x5_2.length < 48) = true := decide_eq_true (by omega)
                    clear c20
                    (first | rw [c20b0] | (simp only [i64_w, i32_w]; rw [c20b0]) | skip)
                    have H' := Aside0.mk H
                    clear H
                    obtain ⟨Ao21, co21, eo21⟩ := Kd.R_slice HO_5.out
                    subst eo21
                    go_wp2
                    go_meet
                    case rel => exact ⟨_, (decide (x9_2 < 200)), (by first | rfl | (simp; done) | (simp [bne]; done) | (simp [*]; done)), H', ⟨by have := HK1.out; have := HK2.out; first | omega | exact Nat.le_refl _⟩, ⟨by (with_reducible repeat (first | apply Kd.R_alloc | apply Kd.R_drewN | apply Kd.R_drew)); exact HO_5.out⟩, ⟨by repeat (first | (with_reducible first | exact HI0.out | apply IsS73.alloc | apply IsS73.drewN | apply IsS73.drew | apply IsS73.set_1) | exact HI0.out)⟩, ⟨by repeat (first | (with_reducible first | exact HK.out | apply KeepBut.set_ | apply keep_drewN | apply keep_drew | apply keep_alloc) | exact HK.out)⟩, ⟨by repeat (first | (with_reducible first | exact HB.out | apply below_alloc | apply pw_below_drewN | apply below_drew1 | refine below_set ?_ (IsS73.ge HI0.out)) | exact HB.out)⟩⟩
                  · rw [if_neg c20] at H
                    have c20b0 : decide ((x5_2.length : Int) < 48) = false := decide_eq_false c20
                    have c20b1 : decide (x5_2.length < 48) = false := decide_eq_false (by omega)
                    clear c20
                    (first | rw [c20b0] | (simp only [i64_w, i32_w]; rw [c20b0]) | skip)
                    have H' := Aside0.mk H
                    clear H
                    obtain ⟨Ao22, co22, eo22⟩ := Kd.R_slice HO_5.out
                    subst eo22
                    go_wp2
                    go_meet
                    case rel => exact ⟨_, (false), (by first | rfl | (simp; done) | (simp [bne]; done) | (simp [*]; done)), H', ⟨by have := HK1.out; have := HK2.out; first | omega | exact Nat.le_refl _⟩, ⟨by (with_reducible repeat (first | apply Kd.R_alloc | apply Kd.R_drewN | apply Kd.R_drew)); exact HO_5.out⟩, ⟨by repeat (first | (with_reducible first | exact HI0.out | apply IsS73.alloc | apply IsS73.drewN | apply IsS73.drew | apply IsS73.set_1) | exact HI0.out)⟩, ⟨by repeat (first | (with_reducible first | exact HK.out | apply KeepBut.set_ | apply keep_drewN | apply keep_drew | apply keep_alloc) | exact HK.out)⟩, ⟨by repeat (first | (with_reducible first | exact HB.out | apply below_alloc | apply pw_below_drewN | apply below_drew1 | refine below_set ?_ (IsS73.ge HI0.out)) | exact HB.out)⟩⟩
                case rest =>
                  clear HC19
                  try clear c1
                  try clear c2
                  try clear p2
                  try clear c4
                  try clear c5
                  try clear c6
                  try clear p6
                  try clear c7
                  try clear c7b0
                  try clear c18
                  try clear c18b0
                  try clear c18b1
                  try clear c20
                  try clear c20b0
                  try clear c20b1
                  try clear p2
                  try clear p6
                  obtain ⟨kq, x38_18, rfl, HA, HJ18, HO_5, HI0, HK, HB⟩ := hcut
                  cases kq with
                  | zero => exact absurd HA.out (by simp [spec_l20Pairs.j2])
                  | succ kj18 =>
                    have H := HA.out
                    clear HA
                    simp only [spec_l20Pairs.j2] at H
                    by_cases c23 : x38_18 = true
                    · subst c23
                      have H1 : ((spec_KeyAt.f kj18 (wrap64 (x9_2 * 9))).bind fun t242 => ((spec_PairPut.f kj18 x5_2 t242 x9_2).bind fun bt243 => (spec_l20Pairs.l1 kj18 a1 bt243.1 (wrap64 (x9_2 + 1)) s0_0 t241))) = some (r1, r2) := by rw [if_pos rfl] at H; exact H
                      clear H
                      have H := H1
                      clear H1
                      replace H := Option.bind_eq_some_iff.mp H
                      obtain ⟨t242, A240, H⟩ := H
                      replace H : ((spec_PairPut.f kj18 x5_2 t242 x9_2).bind fun bt243 => (spec_l20Pairs.l1 kj18 a1 bt243.1 (wrap64 (x9_2 + 1)) s0_0 t241)) = some (r1, r2) := H
                      have A24 := Aside0.mk A240
                      clear A240
                      replace H := Option.bind_eq_some_iff.mp H
                      obtain ⟨⟨t243, t244⟩, A250, H⟩ := H
                      replace H : (spec_l20Pairs.l1 kj18 a1 t243 (wrap64 (x9_2 + 1)) s0_0 t241) = some (r1, r2) := H
                      have A25 := Aside0.mk A250
                      clear A250
                      have H' := Aside0.mk H
                      clear H
                      go_wp2_with (first | ((with_reducible refine gate_callee (f := 63) rfl ?_); refine goesL_ (some 45) rfl rfl Try.func63 (by kernel_rfl) rfl #[.int .i64 (wrap64 (x9_2 * 9))] rfl (by (try simp only [List.map_toArray, List.map_cons, List.map_nil]); first | done | rfl | (simp only [List.length_drop, List.length_take]; rfl)) ?_; (with_reducible refine (spec_KeyAt.calls kj18 (wrap64 (x9_2 * 9)) t242 _ A24.out).mono ?_); rintro e w26 ⟨rfl, hb⟩; refine ⟨_, rfl, ?_⟩; have n0_ := Aside0.mk (Kd.R_below (by (with_reducible repeat (first | apply Kd.R_alloc | apply Kd.R_drewN | apply Kd.R_drew)); exact HO_5.out) hb); have n1_ := Aside0.mk (IsS73.below (by repeat (first | (with_reducible first | exact HI0.out | apply IsS73.alloc | apply IsS73.drewN | apply IsS73.drew | apply IsS73.set_1) | exact HI0.out)) hb); have n2_ := Aside0.mk (KeepBut.trans (by repeat (first | (with_reducible first | exact HK.out | apply KeepBut.set_ | apply keep_drewN | apply keep_drew | apply keep_alloc) | exact HK.out)) (KeepBut.of_below hb g none) (.inl rfl)); have n3_ := Aside0.mk (below_step (by repeat (first | (with_reducible first | exact HB.out | apply below_alloc | apply pw_below_drewN | apply below_drew1 | refine below_set ?_ (IsS73.ge HI0.out)) | exact HB.out)) hb); clear HO_5; clear HI0; clear HK; clear HB; have HO_5 := n0_; have HI0 := n1_; have HK := n2_; have HB := n3_; clear n0_ n1_ n2_ n3_; (try clear hb); (try clear hb2); (try clear hk); (try clear hi); obtain ⟨Ao27, co27, eo27⟩ := Kd.R_slice HO_5.out; subst eo27) | ((with_reducible refine gate_callee (f := 25) rfl ?_); refine goesL_ (some 47) rfl rfl Try.func25 (by kernel_rfl) rfl #[.slice Ao27 x5_2.length co27, .string t242, .int .i64 x9_2] rfl (by (try simp only [List.map_toArray, List.map_cons, List.map_nil]); first | done | rfl | (simp only [List.length_drop, List.length_take]; rfl)) ?_; (with_reducible refine (spec_PairPut.calls kj18 _ _ x5_2 t242 x9_2 t243 t244 _ ?side1 ?side2 A25.out).mono ?_); (case side1 => repeat (first | exact (Kd.R_reads' HO_5.out).2.2 | (with_reducible refine Kd.C_alloc ?_ _) | (with_reducible refine Kd.C_drewN ?_ _) | (with_reducible refine Kd.C_drew ?_))); (case side2 => exact (Kd.R_reads' HO_5.out).2.1); rintro e w28 ⟨v245, rfl, ho0, hb⟩; refine ⟨_, rfl, ?_⟩; have n0_ := Aside0.mk (Kd.R_elder' (by (with_reducible repeat (first | apply Kd.R_alloc | apply Kd.R_drewN | apply Kd.R_drew)); exact HO_5.out) (Kd.R_base ho0) hb); have n1_ := Aside0.mk (Kd.R_lower (Kd.R_new' ho0 (Kd.R_lt (by (with_reducible repeat (first | apply Kd.R_alloc | apply Kd.R_drewN | apply Kd.R_drew)); exact HO_5.out))) (keep_size (w := w) (g := g) (row := none) (by repeat (first | (with_reducible first | exact HK.out | apply KeepBut.set_ | apply keep_drewN | apply keep_drew | apply keep_alloc) | exact HK.out)))); have n2_ := Aside0.mk (IsS73.below (by repeat (first | (with_reducible first | exact HI0.out | apply IsS73.alloc | apply IsS73.drewN | apply IsS73.drew | apply IsS73.set_1) | exact HI0.out)) hb); have n3_ := Aside0.mk (KeepBut.trans (by repeat (first | (with_reducible first | exact HK.out | apply KeepBut.set_ | apply keep_drewN | apply keep_drew | apply keep_alloc) | exact HK.out)) (KeepBut.of_below hb g none) (.inl rfl)); have n4_ := Aside0.mk (below_step (by repeat (first | (with_reducible first | exact HB.out | apply below_alloc | apply pw_below_drewN | apply below_drew1 | refine below_set ?_ (IsS73.ge HI0.out)) | exact HB.out)) hb); clear HO_5; clear HI0; clear HK; clear HB; have HO_5 := n0_; have HO246 := n1_; have HI0 := n2_; have HK := n3_; have HB := n4_; clear n0_ n1_ n2_ n3_ n4_; (try clear hb); (try clear hb2); (try clear hk); (try clear hi); (try clear ho0)))
                      go_roundg kj18
                      case measure => have := HK1.out; have := HK2.out; have := HJ18.out; omega
                      case rel => exact ⟨(t243), (wrap64 (x9_2 + 1)), (by first | rfl | (simp; done) | (simp [bne]; done) | (simp [*]; done)), H', ⟨by have := HK1.out; have := HK2.out; have := HJ18.out; omega⟩, ⟨by (with_reducible repeat (first | apply Kd.R_alloc | apply Kd.R_drewN | apply Kd.R_drew)); exact Kd.R_mono HO246.out (fun _ hk => trivial)⟩, ⟨by repeat (first | (with_reducible first | exact HI0.out | apply IsS73.alloc | apply IsS73.drewN | apply IsS73.drew | apply IsS73.set_1) | exact HI0.out)⟩, ⟨by repeat (first | (with_reducible first | exact HK.out | apply KeepBut.set_ | apply keep_drewN | apply keep_drew | apply keep_alloc) | exact HK.out)⟩, ⟨by repeat (first | (with_reducible first | exact HB.out | apply below_alloc | apply pw_below_drewN | apply below_drew1 | refine below_set ?_ (IsS73.ge HI0.out)) | exact HB.out)⟩⟩
                    · replace c23 := Bool.eq_false_iff.mpr c23
                      subst c23
                      have H1 : (spec_l20Pairs.j3 kj18 a1 x5_2 s0_0 t241) = some (r1, r2) := by rw [if_neg (show ¬ (false = true) by decide)] at H; exact H
                      clear H
                      have H := H1
                      clear H1
                      have H' := Aside0.mk H
                      clear H
                      go_wp2
                      go_meet
                      case rel => exact ⟨_, (x5_2), H', ⟨by have := HK1.out; have := HK2.out; have := HJ18.out; first | omega | exact Nat.le_refl _⟩, ⟨by (with_reducible repeat (first | apply Kd.R_alloc | apply Kd.R_drewN | apply Kd.R_drew)); exact HO_5.out⟩, ⟨by repeat (first | (with_reducible first | exact HI0.out | apply IsS73.alloc | apply IsS73.drewN | apply IsS73.drew | apply IsS73.set_1) | exact HI0.out)⟩, ⟨by repeat (first | (with_reducible first | exact HK.out | apply KeepBut.set_ | apply keep_drewN | apply keep_drew | apply keep_alloc) | exact HK.out)⟩, ⟨by repeat (first | (with_reducible first | exact HB.out | apply below_alloc | apply pw_below_drewN | apply below_drew1 | refine below_set ?_ (IsS73.ge HI0.out)) | exact HB.out)⟩⟩
          · rw [if_neg c18] at H
            have c18b0 : (t240 == 15) = false := beq_eq_false_iff_ne.mpr c18
            have c18b1 : (t240 != 15) = true := bne_iff_ne.mpr c18
            (first | rw [c18b0] | (simp only [i64_w, i32_w]; rw [c18b0]) | skip)
            have H' := Aside0.mk H
            clear H
            go_wp2
            go_meet
            case rel => exact ⟨_, (x5_1), H', ⟨by have := HK1.out; first | omega | exact Nat.le_refl _⟩, ⟨by (with_reducible repeat (first | apply Kd.R_alloc | apply Kd.R_drewN | apply Kd.R_drew)); exact HO_5.out⟩, ⟨by repeat (first | (with_reducible first | exact HI0.out | apply IsS73.alloc | apply IsS73.drewN | apply IsS73.drew | apply IsS73.set_1) | exact HI0.out)⟩, ⟨by repeat (first | (with_reducible first | exact HK.out | apply KeepBut.set_ | apply keep_drewN | apply keep_drew | apply keep_alloc) | exact HK.out)⟩, ⟨by repeat (first | (with_reducible first | exact HB.out | apply below_alloc | apply pw_below_drewN | apply below_drew1 | refine below_set ?_ (IsS73.ge HI0.out)) | exact HB.out)⟩⟩
        case rest =>
          clear HC16
          try clear c1
          try clear c2
          try clear p2
          try clear c4
          try clear c5
          try clear c6
          try clear p6
          try clear c7
          try clear c7b0
          try clear c18
          try clear c18b0
          try clear c18b1
          try clear c20
          try clear c20b0
          try clear c20b1
          try clear c23
          try clear c25
          try clear p2
          try clear p6
          obtain ⟨kq, x5_15, HA, HJ15, HO_5, HI0, HK, HB⟩ := hcut
          cases kq with
          | zero => exact absurd HA.out (by simp [spec_l20Pairs.j3])
          | succ kj15 =>
            have H := HA.out
            clear HA
            simp only [spec_l20Pairs.j3] at H
            replace H := Option.bind_eq_some_iff.mp H
            obtain ⟨⟨t247, t248⟩, A290, H⟩ := H
            replace H : (if t247 = true then ((some (([(⟨(⟨#[]⟩ : ByteArray), 0⟩ : S28), (⟨(⟨#[122, 122, 122, 122]⟩ : ByteArray), (-1)⟩ : S28), (⟨(⟨#[122, 122, 122, 122]⟩ : ByteArray), 1000⟩ : S28), (⟨(⟨#[97]⟩ : ByteArray), 1⟩ : S28), (⟨(⟨#[65]⟩ : ByteArray), 0⟩ : S28)] : List (S28)) : List (S28))).bind fun y249 => ((spec_l20Rd_pick.f kj15 s0_0 t248 5).bind fun bt252 => (if 0 ≤ bt252.1 then (if bt252.1 < (y249.length : Int) then (if x5_15.length < 5864062014805 then (some ((x5_15 ++ [(⟨(rd_T28 y249 bt252.1).f0, (rd_T28 y249 bt252.1).f1⟩ : S28)]), bt252.2)) else (none)) else (none)) else (none)))) else (some (x5_15, t248))) = some (r1, r2) := H
            have A29 := Aside0.mk A290
            clear A290
            by_cases c30 : t247 = true
            · subst c30
              have H1 : ((some (([(⟨(⟨#[]⟩ : ByteArray), 0⟩ : S28), (⟨(⟨#[122, 122, 122, 122]⟩ : ByteArray), (-1)⟩ : S28), (⟨(⟨#[122, 122, 122, 122]⟩ : ByteArray), 1000⟩ : S28), (⟨(⟨#[97]⟩ : ByteArray), 1⟩ : S28), (⟨(⟨#[65]⟩ : ByteArray), 0⟩ : S28)] : List (S28)) : List (S28))).bind fun y249 => ((spec_l20Rd_pick.f kj15 s0_0 t248 5).bind fun bt252 => (if 0 ≤ bt252.1 then (if bt252.1 < (y249.length : Int) then (if x5_15.length < 5864062014805 then (some ((x5_15 ++ [(⟨(rd_T28 y249 bt252.1).f0, (rd_T28 y249 bt252.1).f1⟩ : S28)]), bt252.2)) else (none)) else (none)) else (none)))) = some (r1, r2) := by rw [if_pos rfl] at H; exact H
              clear H
              have H := H1
              clear H1
              obtain ⟨y249, hy249⟩ : ∃ y_ : List (S28), y_ = (([(⟨(⟨#[]⟩ : ByteArray), 0⟩ : S28), (⟨(⟨#[122, 122, 122, 122]⟩ : ByteArray), (-1)⟩ : S28), (⟨(⟨#[122, 122, 122, 122]⟩ : ByteArray), 1000⟩ : S28), (⟨(⟨#[97]⟩ : ByteArray), 1⟩ : S28), (⟨(⟨#[65]⟩ : ByteArray), 0⟩ : S28)] : List (S28))) := ⟨_, rfl⟩
              replace H : ((spec_l20Rd_pick.f kj15 s0_0 t248 5).bind fun bt252 => (if 0 ≤ bt252.1 then (if bt252.1 < (y249.length : Int) then (if x5_15.length < 5864062014805 then (some ((x5_15 ++ [(⟨(rd_T28 y249 bt252.1).f0, (rd_T28 y249 bt252.1).f1⟩ : S28)]), bt252.2)) else (none)) else (none)) else (none))) = some (r1, r2) := by first | (rw [hy249]; with_reducible exact H) | (have H2_ := (Option.bind_some _ _).symm.trans H; rw [hy249]; with_reducible exact H2_) | (have H2_ := (Option.bind_some _ _).symm.trans H; with_reducible exact H2_) | with_reducible exact H | (rw [hy249]; exact H) | exact H
              have Ny249 := Aside0.mk hy249
              clear hy249
              replace H := Option.bind_eq_some_iff.mp H
              obtain ⟨⟨t252, t253⟩, A310, H⟩ := H
              replace H : (if 0 ≤ t252 then (if t252 < (y249.length : Int) then (if x5_15.length < 5864062014805 then (some ((x5_15 ++ [(⟨(rd_T28 y249 t252).f0, (rd_T28 y249 t252).f1⟩ : S28)]), t253)) else (none)) else (none)) else (none)) = some (r1, r2) := H
              have A31 := Aside0.mk A310
              clear A310
              by_cases c32 : 0 ≤ t252
              · rw [if_pos c32] at H
                have c32b0 : decide (0 ≤ t252) = true := decide_eq_true c32
                clear c32
                by_cases c33 : t252 < (y249.length : Int)
                · rw [if_pos c33] at H
                  have c33b0 : decide (t252 < (y249.length : Int)) = true := decide_eq_true c33
                  clear c33
                  by_cases c34 : x5_15.length < 5864062014805
                  · rw [if_pos c34] at H
                    have LMc34 := Aside0.mk c34
                    clear c34
                    obtain ⟨y255, hy255⟩ : ∃ y_ : List (S28), y_ = (x5_15 ++ [(⟨(rd_T28 y249 t252).f0, (rd_T28 y249 t252).f1⟩ : S28)]) := ⟨_, rfl⟩
                    replace H : (some (y255, t253)) = some (r1, r2) := by first | (rw [hy255]; with_reducible exact H) | (have H2_ := (Option.bind_some _ _).symm.trans H; rw [hy255]; with_reducible exact H2_) | (have H2_ := (Option.bind_some _ _).symm.trans H; with_reducible exact H2_) | with_reducible exact H | (rw [hy255]; exact H) | exact H
                    have Ny255 := Aside0.mk hy255
                    clear hy255
                    simp only [Option.some.injEq, Prod.mk.injEq] at H
                    obtain ⟨rfl, rfl⟩ := H
                    go_wp2_with (first | ((with_reducible refine gate_callee (f := 64) rfl ?_); refine goesL_ (some 53) rfl rfl Try.func64 (by kernel_rfl) rfl #[.pointer (some ⟨g, 0, none⟩), .int .i64 a1] rfl (by (try simp only [List.map_toArray, List.map_cons, List.map_nil]); first | done | rfl | (simp only [List.length_drop, List.length_take]; rfl)) ?_; (with_reducible refine (spec_l20Rd_odd.calls kj15 g s0_0 t241 a1 true t248 w0 _ ?side1 ?side2 A29.out).mono ?_); (case side1 => repeat (first | (with_reducible first | exact HI0.out | apply IsS73.alloc | apply IsS73.drewN | apply IsS73.drew | apply IsS73.set_1) | exact HI0.out)); (case side2 => repeat (first | (with_reducible first | exact HB.out | apply below_alloc | apply pw_below_drewN | apply below_drew1 | refine below_set ?_ (IsS73.ge HI0.out)) | exact HB.out)); rintro e w35 ⟨rfl, hi, hb, hk⟩; refine ⟨_, rfl, ?_⟩; have n0_ := Aside0.mk (Kd.R_mono (Kd.R_keep (IsS73.apart (show IsS73 w0 _ g s0_0 t241 from by repeat (first | (with_reducible first | exact HI0.out | apply IsS73.alloc | apply IsS73.drewN | apply IsS73.drew | apply IsS73.set_1) | exact HI0.out)) (by (with_reducible repeat (first | apply Kd.R_alloc | apply Kd.R_drewN | apply Kd.R_drew)); exact HO_5.out) (by decide)) hk (fun _ h => h.2)) (fun _ h => h.1)); have n1_ := Aside0.mk (KeepBut.trans (by repeat (first | (with_reducible first | exact HK.out | apply KeepBut.set_ | apply keep_drewN | apply keep_drew | apply keep_alloc) | exact HK.out)) hk (.inl rfl)); have n2_ := Aside0.mk (hb); have n3_ := Aside0.mk (hi); clear HO_5; clear HK; clear HB; clear HI0; have HO_5 := n0_; have HK := n1_; have HB := n2_; have HI0 := n3_; clear n0_ n1_ n2_ n3_; (try clear hb); (try clear hb2); (try clear hk); (try clear hi)) | ((with_reducible refine gate_dst (N := 60) rfl ?_); refine Kd.R_lit k28 _ 28 ?hg (N := 60) ?hd (xs := ([(⟨(⟨#[]⟩ : ByteArray), 0⟩ : S28), (⟨(⟨#[122, 122, 122, 122]⟩ : ByteArray), (-1)⟩ : S28), (⟨(⟨#[122, 122, 122, 122]⟩ : ByteArray), 1000⟩ : S28), (⟨(⟨#[97]⟩ : ByteArray), 1⟩ : S28), (⟨(⟨#[65]⟩ : ByteArray), 0⟩ : S28)] : List (S28))) (inner := [.string (⟨#[]⟩ : ByteArray), .int .i64 0, .string (⟨#[122, 122, 122, 122]⟩ : ByteArray), .int .i64 (-1), .string (⟨#[122, 122, 122, 122]⟩ : ByteArray), .int .i64 1000, .string (⟨#[97]⟩ : ByteArray), .int .i64 1, .string (⟨#[65]⟩ : ByteArray), .int .i64 0]) (ok := fun _ => True) (okp := fun _ => True) ?hr ?hp (fun _ hk => hk) trivial (Below.refl _ _) (Nat.le_refl _) (by simp) ?_; (case hd => rfl); (case hg => rfl); (case hr => first | (go_simp; done) | (go_simp; rfl)); (case hp => exact (Reps.c2 (show Kd.M k28 _ _ _ (⟨(⟨#[]⟩ : ByteArray), 0⟩ : S28) [.string (⟨#[]⟩ : ByteArray), .int .i64 0] from (k28_mkM _ _ _ (⟨(⟨#[]⟩ : ByteArray), 0⟩ : S28) )) (Reps.c2 (show Kd.M k28 _ _ _ (⟨(⟨#[122, 122, 122, 122]⟩ : ByteArray), (-1)⟩ : S28) [.string (⟨#[122, 122, 122, 122]⟩ : ByteArray), .int .i64 (-1)] from (k28_mkM _ _ _ (⟨(⟨#[122, 122, 122, 122]⟩ : ByteArray), (-1)⟩ : S28) )) (Reps.c2 (show Kd.M k28 _ _ _ (⟨(⟨#[122, 122, 122, 122]⟩ : ByteArray), 1000⟩ : S28) [.string (⟨#[122, 122, 122, 122]⟩ : ByteArray), .int .i64 1000] from (k28_mkM _ _ _ (⟨(⟨#[122, 122, 122, 122]⟩ : ByteArray), 1000⟩ : S28) )) (Reps.c2 (show Kd.M k28 _ _ _ (⟨(⟨#[97]⟩ : ByteArray), 1⟩ : S28) [.string (⟨#[97]⟩ : ByteArray), .int .i64 1] from (k28_mkM _ _ _ (⟨(⟨#[97]⟩ : ByteArray), 1⟩ : S28) )) (Reps.c2 (show Kd.M k28 _ _ _ (⟨(⟨#[65]⟩ : ByteArray), 0⟩ : S28) [.string (⟨#[65]⟩ : ByteArray), .int .i64 0] from (k28_mkM _ _ _ (⟨(⟨#[65]⟩ : ByteArray), 0⟩ : S28) )) (Reps.none _ _))))))); intro v250 w36 ho37 hb hg_ hnew_; clear hg_ hnew_; (first | rw [← Ny249.out] at ho37 | (simp only [Int.reduceToNat] at ho37; rw [← Ny249.out] at ho37)); have n0_ := Aside0.mk (Kd.R_elder' (by (with_reducible repeat (first | apply Kd.R_alloc | apply Kd.R_drewN | apply Kd.R_drew)); exact HO_5.out) (Kd.R_base ho37) hb); have n1_ := Aside0.mk (Kd.R_lower (Kd.R_new' ho37 (Kd.R_lt (by (with_reducible repeat (first | apply Kd.R_alloc | apply Kd.R_drewN | apply Kd.R_drew)); exact HO_5.out))) (keep_size (w := w) (g := g) (row := none) (by repeat (first | (with_reducible first | exact HK.out | apply KeepBut.set_ | apply keep_drewN | apply keep_drew | apply keep_alloc) | exact HK.out)))); have n2_ := Aside0.mk (IsS73.below (by repeat (first | (with_reducible first | exact HI0.out | apply IsS73.alloc | apply IsS73.drewN | apply IsS73.drew | apply IsS73.set_1) | exact HI0.out)) hb); have n3_ := Aside0.mk (KeepBut.trans (by repeat (first | (with_reducible first | exact HK.out | apply KeepBut.set_ | apply keep_drewN | apply keep_drew | apply keep_alloc) | exact HK.out)) (KeepBut.of_below hb g none) (.inl rfl)); have n4_ := Aside0.mk (below_step (by repeat (first | (with_reducible first | exact HB.out | apply below_alloc | apply pw_below_drewN | apply below_drew1 | refine below_set ?_ (IsS73.ge HI0.out)) | exact HB.out)) hb); clear HO_5; clear HI0; clear HK; clear HB; have HO_5 := n0_; have HO251 := n1_; have HI0 := n2_; have HK := n3_; have HB := n4_; clear n0_ n1_ n2_ n3_ n4_; clear hb ho37) | ((with_reducible refine gate_callee (f := 56) rfl ?_); refine goesL_ (some 62) rfl rfl Try.func56 (by kernel_rfl) rfl #[.pointer (some ⟨g, 0, none⟩), .int .i64 5] rfl (by (try simp only [List.map_toArray, List.map_cons, List.map_nil]); first | done | rfl | (simp only [List.length_drop, List.length_take]; rfl)) ?_; (with_reducible refine (spec_l20Rd_pick.calls kj15 g s0_0 t248 5 t252 t253 w0 _ ?side1 ?side2 A31.out).mono ?_); (case side1 => repeat (first | (with_reducible first | exact HI0.out | apply IsS73.alloc | apply IsS73.drewN | apply IsS73.drew | apply IsS73.set_1) | exact HI0.out)); (case side2 => repeat (first | (with_reducible first | exact HB.out | apply below_alloc | apply pw_below_drewN | apply below_drew1 | refine below_set ?_ (IsS73.ge HI0.out)) | exact HB.out)); rintro e w38 ⟨rfl, hi, hb, hk⟩; refine ⟨_, rfl, ?_⟩; have n0_ := Aside0.mk (Kd.R_mono (Kd.R_keep (IsS73.apart (show IsS73 w0 _ g s0_0 t248 from by repeat (first | (with_reducible first | exact HI0.out | apply IsS73.alloc | apply IsS73.drewN | apply IsS73.drew | apply IsS73.set_1) | exact HI0.out)) (by (with_reducible repeat (first | apply Kd.R_alloc | apply Kd.R_drewN | apply Kd.R_drew)); exact HO_5.out) (by decide)) hk (fun _ h => h.2)) (fun _ h => h.1)); have n1_ := Aside0.mk (Kd.R_mono (Kd.R_keep (IsS73.apart (show IsS73 w0 _ g s0_0 t248 from by repeat (first | (with_reducible first | exact HI0.out | apply IsS73.alloc | apply IsS73.drewN | apply IsS73.drew | apply IsS73.set_1) | exact HI0.out)) (by (with_reducible repeat (first | apply Kd.R_alloc | apply Kd.R_drewN | apply Kd.R_drew)); exact HO251.out) (by decide)) hk (fun _ h => h.2)) (fun _ h => h.1)); have n2_ := Aside0.mk (KeepBut.trans (by repeat (first | (with_reducible first | exact HK.out | apply KeepBut.set_ | apply keep_drewN | apply keep_drew | apply keep_alloc) | exact HK.out)) hk (.inl rfl)); have n3_ := Aside0.mk (hb); have n4_ := Aside0.mk (hi); clear HO_5; clear HO251; clear HK; clear HB; clear HI0; have HO_5 := n0_; have HO251 := n1_; have HK := n2_; have HB := n3_; have HI0 := n4_; clear n0_ n1_ n2_ n3_ n4_; (try clear hb); (try clear hb2); (try clear hk); (try clear hi); obtain ⟨Ao39, co39, eo39⟩ := Kd.R_slice HO251.out; subst eo39; have p254 : 0 ≤ (t252 : Int) := of_decide_eq_true (by first | (with_reducible assumption) | assumption); have q254 : t252 < (y249.length : Int) := of_decide_eq_true (by first | (with_reducible assumption) | assumption); obtain ⟨ad254, e254, hx254_0, hx254_1⟩ := at_T28 (Kd.R_reads' HO251.out).2.2 t252 p254 q254; cases e254; replace p254 := eq_true p254; replace q254 := eq_true q254) | ((with_reducible refine gate_builtin (b := .append) (xs := #[.tmp 54, .tmp 65]) rfl ?_); at_builtin; refine Kd.R_append k28 w.heap.size rfl (.tmp 54) (.tmp 65) 23 28 (.agg #[(.string ⟨#[]⟩), (.int .i64 0)]) 24 rfl Try.underlying23 info28 rfl (by decide) (by omega) u5 x5_15 (⟨(rd_T28 y249 t252).f0, (rd_T28 y249 t252).f1⟩ : S28) [.string ((rd_T28 y249 t252).f0), .int .i64 ((rd_T28 y249 t252).f1)] (fun k_ => some k_ ≠ (.slice (some ad254) y249.length co39 : Value).ownBlock) (fun _ => False) rfl rfl ?aP (fun _ hk => hk.elim) ?aF ?aO (Below.refl _ _) ?aS ?aL ?_; (case aP => exact k28_mkM _ _ _ (⟨(rd_T28 y249 t252).f0, (rd_T28 y249 t252).f1⟩ : S28)); (case aF => exact (fun k_ hk => Kd.fresh' (Kd.R_lt (by (with_reducible repeat (first | apply Kd.R_alloc | apply Kd.R_drewN | apply Kd.R_drew)); exact HO251.out)) k_ hk)); (case aO => exact (by (with_reducible repeat (first | apply Kd.R_alloc | apply Kd.R_drewN | apply Kd.R_drew)); exact Kd.R_mono HO_5.out (fun _ hk => hk.2))); (case aS => exact (keep_size (w := w) (g := g) (row := none) (by repeat (first | (with_reducible first | exact HK.out | apply KeepBut.set_ | apply keep_drewN | apply keep_drew | apply keep_alloc) | exact HK.out)))); (case aL => have := LMc34.out; omega); intro v256 w40 ho hb hg hat; rw [← Ny255.out] at ho; have n0_ := Aside0.mk (IsS73.grown (by repeat (first | (with_reducible first | exact HI0.out | apply IsS73.alloc | apply IsS73.drewN | apply IsS73.drew | apply IsS73.set_1) | exact HI0.out)) hg (IsS73.own_ne HI0.out HO_5.out (by decide))); have n1_ := Aside0.mk (Kd.R_after (ok := (fun _ => True)) (by (with_reducible repeat (first | apply Kd.R_alloc | apply Kd.R_drewN | apply Kd.R_drew)); exact HO251.out) hg hat); have n2_ := Aside0.mk (below_weaken (by repeat (first | (with_reducible first | exact HB.out | apply below_alloc | apply pw_below_drewN | apply below_drew1 | refine below_set ?_ (IsS73.ge HI0.out)) | exact HB.out)) HL.out hb); have n3_ := Aside0.mk (KeepBut.trans (by repeat (first | (with_reducible first | exact HK.out | apply KeepBut.set_ | apply keep_drewN | apply keep_drew | apply keep_alloc) | exact HK.out)) (KeepBut.of_grown hg g) (Kd.R_base2 HO_5.out)); have n4_ := Aside0.mk (ho); clear HI0; clear HO251; clear HB; clear HK; clear HO_5; have HI0 := n0_; have HO251 := n1_; have HB := n2_; have HK := n3_; have HO257 := n4_; clear n0_ n1_ n2_ n3_ n4_; clear ho hb hg hat))
                    go_ret
                    exact ⟨_, by first | rfl | (simp only [u8_w_, w64_u8_]; done) | (simp only [u8_w_, w64_u8_]; rfl) | (simp [errW_none, errW_some] <;> rfl) | (simp [*, errW_none, errW_some] <;> rfl), by (with_reducible repeat (first | apply Kd.R_alloc | apply Kd.R_drewN | apply Kd.R_drew)); exact Kd.R_mono HO257.out (fun _ hk => trivial), by repeat (first | (with_reducible first | exact HI0.out | apply IsS73.alloc | apply IsS73.drewN | apply IsS73.drew | apply IsS73.set_1) | exact HI0.out), by repeat (first | (with_reducible first | exact HB.out | apply below_alloc | apply pw_below_drewN | apply below_drew1 | refine below_set ?_ (IsS73.ge HI0.out)) | exact HB.out), by repeat (first | (with_reducible first | exact HK.out | apply KeepBut.set_ | apply keep_drewN | apply keep_drew | apply keep_alloc) | exact HK.out)⟩
                  · rw [if_neg c34] at H
                    exact absurd H (by simp)
                · rw [if_neg c33] at H
                  exact absurd H (by simp)
              · rw [if_neg c32] at H
                exact absurd H (by simp)
            · replace c30 := Bool.eq_false_iff.mpr c30
              subst c30
              have H1 : (some (x5_15, t248)) = some (r1, r2) := by rw [if_neg (show ¬ (false = true) by decide)] at H; exact H
              clear H
              have H := H1
              clear H1
              simp only [Option.some.injEq, Prod.mk.injEq] at H
              obtain ⟨rfl, rfl⟩ := H
              go_wp2_with (first | ((with_reducible refine gate_callee (f := 64) rfl ?_); refine goesL_ (some 53) rfl rfl Try.func64 (by kernel_rfl) rfl #[.pointer (some ⟨g, 0, none⟩), .int .i64 a1] rfl (by (try simp only [List.map_toArray, List.map_cons, List.map_nil]); first | done | rfl | (simp only [List.length_drop, List.length_take]; rfl)) ?_; (with_reducible refine (spec_l20Rd_odd.calls kj15 g s0_0 t241 a1 false t248 w0 _ ?side1 ?side2 A29.out).mono ?_); (case side1 => repeat (first | (with_reducible first | exact HI0.out | apply IsS73.alloc | apply IsS73.drewN | apply IsS73.drew | apply IsS73.set_1) | exact HI0.out)); (case side2 => repeat (first | (with_reducible first | exact HB.out | apply below_alloc | apply pw_below_drewN | apply below_drew1 | refine below_set ?_ (IsS73.ge HI0.out)) | exact HB.out)); rintro e w41 ⟨rfl, hi, hb, hk⟩; refine ⟨_, rfl, ?_⟩; have n0_ := Aside0.mk (Kd.R_mono (Kd.R_keep (IsS73.apart (show IsS73 w0 _ g s0_0 t241 from by repeat (first | (with_reducible first | exact HI0.out | apply IsS73.alloc | apply IsS73.drewN | apply IsS73.drew | apply IsS73.set_1) | exact HI0.out)) (by (with_reducible repeat (first | apply Kd.R_alloc | apply Kd.R_drewN | apply Kd.R_drew)); exact HO_5.out) (by decide)) hk (fun _ h => h.2)) (fun _ h => h.1)); have n1_ := Aside0.mk (KeepBut.trans (by repeat (first | (with_reducible first | exact HK.out | apply KeepBut.set_ | apply keep_drewN | apply keep_drew | apply keep_alloc) | exact HK.out)) hk (.inl rfl)); have n2_ := Aside0.mk (hb); have n3_ := Aside0.mk (hi); clear HO_5; clear HK; clear HB; clear HI0; have HO_5 := n0_; have HK := n1_; have HB := n2_; have HI0 := n3_; clear n0_ n1_ n2_ n3_; (try clear hb); (try clear hb2); (try clear hk); (try clear hi)))
              go_ret
              exact ⟨_, by first | rfl | (simp only [u8_w_, w64_u8_]; done) | (simp only [u8_w_, w64_u8_]; rfl) | (simp [errW_none, errW_some] <;> rfl) | (simp [*, errW_none, errW_some] <;> rfl), by (with_reducible repeat (first | apply Kd.R_alloc | apply Kd.R_drewN | apply Kd.R_drew)); exact HO_5.out, by repeat (first | (with_reducible first | exact HI0.out | apply IsS73.alloc | apply IsS73.drewN | apply IsS73.drew | apply IsS73.set_1) | exact HI0.out), by repeat (first | (with_reducible first | exact HB.out | apply below_alloc | apply pw_below_drewN | apply below_drew1 | refine below_set ?_ (IsS73.ge HI0.out)) | exact HB.out), by repeat (first | (with_reducible first | exact HK.out | apply KeepBut.set_ | apply keep_drewN | apply keep_drew | apply keep_alloc) | exact HK.out)⟩

/-! ### spec_l20Open: function 43 -/
def spec_l20Open.f (l0 : List Int) : Option (List Int × Int) := if (l0.length : Int) > 2000 then (if 2000 ≤ (l0.length : Int) then (some (l0.take 2000, 0)) else (none)) else (some (l0, 0))
set_option maxHeartbeats 8000000 in
set_option maxRecDepth 100000 in
theorem spec_l20Open.calls (A0 : Option Addr) (c0 : Nat) (l0 : List Int) (r1 : List Int) (r2 : Int) (w0 w : World) (hB : Below w0.heap.size w0 w) (hr0 : Kd.C (Kd.int .u8) w0 A0 l0.length l0) (hc0 : l0.length ≤ c0) (h : spec_l20Open.f l0 = some (r1, r2)) :
    Calls Try.prog 43 #[.slice A0 l0.length c0] w fun e w' => ∃ g_ : Nat, e = .returned (.pointer (some ⟨g_, 0, none⟩)) ∧ IsS73 w0 w' g_ r1 r2 ∧ Below w0.heap.size w0 w' ∧ Below w.heap.size w w' := by
  have hu73 := Try.underlying73
  have HR0 := Aside0.mk hr0
  have HC0 := Aside0.mk hc0
  clear hr0 hc0
  have HBW := Aside0.mk (Below.refl w.heap.size w)
  have HW0 := Aside0.mk hB.size
  have HB := Aside0.mk hB
  clear hB
  have H : (if (l0.length : Int) > 2000 then (if 2000 ≤ (l0.length : Int) then (some (l0.take 2000, 0)) else (none)) else (some (l0, 0))) = some (r1, r2) := h
  clear h
  by_cases c2 : (l0.length : Int) > 2000
  · rw [if_pos c2] at H
    have c2b0 : decide (2000 < (l0.length : Int)) = true := decide_eq_true c2
    have c2b1 : decide (2000 < l0.length) = true := decide_eq_true (by omega)
    clear c2
    by_cases c3 : 2000 ≤ (l0.length : Int)
    · rw [if_pos c3] at H
      have c3b0 := eq_true c3
      have c3b1 : decide (2000 ≤ (l0.length : Int)) = true := decide_eq_true c3
      clear c3
      simp only [Option.some.injEq, Prod.mk.injEq] at H
      obtain ⟨rfl, rfl⟩ := H
      obtain ⟨i04, hi04, _, hsz4, _⟩ := info_parts info5
      obtain ⟨hcut4, hA4, hC4⟩ := print_take_of (P := Try.prog) (Value.int .u8) 0 22 5 .i64 Try.underlying22 hi04 hsz4 A0 c0 l0 2000 (by omega) (of_decide_eq_true (by first | (with_reducible assumption) | assumption)) HC0.out
      have HR258 := Aside0.mk (Kd.C_of_reads (h1 := fun _ => rfl) (hA4 _ (Kd.reads_of_C HR0.out)))
      have HC258 := Aside0.mk hC4
      clear hA4 hC4 hi04 hsz4
      go_enter Try.func43, Try.ntmps43
      go_wp2_with (first | ((with_reducible refine gate_dst (N := 10) rfl ?_); refine box_event ?hg (N := 10) ?hd (cs := #[.slice A0 (l0.take 2000).length c0, .int .i64 0]) (t := 73) ?hr ?_; (case hd => rfl); (case hg => rfl); (case hr => first | (go_simp; done) | (go_simp; rfl)); intro gb259 hg w5 hbox hb; have n0_ := Aside0.mk (below_step HBW.out hb); have n1_ := Aside0.mk (below_step (by repeat (first | (with_reducible first | exact HB.out | apply below_alloc | apply pw_below_drewN | apply below_drew1) | exact HB.out)) hb); have n2_ := Aside0.mk (hbox); have n3_ := Aside0.mk ((by rw [hg]; exact (below_size (by repeat (first | (with_reducible first | exact HBW.out | apply below_alloc | apply pw_below_drewN | apply below_drew1) | exact HBW.out))) : w.heap.size ≤ gb259)); have n4_ := Aside0.mk ((Nat.le_trans HW0.out (by rw [hg]; exact (below_size (by repeat (first | (with_reducible first | exact HBW.out | apply below_alloc | apply pw_below_drewN | apply below_drew1) | exact HBW.out))) : w.heap.size ≤ gb259) : w0.heap.size ≤ gb259)); clear HBW; clear HB; have HBW := n0_; have HB := n1_; have BK259 := n2_; have GW259 := n3_; have GE259 := n4_; clear n0_ n1_ n2_ n3_ n4_; clear hb hbox hg))
      go_ret
      exact ⟨_, rfl, (show IsS73 w0 _ gb259 (l0.take 2000) 0 from ⟨_, _, by (with_reducible repeat (first | refine blk_drewN ?_ _ | refine blk_drew ?_ | refine blk_alloc ?_ _)); exact BK259.out, GE259.out, HR258.out⟩), by repeat (first | (with_reducible first | exact HB.out | apply below_alloc | apply pw_below_drewN | apply below_drew1 | refine below_set ?_ GE259.out) | exact HB.out), by repeat (first | (with_reducible first | exact HBW.out | apply below_alloc | apply pw_below_drewN | apply below_drew1 | refine below_set ?_ GW259.out) | exact HBW.out)⟩
    · rw [if_neg c3] at H
      exact absurd H (by simp)
  · rw [if_neg c2] at H
    have c2b0 : decide (2000 < (l0.length : Int)) = false := decide_eq_false c2
    have c2b1 : decide (2000 < l0.length) = false := decide_eq_false (by omega)
    clear c2
    simp only [Option.some.injEq, Prod.mk.injEq] at H
    obtain ⟨rfl, rfl⟩ := H
    go_enter Try.func43, Try.ntmps43
    go_wp2_with (first | ((with_reducible refine gate_dst (N := 10) rfl ?_); refine box_event ?hg (N := 10) ?hd (cs := #[.slice A0 l0.length c0, .int .i64 0]) (t := 73) ?hr ?_; (case hd => rfl); (case hg => rfl); (case hr => first | (go_simp; done) | (go_simp; rfl)); intro gb260 hg w6 hbox hb; have n0_ := Aside0.mk (below_step HBW.out hb); have n1_ := Aside0.mk (below_step (by repeat (first | (with_reducible first | exact HB.out | apply below_alloc | apply pw_below_drewN | apply below_drew1) | exact HB.out)) hb); have n2_ := Aside0.mk (hbox); have n3_ := Aside0.mk ((by rw [hg]; exact (below_size (by repeat (first | (with_reducible first | exact HBW.out | apply below_alloc | apply pw_below_drewN | apply below_drew1) | exact HBW.out))) : w.heap.size ≤ gb260)); have n4_ := Aside0.mk ((Nat.le_trans HW0.out (by rw [hg]; exact (below_size (by repeat (first | (with_reducible first | exact HBW.out | apply below_alloc | apply pw_below_drewN | apply below_drew1) | exact HBW.out))) : w.heap.size ≤ gb260) : w0.heap.size ≤ gb260)); clear HBW; clear HB; have HBW := n0_; have HB := n1_; have BK260 := n2_; have GW260 := n3_; have GE260 := n4_; clear n0_ n1_ n2_ n3_ n4_; clear hb hbox hg))
    go_ret
    exact ⟨_, rfl, (show IsS73 w0 _ gb260 l0 0 from ⟨_, _, by (with_reducible repeat (first | refine blk_drewN ?_ _ | refine blk_drew ?_ | refine blk_alloc ?_ _)); exact BK260.out, GE260.out, HR0.out⟩), by repeat (first | (with_reducible first | exact HB.out | apply below_alloc | apply pw_below_drewN | apply below_drew1 | refine below_set ?_ GE260.out) | exact HB.out), by repeat (first | (with_reducible first | exact HBW.out | apply below_alloc | apply pw_below_drewN | apply below_drew1 | refine below_set ?_ GW260.out) | exact HBW.out)⟩

/-! ### spec_l20Span: function 58 -/
def spec_l20Span.j0 : Nat → ByteArray → ByteArray → List Int → Int → Option (ByteArray × ByteArray × Int)
  | 0, _, _, _, _ => none
  | k + 1, x5, x6, x1000, x1001 => if (Op.bytesLess x5.toList x6.toList) = true then (some (x5, x6, x1001)) else (if (Op.bytesLess x6.toList x5.toList) = true then (some (x6, x5, x1001)) else (some (x5, (⟨#[]⟩ : ByteArray), x1001)))
def spec_l20Span.f (k : Nat) (s0_0 : List Int) (s0_1 : Int) (a1 : Int) : Option (ByteArray × ByteArray × Int) := (spec_l20Rd_odd.f k s0_0 s0_1 a1).bind fun bt262 => (if bt262.1 = true then ((some (([(⟨(⟨#[98]⟩ : ByteArray), (⟨#[98]⟩ : ByteArray)⟩ : S36), (⟨(⟨#[99]⟩ : ByteArray), (⟨#[98]⟩ : ByteArray)⟩ : S36), (⟨(⟨#[]⟩ : ByteArray), (⟨#[97]⟩ : ByteArray)⟩ : S36), (⟨(⟨#[65]⟩ : ByteArray), (⟨#[]⟩ : ByteArray)⟩ : S36), (⟨(⟨#[]⟩ : ByteArray), (⟨#[97, 98, 99, 100, 101]⟩ : ByteArray)⟩ : S36)] : List (S36)) : List (S36))).bind fun y264 => ((spec_l20Rd_pick.f k s0_0 bt262.2 5).bind fun bt267 => (if 0 ≤ bt267.1 then (if bt267.1 < (y264.length : Int) then (some ((rd_T36 y264 bt267.1).f0, (rd_T36 y264 bt267.1).f1, bt267.2)) else (none)) else (none)))) else ((spec_l20Key.f k s0_0 bt262.2 0).bind fun bt270 => ((spec_l20Key.f k s0_0 bt270.2 0).bind fun bt272 => ((spec_l20Rd_pick.f k s0_0 bt272.2 6).bind fun bt274 => (if bt274.1 = 0 then (some ((⟨#[]⟩ : ByteArray), (⟨#[]⟩ : ByteArray), bt274.2)) else (if bt274.1 = 1 then (some (bt270.1, (⟨#[]⟩ : ByteArray), bt274.2)) else (if bt274.1 = 2 then (if bt272.1.toList = ([97] : List UInt8) then (spec_l20Span.j0 k bt270.1 bt272.1 s0_0 bt274.2) else (some ((⟨#[]⟩ : ByteArray), bt272.1, bt274.2))) else (spec_l20Span.j0 k bt270.1 bt272.1 s0_0 bt274.2))))))))
theorem spec_l20Span.mono_l : ∀ k, (∀ y0 y1 y2 y3, LeO (spec_l20Span.j0 k y0 y1 y2 y3) (spec_l20Span.j0 (k + 1) y0 y1 y2 y3))
  | 0 => fun _ _ _ _ r h => by simp [spec_l20Span.j0] at h
  | k + 1 => by
    have ih0 := spec_l20Span.mono_l k
    · intro y0 y1 y2 y3
      unfold spec_l20Span.j0
      repeat' first
      | (with_reducible exact ih0 _ _ _ _)
      | (with_reducible exact spec_l20Key.mono _ _ _ _)
      | (with_reducible exact spec_l20Rd_odd.mono _ _ _ _)
      | (with_reducible exact spec_l20Rd_pick.mono _ _ _ _)
      | (with_reducible exact LeO.refl _)
      | (with_reducible exact LeO.none _)
      | (with_reducible refine LeO.ite ?_ ?_)
      | (with_reducible refine LeO.bind ?_ (fun _ => ?_))
      | exact ih0 _ _ _ _
      | exact spec_l20Key.mono _ _ _ _
      | exact spec_l20Rd_odd.mono _ _ _ _
      | exact spec_l20Rd_pick.mono _ _ _ _
      | exact LeO.none _
      | refine LeO.ite ?_ ?_
      | refine LeO.bind ?_ (fun _ => ?_)
theorem spec_l20Span.mono : ∀ a0 a1 a2 k, LeO (spec_l20Span.f k a0 a1 a2) (spec_l20Span.f (k + 1) a0 a1 a2) := by
  intro a0 a1 a2 k
  have ih0 := spec_l20Span.mono_l k
  unfold spec_l20Span.f
  repeat' first
      | (with_reducible exact ih0 _ _ _ _)
      | (with_reducible exact spec_l20Key.mono _ _ _ _)
      | (with_reducible exact spec_l20Rd_odd.mono _ _ _ _)
      | (with_reducible exact spec_l20Rd_pick.mono _ _ _ _)
      | (with_reducible exact LeO.refl _)
      | (with_reducible exact LeO.none _)
      | (with_reducible refine LeO.ite ?_ ?_)
      | (with_reducible refine LeO.bind ?_ (fun _ => ?_))
      | exact ih0 _ _ _ _
      | exact spec_l20Key.mono _ _ _ _
      | exact spec_l20Rd_odd.mono _ _ _ _
      | exact spec_l20Rd_pick.mono _ _ _ _
      | exact LeO.none _
      | refine LeO.ite ?_ ?_
      | refine LeO.bind ?_ (fun _ => ?_)
set_option maxHeartbeats 8000000 in
set_option maxRecDepth 100000 in
theorem spec_l20Span.calls (k : Nat) (g : Nat) (s0_0 : List Int) (s0_1 : Int) (a1 : Int) (r1 : ByteArray) (r2 : ByteArray) (r3 : Int) (w0 w : World) (hI : IsS73 w0 w g s0_0 s0_1) (hB : Below w0.heap.size w0 w) (h : spec_l20Span.f k s0_0 s0_1 a1 = some (r1, r2, r3)) :
    Calls Try.prog 58 #[.pointer (some ⟨g, 0, none⟩), .int .i64 a1] w fun e w' => e = .returned (.agg #[.string r1, .string r2]) ∧ IsS73 w0 w' g s0_0 r3 ∧ Below w0.heap.size w0 w' ∧ KeepBut w w' g none := by
  have hu36 := Try.underlying36
  have HI0 := Aside0.mk hI
  have HK := Aside0.mk (KeepBut.refl w g none)
  have HL := Aside0.mk hB.size
  clear hI
  have HW0 := Aside0.mk hB.size
  have HB := Aside0.mk hB
  clear hB
  have H : ((spec_l20Rd_odd.f k s0_0 s0_1 a1).bind fun bt262 => (if bt262.1 = true then ((some (([(⟨(⟨#[98]⟩ : ByteArray), (⟨#[98]⟩ : ByteArray)⟩ : S36), (⟨(⟨#[99]⟩ : ByteArray), (⟨#[98]⟩ : ByteArray)⟩ : S36), (⟨(⟨#[]⟩ : ByteArray), (⟨#[97]⟩ : ByteArray)⟩ : S36), (⟨(⟨#[65]⟩ : ByteArray), (⟨#[]⟩ : ByteArray)⟩ : S36), (⟨(⟨#[]⟩ : ByteArray), (⟨#[97, 98, 99, 100, 101]⟩ : ByteArray)⟩ : S36)] : List (S36)) : List (S36))).bind fun y264 => ((spec_l20Rd_pick.f k s0_0 bt262.2 5).bind fun bt267 => (if 0 ≤ bt267.1 then (if bt267.1 < (y264.length : Int) then (some ((rd_T36 y264 bt267.1).f0, (rd_T36 y264 bt267.1).f1, bt267.2)) else (none)) else (none)))) else ((spec_l20Key.f k s0_0 bt262.2 0).bind fun bt270 => ((spec_l20Key.f k s0_0 bt270.2 0).bind fun bt272 => ((spec_l20Rd_pick.f k s0_0 bt272.2 6).bind fun bt274 => (if bt274.1 = 0 then (some ((⟨#[]⟩ : ByteArray), (⟨#[]⟩ : ByteArray), bt274.2)) else (if bt274.1 = 1 then (some (bt270.1, (⟨#[]⟩ : ByteArray), bt274.2)) else (if bt274.1 = 2 then (if bt272.1.toList = ([97] : List UInt8) then (spec_l20Span.j0 k bt270.1 bt272.1 s0_0 bt274.2) else (some ((⟨#[]⟩ : ByteArray), bt272.1, bt274.2))) else (spec_l20Span.j0 k bt270.1 bt272.1 s0_0 bt274.2))))))))) = some (r1, r2, r3) := h
  clear h
  replace H := Option.bind_eq_some_iff.mp H
  obtain ⟨⟨t262, t263⟩, A30, H⟩ := H
  replace H : (if t262 = true then ((some (([(⟨(⟨#[98]⟩ : ByteArray), (⟨#[98]⟩ : ByteArray)⟩ : S36), (⟨(⟨#[99]⟩ : ByteArray), (⟨#[98]⟩ : ByteArray)⟩ : S36), (⟨(⟨#[]⟩ : ByteArray), (⟨#[97]⟩ : ByteArray)⟩ : S36), (⟨(⟨#[65]⟩ : ByteArray), (⟨#[]⟩ : ByteArray)⟩ : S36), (⟨(⟨#[]⟩ : ByteArray), (⟨#[97, 98, 99, 100, 101]⟩ : ByteArray)⟩ : S36)] : List (S36)) : List (S36))).bind fun y264 => ((spec_l20Rd_pick.f k s0_0 t263 5).bind fun bt267 => (if 0 ≤ bt267.1 then (if bt267.1 < (y264.length : Int) then (some ((rd_T36 y264 bt267.1).f0, (rd_T36 y264 bt267.1).f1, bt267.2)) else (none)) else (none)))) else ((spec_l20Key.f k s0_0 t263 0).bind fun bt270 => ((spec_l20Key.f k s0_0 bt270.2 0).bind fun bt272 => ((spec_l20Rd_pick.f k s0_0 bt272.2 6).bind fun bt274 => (if bt274.1 = 0 then (some ((⟨#[]⟩ : ByteArray), (⟨#[]⟩ : ByteArray), bt274.2)) else (if bt274.1 = 1 then (some (bt270.1, (⟨#[]⟩ : ByteArray), bt274.2)) else (if bt274.1 = 2 then (if bt272.1.toList = ([97] : List UInt8) then (spec_l20Span.j0 k bt270.1 bt272.1 s0_0 bt274.2) else (some ((⟨#[]⟩ : ByteArray), bt272.1, bt274.2))) else (spec_l20Span.j0 k bt270.1 bt272.1 s0_0 bt274.2)))))))) = some (r1, r2, r3) := H
  have A3 := Aside0.mk A30
  clear A30
  by_cases c4 : t262 = true
  · subst c4
    have H1 : ((some (([(⟨(⟨#[98]⟩ : ByteArray), (⟨#[98]⟩ : ByteArray)⟩ : S36), (⟨(⟨#[99]⟩ : ByteArray), (⟨#[98]⟩ : ByteArray)⟩ : S36), (⟨(⟨#[]⟩ : ByteArray), (⟨#[97]⟩ : ByteArray)⟩ : S36), (⟨(⟨#[65]⟩ : ByteArray), (⟨#[]⟩ : ByteArray)⟩ : S36), (⟨(⟨#[]⟩ : ByteArray), (⟨#[97, 98, 99, 100, 101]⟩ : ByteArray)⟩ : S36)] : List (S36)) : List (S36))).bind fun y264 => ((spec_l20Rd_pick.f k s0_0 t263 5).bind fun bt267 => (if 0 ≤ bt267.1 then (if bt267.1 < (y264.length : Int) then (some ((rd_T36 y264 bt267.1).f0, (rd_T36 y264 bt267.1).f1, bt267.2)) else (none)) else (none)))) = some (r1, r2, r3) := by rw [if_pos rfl] at H; exact H
    clear H
    have H := H1
    clear H1
    obtain ⟨y264, hy264⟩ : ∃ y_ : List (S36), y_ = (([(⟨(⟨#[98]⟩ : ByteArray), (⟨#[98]⟩ : ByteArray)⟩ : S36), (⟨(⟨#[99]⟩ : ByteArray), (⟨#[98]⟩ : ByteArray)⟩ : S36), (⟨(⟨#[]⟩ : ByteArray), (⟨#[97]⟩ : ByteArray)⟩ : S36), (⟨(⟨#[65]⟩ : ByteArray), (⟨#[]⟩ : ByteArray)⟩ : S36), (⟨(⟨#[]⟩ : ByteArray), (⟨#[97, 98, 99, 100, 101]⟩ : ByteArray)⟩ : S36)] : List (S36))) := ⟨_, rfl⟩
    replace H : ((spec_l20Rd_pick.f k s0_0 t263 5).bind fun bt267 => (if 0 ≤ bt267.1 then (if bt267.1 < (y264.length : Int) then (some ((rd_T36 y264 bt267.1).f0, (rd_T36 y264 bt267.1).f1, bt267.2)) else (none)) else (none))) = some (r1, r2, r3) := by first | (rw [hy264]; with_reducible exact H) | (have H2_ := (Option.bind_some _ _).symm.trans H; rw [hy264]; with_reducible exact H2_) | (have H2_ := (Option.bind_some _ _).symm.trans H; with_reducible exact H2_) | with_reducible exact H | (rw [hy264]; exact H) | exact H
    have Ny264 := Aside0.mk hy264
    clear hy264
    replace H := Option.bind_eq_some_iff.mp H
    obtain ⟨⟨t267, t268⟩, A50, H⟩ := H
    replace H : (if 0 ≤ t267 then (if t267 < (y264.length : Int) then (some ((rd_T36 y264 t267).f0, (rd_T36 y264 t267).f1, t268)) else (none)) else (none)) = some (r1, r2, r3) := H
    have A5 := Aside0.mk A50
    clear A50
    by_cases c6 : 0 ≤ t267
    · rw [if_pos c6] at H
      have c6b0 : decide (0 ≤ t267) = true := decide_eq_true c6
      clear c6
      by_cases c7 : t267 < (y264.length : Int)
      · rw [if_pos c7] at H
        have c7b0 : decide (t267 < (y264.length : Int)) = true := decide_eq_true c7
        clear c7
        simp only [Option.some.injEq, Prod.mk.injEq] at H
        obtain ⟨rfl, rfl, rfl⟩ := H
        go_enter Try.func58, Try.ntmps58
        go_wp2_with (first | ((with_reducible refine gate_dst (N := 4) rfl ?_); refine box_event ?hg (N := 4) ?hd (cs := #[.string (⟨#[]⟩ : ByteArray), .string (⟨#[]⟩ : ByteArray)]) (t := 36) ?hr ?_; (case hd => rfl); (case hg => rfl); (case hr => first | (go_simp; done) | (go_simp; rfl)); intro gb261 hg w8 hbox hb; have n0_ := Aside0.mk (IsS73.below (by repeat (first | (with_reducible first | exact HI0.out | apply IsS73.alloc | apply IsS73.drewN | apply IsS73.drew | apply IsS73.set_1) | exact HI0.out)) hb); have n1_ := Aside0.mk (KeepBut.trans (by repeat (first | (with_reducible first | exact HK.out | apply KeepBut.set_ | apply keep_drewN | apply keep_drew | apply keep_alloc) | exact HK.out)) (KeepBut.of_below hb g none) (.inl rfl)); have n2_ := Aside0.mk (below_step (by repeat (first | (with_reducible first | exact HB.out | apply below_alloc | apply pw_below_drewN | apply below_drew1 | refine below_set ?_ (IsS73.ge HI0.out)) | exact HB.out)) hb); have n3_ := Aside0.mk (hbox); have n4_ := Aside0.mk ((by rw [hg]; exact (keep_size (w := w) (g := g) (row := none) (by repeat (first | (with_reducible first | exact HK.out | apply KeepBut.set_ | apply keep_drewN | apply keep_drew | apply keep_alloc) | exact HK.out))) : w.heap.size ≤ gb261)); have n5_ := Aside0.mk ((Nat.le_trans HW0.out (by rw [hg]; exact (keep_size (w := w) (g := g) (row := none) (by repeat (first | (with_reducible first | exact HK.out | apply KeepBut.set_ | apply keep_drewN | apply keep_drew | apply keep_alloc) | exact HK.out))) : w.heap.size ≤ gb261) : w0.heap.size ≤ gb261)); have n6_ := Aside0.mk ((by rw [hg]; exact Nat.ne_of_lt (IsS73.lt (show IsS73 w0 _ g s0_0 s0_1 from by repeat (first | (with_reducible first | exact HI0.out | apply IsS73.alloc | apply IsS73.drewN | apply IsS73.drew | apply IsS73.set_1) | exact HI0.out))) : g ≠ gb261)); have n7_ := Aside0.mk ((by rw [hg]; exact Nat.ne_of_gt (IsS73.lt (show IsS73 w0 _ g s0_0 s0_1 from by repeat (first | (with_reducible first | exact HI0.out | apply IsS73.alloc | apply IsS73.drewN | apply IsS73.drew | apply IsS73.set_1) | exact HI0.out))) : gb261 ≠ g)); clear HI0; clear HK; clear HB; have HI0 := n0_; have HK := n1_; have HB := n2_; have BK261 := n3_; have GW261 := n4_; have GE261 := n5_; have NB0_261 := n6_; have NB261_0 := n7_; clear n0_ n1_ n2_ n3_ n4_ n5_ n6_ n7_; clear hb hbox hg) | ((with_reducible refine gate_callee (f := 64) rfl ?_); refine goesL_ (some 9) rfl rfl Try.func64 (by kernel_rfl) rfl #[.pointer (some ⟨g, 0, none⟩), .int .i64 a1] rfl (by (try simp only [List.map_toArray, List.map_cons, List.map_nil]); first | done | rfl | (simp only [List.length_drop, List.length_take]; rfl)) ?_; (with_reducible refine (spec_l20Rd_odd.calls k g s0_0 s0_1 a1 true t263 w0 _ ?side1 ?side2 A3.out).mono ?_); (case side1 => repeat (first | (with_reducible first | exact HI0.out | apply IsS73.alloc | apply IsS73.drewN | apply IsS73.drew | apply IsS73.set_1 | refine IsS73.far ?_ NB0_261.out _) | exact HI0.out)); (case side2 => repeat (first | (with_reducible first | exact HB.out | apply below_alloc | apply pw_below_drewN | apply below_drew1 | refine below_set ?_ (IsS73.ge HI0.out) | refine below_set ?_ GE261.out) | exact HB.out)); rintro e w9 ⟨rfl, hi, hb, hk⟩; refine ⟨_, rfl, ?_⟩; have n0_ := Aside0.mk (KeepBut.blk hk (g' := gb261) (o := .cells #[.string (⟨#[]⟩ : ByteArray), .string (⟨#[]⟩ : ByteArray)] 36 (0, 0)) (by (with_reducible repeat (first | refine blk_drewN ?_ _ | refine blk_drew ?_ | refine blk_alloc ?_ _)); exact BK261.out) NB261_0.out (by simp)); have n1_ := Aside0.mk (KeepBut.trans (by repeat (first | (with_reducible first | exact HK.out | apply KeepBut.set_ | apply keep_drewN | apply keep_drew | apply keep_alloc | refine keep_far ?_ GW261.out _) | exact HK.out)) hk (.inl rfl)); have n2_ := Aside0.mk (hb); have n3_ := Aside0.mk (hi); clear BK261; clear HK; clear HB; clear HI0; have BK261 := n0_; have HK := n1_; have HB := n2_; have HI0 := n3_; clear n0_ n1_ n2_ n3_; (try clear hb); (try clear hb2); (try clear hk); (try clear hi)) | ((with_reducible refine gate_dst (N := 15) rfl ?_); refine Kd.R_lit k36 _ 36 ?hg (N := 15) ?hd (xs := ([(⟨(⟨#[98]⟩ : ByteArray), (⟨#[98]⟩ : ByteArray)⟩ : S36), (⟨(⟨#[99]⟩ : ByteArray), (⟨#[98]⟩ : ByteArray)⟩ : S36), (⟨(⟨#[]⟩ : ByteArray), (⟨#[97]⟩ : ByteArray)⟩ : S36), (⟨(⟨#[65]⟩ : ByteArray), (⟨#[]⟩ : ByteArray)⟩ : S36), (⟨(⟨#[]⟩ : ByteArray), (⟨#[97, 98, 99, 100, 101]⟩ : ByteArray)⟩ : S36)] : List (S36))) (inner := [.string (⟨#[98]⟩ : ByteArray), .string (⟨#[98]⟩ : ByteArray), .string (⟨#[99]⟩ : ByteArray), .string (⟨#[98]⟩ : ByteArray), .string (⟨#[]⟩ : ByteArray), .string (⟨#[97]⟩ : ByteArray), .string (⟨#[65]⟩ : ByteArray), .string (⟨#[]⟩ : ByteArray), .string (⟨#[]⟩ : ByteArray), .string (⟨#[97, 98, 99, 100, 101]⟩ : ByteArray)]) (ok := fun _ => True) (okp := fun _ => True) ?hr ?hp (fun _ hk => hk) trivial (Below.refl _ _) (Nat.le_refl _) (by simp) ?_; (case hd => rfl); (case hg => rfl); (case hr => first | (go_simp; done) | (go_simp; rfl)); (case hp => exact (Reps.c2 (show Kd.M k36 _ _ _ (⟨(⟨#[98]⟩ : ByteArray), (⟨#[98]⟩ : ByteArray)⟩ : S36) [.string (⟨#[98]⟩ : ByteArray), .string (⟨#[98]⟩ : ByteArray)] from (k36_mkM _ _ _ (⟨(⟨#[98]⟩ : ByteArray), (⟨#[98]⟩ : ByteArray)⟩ : S36) )) (Reps.c2 (show Kd.M k36 _ _ _ (⟨(⟨#[99]⟩ : ByteArray), (⟨#[98]⟩ : ByteArray)⟩ : S36) [.string (⟨#[99]⟩ : ByteArray), .string (⟨#[98]⟩ : ByteArray)] from (k36_mkM _ _ _ (⟨(⟨#[99]⟩ : ByteArray), (⟨#[98]⟩ : ByteArray)⟩ : S36) )) (Reps.c2 (show Kd.M k36 _ _ _ (⟨(⟨#[]⟩ : ByteArray), (⟨#[97]⟩ : ByteArray)⟩ : S36) [.string (⟨#[]⟩ : ByteArray), .string (⟨#[97]⟩ : ByteArray)] from (k36_mkM _ _ _ (⟨(⟨#[]⟩ : ByteArray), (⟨#[97]⟩ : ByteArray)⟩ : S36) )) (Reps.c2 (show Kd.M k36 _ _ _ (⟨(⟨#[65]⟩ : ByteArray), (⟨#[]⟩ : ByteArray)⟩ : S36) [.string (⟨#[65]⟩ : ByteArray), .string (⟨#[]⟩ : ByteArray)] from (k36_mkM _ _ _ (⟨(⟨#[65]⟩ : ByteArray), (⟨#[]⟩ : ByteArray)⟩ : S36) )) (Reps.c2 (show Kd.M k36 _ _ _ (⟨(⟨#[]⟩ : ByteArray), (⟨#[97, 98, 99, 100, 101]⟩ : ByteArray)⟩ : S36) [.string (⟨#[]⟩ : ByteArray), .string (⟨#[97, 98, 99, 100, 101]⟩ : ByteArray)] from (k36_mkM _ _ _ (⟨(⟨#[]⟩ : ByteArray), (⟨#[97, 98, 99, 100, 101]⟩ : ByteArray)⟩ : S36) )) (Reps.none _ _))))))); intro v265 w10 ho11 hb hg_ hnew_; clear hg_ hnew_; (first | rw [← Ny264.out] at ho11 | (simp only [Int.reduceToNat] at ho11; rw [← Ny264.out] at ho11)); have n0_ := Aside0.mk (Kd.R_lower (Kd.R_newB ho11 (g := gb261) (o := .cells #[.string (⟨#[]⟩ : ByteArray), .string (⟨#[]⟩ : ByteArray)] 36 (0, 0)) (by (with_reducible repeat (first | refine blk_drewN ?_ _ | refine blk_drew ?_ | refine blk_alloc ?_ _)); exact BK261.out)) (keep_size (w := w) (g := g) (row := none) (by repeat (first | (with_reducible first | exact HK.out | apply KeepBut.set_ | apply keep_drewN | apply keep_drew | apply keep_alloc | refine keep_far ?_ GW261.out _) | exact HK.out)))); have n1_ := Aside0.mk (IsS73.below (by repeat (first | (with_reducible first | exact HI0.out | apply IsS73.alloc | apply IsS73.drewN | apply IsS73.drew | apply IsS73.set_1 | refine IsS73.far ?_ NB0_261.out _) | exact HI0.out)) hb); have n2_ := Aside0.mk (blk_below (g := gb261) (o := .cells #[.string (⟨#[]⟩ : ByteArray), .string (⟨#[]⟩ : ByteArray)] 36 (0, 0)) (by (with_reducible repeat (first | refine blk_drewN ?_ _ | refine blk_drew ?_ | refine blk_alloc ?_ _)); exact BK261.out) hb); have n3_ := Aside0.mk (KeepBut.trans (by repeat (first | (with_reducible first | exact HK.out | apply KeepBut.set_ | apply keep_drewN | apply keep_drew | apply keep_alloc | refine keep_far ?_ GW261.out _) | exact HK.out)) (KeepBut.of_below hb g none) (.inl rfl)); have n4_ := Aside0.mk (below_step (by repeat (first | (with_reducible first | exact HB.out | apply below_alloc | apply pw_below_drewN | apply below_drew1 | refine below_set ?_ (IsS73.ge HI0.out) | refine below_set ?_ GE261.out) | exact HB.out)) hb); clear HI0; clear BK261; clear HK; clear HB; have HO266 := n0_; have HI0 := n1_; have BK261 := n2_; have HK := n3_; have HB := n4_; clear n0_ n1_ n2_ n3_ n4_; clear hb ho11) | ((with_reducible refine gate_callee (f := 56) rfl ?_); refine goesL_ (some 17) rfl rfl Try.func56 (by kernel_rfl) rfl #[.pointer (some ⟨g, 0, none⟩), .int .i64 5] rfl (by (try simp only [List.map_toArray, List.map_cons, List.map_nil]); first | done | rfl | (simp only [List.length_drop, List.length_take]; rfl)) ?_; (with_reducible refine (spec_l20Rd_pick.calls k g s0_0 t263 5 t267 t268 w0 _ ?side1 ?side2 A5.out).mono ?_); (case side1 => repeat (first | (with_reducible first | exact HI0.out | apply IsS73.alloc | apply IsS73.drewN | apply IsS73.drew | apply IsS73.set_1 | refine IsS73.far ?_ NB0_261.out _) | exact HI0.out)); (case side2 => repeat (first | (with_reducible first | exact HB.out | apply below_alloc | apply pw_below_drewN | apply below_drew1 | refine below_set ?_ (IsS73.ge HI0.out) | refine below_set ?_ GE261.out) | exact HB.out)); rintro e w12 ⟨rfl, hi, hb, hk⟩; refine ⟨_, rfl, ?_⟩; have n0_ := Aside0.mk (KeepBut.blk hk (g' := gb261) (o := .cells #[.string (⟨#[]⟩ : ByteArray), .string (⟨#[]⟩ : ByteArray)] 36 (0, 0)) (by (with_reducible repeat (first | refine blk_drewN ?_ _ | refine blk_drew ?_ | refine blk_alloc ?_ _)); exact BK261.out) NB261_0.out (by simp)); have n1_ := Aside0.mk (Kd.R_mono (Kd.R_keep (IsS73.apart (show IsS73 w0 _ g s0_0 t263 from by repeat (first | (with_reducible first | exact HI0.out | apply IsS73.alloc | apply IsS73.drewN | apply IsS73.drew | apply IsS73.set_1 | refine IsS73.far ?_ NB0_261.out _) | exact HI0.out)) (by (with_reducible repeat (first | apply Kd.R_alloc | apply Kd.R_drewN | apply Kd.R_drew)); exact HO266.out) (by decide)) hk (fun _ h => h.2)) (fun _ h => h.1)); have n2_ := Aside0.mk (KeepBut.trans (by repeat (first | (with_reducible first | exact HK.out | apply KeepBut.set_ | apply keep_drewN | apply keep_drew | apply keep_alloc | refine keep_far ?_ GW261.out _) | exact HK.out)) hk (.inl rfl)); have n3_ := Aside0.mk (hb); have n4_ := Aside0.mk (hi); clear BK261; clear HO266; clear HK; clear HB; clear HI0; have BK261 := n0_; have HO266 := n1_; have HK := n2_; have HB := n3_; have HI0 := n4_; clear n0_ n1_ n2_ n3_ n4_; (try clear hb); (try clear hb2); (try clear hk); (try clear hi); obtain ⟨Ao13, co13, eo13⟩ := Kd.R_slice HO266.out; subst eo13; have p269 : 0 ≤ (t267 : Int) := of_decide_eq_true (by first | (with_reducible assumption) | assumption); have q269 : t267 < (y264.length : Int) := of_decide_eq_true (by first | (with_reducible assumption) | assumption); obtain ⟨ad269, e269, hx269_0, hx269_1⟩ := at_T36 (Kd.R_reads' HO266.out).2.2 t267 p269 q269; cases e269; replace p269 := eq_true p269; replace q269 := eq_true q269; have hnb14 := NB261_0.out; have hnc14 := NB0_261.out; have hcz15_0 : w12.cell? ⟨gb261, 0, none⟩ = some (.string (⟨#[]⟩ : ByteArray)) := (blk_cell BK261.out 0).trans rfl; have hcz15_1 : w12.cell? ⟨gb261, 1, none⟩ = some (.string (⟨#[]⟩ : ByteArray)) := (blk_cell BK261.out 1).trans rfl; have hfz15_0 := blk_frozen BK261.out 0; have hfz15_1 := blk_frozen BK261.out 1))
        refine bodyPost_ret (results_cell_row rfl _ _ gb261 36 #[.string ((rd_T36 y264 t267).f0), .string ((rd_T36 y264 t267).f1)] (0, 0) _ rfl (by (with_reducible repeat (first | refine blk_drewN ?_ _ | refine blk_drew ?_ | refine blk_alloc ?_ _)); refine blk_put (cs := #[.string ((rd_T36 y264 t267).f0), .string (⟨#[]⟩ : ByteArray)]) ?_ 1 _ rfl; (with_reducible repeat (first | refine blk_drewN ?_ _ | refine blk_drew ?_ | refine blk_alloc ?_ _)); refine blk_put (cs := #[.string (⟨#[]⟩ : ByteArray), .string (⟨#[]⟩ : ByteArray)]) ?_ 0 _ rfl; (with_reducible repeat (first | refine blk_drewN ?_ _ | refine blk_drew ?_ | refine blk_alloc ?_ _)); exact BK261.out) Try.underlying36 rfl (by kernel_rfl)) rfl ?_
        exact ⟨by first | rfl | (simp only [u8_w_, w64_u8_]; done) | (simp only [u8_w_, w64_u8_]; rfl) | (simp [errW_none, errW_some] <;> rfl) | (simp [*, errW_none, errW_some] <;> rfl), by repeat (first | (with_reducible first | exact HI0.out | apply IsS73.alloc | apply IsS73.drewN | apply IsS73.drew | apply IsS73.set_1 | refine IsS73.far ?_ NB0_261.out _) | exact HI0.out), by repeat (first | (with_reducible first | exact HB.out | apply below_alloc | apply pw_below_drewN | apply below_drew1 | refine below_set ?_ (IsS73.ge HI0.out) | refine below_set ?_ GE261.out) | exact HB.out), by repeat (first | (with_reducible first | exact HK.out | apply KeepBut.set_ | apply keep_drewN | apply keep_drew | apply keep_alloc | refine keep_far ?_ GW261.out _) | exact HK.out)⟩
      · rw [if_neg c7] at H
        exact absurd H (by simp)
    · rw [if_neg c6] at H
      exact absurd H (by simp)
  · replace c4 := Bool.eq_false_iff.mpr c4
    subst c4
    have H1 : ((spec_l20Key.f k s0_0 t263 0).bind fun bt270 => ((spec_l20Key.f k s0_0 bt270.2 0).bind fun bt272 => ((spec_l20Rd_pick.f k s0_0 bt272.2 6).bind fun bt274 => (if bt274.1 = 0 then (some ((⟨#[]⟩ : ByteArray), (⟨#[]⟩ : ByteArray), bt274.2)) else (if bt274.1 = 1 then (some (bt270.1, (⟨#[]⟩ : ByteArray), bt274.2)) else (if bt274.1 = 2 then (if bt272.1.toList = ([97] : List UInt8) then (spec_l20Span.j0 k bt270.1 bt272.1 s0_0 bt274.2) else (some ((⟨#[]⟩ : ByteArray), bt272.1, bt274.2))) else (spec_l20Span.j0 k bt270.1 bt272.1 s0_0 bt274.2))))))) = some (r1, r2, r3) := by rw [if_neg (show ¬ (false = true) by decide)] at H; exact H
    clear H
    have H := H1
    clear H1
    replace H := Option.bind_eq_some_iff.mp H
    obtain ⟨⟨t270, t271⟩, A160, H⟩ := H
    replace H : ((spec_l20Key.f k s0_0 t271 0).bind fun bt272 => ((spec_l20Rd_pick.f k s0_0 bt272.2 6).bind fun bt274 => (if bt274.1 = 0 then (some ((⟨#[]⟩ : ByteArray), (⟨#[]⟩ : ByteArray), bt274.2)) else (if bt274.1 = 1 then (some (t270, (⟨#[]⟩ : ByteArray), bt274.2)) else (if bt274.1 = 2 then (if bt272.1.toList = ([97] : List UInt8) then (spec_l20Span.j0 k t270 bt272.1 s0_0 bt274.2) else (some ((⟨#[]⟩ : ByteArray), bt272.1, bt274.2))) else (spec_l20Span.j0 k t270 bt272.1 s0_0 bt274.2)))))) = some (r1, r2, r3) := H
    have A16 := Aside0.mk A160
    clear A160
    replace H := Option.bind_eq_some_iff.mp H
    obtain ⟨⟨t272, t273⟩, A170, H⟩ := H
    replace H : ((spec_l20Rd_pick.f k s0_0 t273 6).bind fun bt274 => (if bt274.1 = 0 then (some ((⟨#[]⟩ : ByteArray), (⟨#[]⟩ : ByteArray), bt274.2)) else (if bt274.1 = 1 then (some (t270, (⟨#[]⟩ : ByteArray), bt274.2)) else (if bt274.1 = 2 then (if t272.toList = ([97] : List UInt8) then (spec_l20Span.j0 k t270 t272 s0_0 bt274.2) else (some ((⟨#[]⟩ : ByteArray), t272, bt274.2))) else (spec_l20Span.j0 k t270 t272 s0_0 bt274.2))))) = some (r1, r2, r3) := H
    have A17 := Aside0.mk A170
    clear A170
    replace H := Option.bind_eq_some_iff.mp H
    obtain ⟨⟨t274, t275⟩, A180, H⟩ := H
    replace H : (if t274 = 0 then (some ((⟨#[]⟩ : ByteArray), (⟨#[]⟩ : ByteArray), t275)) else (if t274 = 1 then (some (t270, (⟨#[]⟩ : ByteArray), t275)) else (if t274 = 2 then (if t272.toList = ([97] : List UInt8) then (spec_l20Span.j0 k t270 t272 s0_0 t275) else (some ((⟨#[]⟩ : ByteArray), t272, t275))) else (spec_l20Span.j0 k t270 t272 s0_0 t275)))) = some (r1, r2, r3) := H
    have A18 := Aside0.mk A180
    clear A180
    have HC19 := Aside0.mk H
    clear H
    go_enter Try.func58, Try.ntmps58
    go_upto_block 0 with (first | ((with_reducible refine gate_dst (N := 4) rfl ?_); refine box_event ?hg (N := 4) ?hd (cs := #[.string (⟨#[]⟩ : ByteArray), .string (⟨#[]⟩ : ByteArray)]) (t := 36) ?hr ?_; (case hd => rfl); (case hg => rfl); (case hr => first | (go_simp; done) | (go_simp; rfl)); intro gb261 hg w20 hbox hb; have n0_ := Aside0.mk (IsS73.below (by repeat (first | (with_reducible first | exact HI0.out | apply IsS73.alloc | apply IsS73.drewN | apply IsS73.drew | apply IsS73.set_1) | exact HI0.out)) hb); have n1_ := Aside0.mk (KeepBut.trans (by repeat (first | (with_reducible first | exact HK.out | apply KeepBut.set_ | apply keep_drewN | apply keep_drew | apply keep_alloc) | exact HK.out)) (KeepBut.of_below hb g none) (.inl rfl)); have n2_ := Aside0.mk (below_step (by repeat (first | (with_reducible first | exact HB.out | apply below_alloc | apply pw_below_drewN | apply below_drew1 | refine below_set ?_ (IsS73.ge HI0.out)) | exact HB.out)) hb); have n3_ := Aside0.mk (hbox); have n4_ := Aside0.mk ((by rw [hg]; exact (keep_size (w := w) (g := g) (row := none) (by repeat (first | (with_reducible first | exact HK.out | apply KeepBut.set_ | apply keep_drewN | apply keep_drew | apply keep_alloc) | exact HK.out))) : w.heap.size ≤ gb261)); have n5_ := Aside0.mk ((Nat.le_trans HW0.out (by rw [hg]; exact (keep_size (w := w) (g := g) (row := none) (by repeat (first | (with_reducible first | exact HK.out | apply KeepBut.set_ | apply keep_drewN | apply keep_drew | apply keep_alloc) | exact HK.out))) : w.heap.size ≤ gb261) : w0.heap.size ≤ gb261)); have n6_ := Aside0.mk ((by rw [hg]; exact Nat.ne_of_lt (IsS73.lt (show IsS73 w0 _ g s0_0 s0_1 from by repeat (first | (with_reducible first | exact HI0.out | apply IsS73.alloc | apply IsS73.drewN | apply IsS73.drew | apply IsS73.set_1) | exact HI0.out))) : g ≠ gb261)); have n7_ := Aside0.mk ((by rw [hg]; exact Nat.ne_of_gt (IsS73.lt (show IsS73 w0 _ g s0_0 s0_1 from by repeat (first | (with_reducible first | exact HI0.out | apply IsS73.alloc | apply IsS73.drewN | apply IsS73.drew | apply IsS73.set_1) | exact HI0.out))) : gb261 ≠ g)); clear HI0; clear HK; clear HB; have HI0 := n0_; have HK := n1_; have HB := n2_; have BK261 := n3_; have GW261 := n4_; have GE261 := n5_; have NB0_261 := n6_; have NB261_0 := n7_; clear n0_ n1_ n2_ n3_ n4_ n5_ n6_ n7_; clear hb hbox hg) | ((with_reducible refine gate_callee (f := 64) rfl ?_); refine goesL_ (some 9) rfl rfl Try.func64 (by kernel_rfl) rfl #[.pointer (some ⟨g, 0, none⟩), .int .i64 a1] rfl (by (try simp only [List.map_toArray, List.map_cons, List.map_nil]); first | done | rfl | (simp only [List.length_drop, List.length_take]; rfl)) ?_; (with_reducible refine (spec_l20Rd_odd.calls k g s0_0 s0_1 a1 false t263 w0 _ ?side1 ?side2 A3.out).mono ?_); (case side1 => repeat (first | (with_reducible first | exact HI0.out | apply IsS73.alloc | apply IsS73.drewN | apply IsS73.drew | apply IsS73.set_1 | refine IsS73.far ?_ NB0_261.out _) | exact HI0.out)); (case side2 => repeat (first | (with_reducible first | exact HB.out | apply below_alloc | apply pw_below_drewN | apply below_drew1 | refine below_set ?_ (IsS73.ge HI0.out) | refine below_set ?_ GE261.out) | exact HB.out)); rintro e w21 ⟨rfl, hi, hb, hk⟩; refine ⟨_, rfl, ?_⟩; have n0_ := Aside0.mk (KeepBut.blk hk (g' := gb261) (o := .cells #[.string (⟨#[]⟩ : ByteArray), .string (⟨#[]⟩ : ByteArray)] 36 (0, 0)) (by (with_reducible repeat (first | refine blk_drewN ?_ _ | refine blk_drew ?_ | refine blk_alloc ?_ _)); exact BK261.out) NB261_0.out (by simp)); have n1_ := Aside0.mk (KeepBut.trans (by repeat (first | (with_reducible first | exact HK.out | apply KeepBut.set_ | apply keep_drewN | apply keep_drew | apply keep_alloc | refine keep_far ?_ GW261.out _) | exact HK.out)) hk (.inl rfl)); have n2_ := Aside0.mk (hb); have n3_ := Aside0.mk (hi); clear BK261; clear HK; clear HB; clear HI0; have BK261 := n0_; have HK := n1_; have HB := n2_; have HI0 := n3_; clear n0_ n1_ n2_ n3_; (try clear hb); (try clear hb2); (try clear hk); (try clear hi)) | ((with_reducible refine gate_callee (f := 62) rfl ?_); refine goesL_ (some 21) rfl rfl Try.func62 (by kernel_rfl) rfl #[.pointer (some ⟨g, 0, none⟩), .int .i64 0] rfl (by (try simp only [List.map_toArray, List.map_cons, List.map_nil]); first | done | rfl | (simp only [List.length_drop, List.length_take]; rfl)) ?_; (with_reducible refine (spec_l20Key.calls k g s0_0 t263 0 t270 t271 w0 _ ?side1 ?side2 A16.out).mono ?_); (case side1 => repeat (first | (with_reducible first | exact HI0.out | apply IsS73.alloc | apply IsS73.drewN | apply IsS73.drew | apply IsS73.set_1 | refine IsS73.far ?_ NB0_261.out _) | exact HI0.out)); (case side2 => repeat (first | (with_reducible first | exact HB.out | apply below_alloc | apply pw_below_drewN | apply below_drew1 | refine below_set ?_ (IsS73.ge HI0.out) | refine below_set ?_ GE261.out) | exact HB.out)); rintro e w22 ⟨rfl, hi, hb, hk⟩; refine ⟨_, rfl, ?_⟩; have n0_ := Aside0.mk (KeepBut.blk hk (g' := gb261) (o := .cells #[.string (⟨#[]⟩ : ByteArray), .string (⟨#[]⟩ : ByteArray)] 36 (0, 0)) (by (with_reducible repeat (first | refine blk_drewN ?_ _ | refine blk_drew ?_ | refine blk_alloc ?_ _)); exact BK261.out) NB261_0.out (by simp)); have n1_ := Aside0.mk (KeepBut.trans (by repeat (first | (with_reducible first | exact HK.out | apply KeepBut.set_ | apply keep_drewN | apply keep_drew | apply keep_alloc | refine keep_far ?_ GW261.out _) | exact HK.out)) hk (.inl rfl)); have n2_ := Aside0.mk (hb); have n3_ := Aside0.mk (hi); clear BK261; clear HK; clear HB; clear HI0; have BK261 := n0_; have HK := n1_; have HB := n2_; have HI0 := n3_; clear n0_ n1_ n2_ n3_; (try clear hb); (try clear hb2); (try clear hk); (try clear hi)) | ((with_reducible refine gate_callee (f := 62) rfl ?_); refine goesL_ (some 23) rfl rfl Try.func62 (by kernel_rfl) rfl #[.pointer (some ⟨g, 0, none⟩), .int .i64 0] rfl (by (try simp only [List.map_toArray, List.map_cons, List.map_nil]); first | done | rfl | (simp only [List.length_drop, List.length_take]; rfl)) ?_; (with_reducible refine (spec_l20Key.calls k g s0_0 t271 0 t272 t273 w0 _ ?side1 ?side2 A17.out).mono ?_); (case side1 => repeat (first | (with_reducible first | exact HI0.out | apply IsS73.alloc | apply IsS73.drewN | apply IsS73.drew | apply IsS73.set_1 | refine IsS73.far ?_ NB0_261.out _) | exact HI0.out)); (case side2 => repeat (first | (with_reducible first | exact HB.out | apply below_alloc | apply pw_below_drewN | apply below_drew1 | refine below_set ?_ (IsS73.ge HI0.out) | refine below_set ?_ GE261.out) | exact HB.out)); rintro e w23 ⟨rfl, hi, hb, hk⟩; refine ⟨_, rfl, ?_⟩; have n0_ := Aside0.mk (KeepBut.blk hk (g' := gb261) (o := .cells #[.string (⟨#[]⟩ : ByteArray), .string (⟨#[]⟩ : ByteArray)] 36 (0, 0)) (by (with_reducible repeat (first | refine blk_drewN ?_ _ | refine blk_drew ?_ | refine blk_alloc ?_ _)); exact BK261.out) NB261_0.out (by simp)); have n1_ := Aside0.mk (KeepBut.trans (by repeat (first | (with_reducible first | exact HK.out | apply KeepBut.set_ | apply keep_drewN | apply keep_drew | apply keep_alloc | refine keep_far ?_ GW261.out _) | exact HK.out)) hk (.inl rfl)); have n2_ := Aside0.mk (hb); have n3_ := Aside0.mk (hi); clear BK261; clear HK; clear HB; clear HI0; have BK261 := n0_; have HK := n1_; have HB := n2_; have HI0 := n3_; clear n0_ n1_ n2_ n3_; (try clear hb); (try clear hb2); (try clear hk); (try clear hi)) | ((with_reducible refine gate_callee (f := 56) rfl ?_); refine goesL_ (some 25) rfl rfl Try.func56 (by kernel_rfl) rfl #[.pointer (some ⟨g, 0, none⟩), .int .i64 6] rfl (by (try simp only [List.map_toArray, List.map_cons, List.map_nil]); first | done | rfl | (simp only [List.length_drop, List.length_take]; rfl)) ?_; (with_reducible refine (spec_l20Rd_pick.calls k g s0_0 t273 6 t274 t275 w0 _ ?side1 ?side2 A18.out).mono ?_); (case side1 => repeat (first | (with_reducible first | exact HI0.out | apply IsS73.alloc | apply IsS73.drewN | apply IsS73.drew | apply IsS73.set_1 | refine IsS73.far ?_ NB0_261.out _) | exact HI0.out)); (case side2 => repeat (first | (with_reducible first | exact HB.out | apply below_alloc | apply pw_below_drewN | apply below_drew1 | refine below_set ?_ (IsS73.ge HI0.out) | refine below_set ?_ GE261.out) | exact HB.out)); rintro e w24 ⟨rfl, hi, hb, hk⟩; refine ⟨_, rfl, ?_⟩; have n0_ := Aside0.mk (KeepBut.blk hk (g' := gb261) (o := .cells #[.string (⟨#[]⟩ : ByteArray), .string (⟨#[]⟩ : ByteArray)] 36 (0, 0)) (by (with_reducible repeat (first | refine blk_drewN ?_ _ | refine blk_drew ?_ | refine blk_alloc ?_ _)); exact BK261.out) NB261_0.out (by simp)); have n1_ := Aside0.mk (KeepBut.trans (by repeat (first | (with_reducible first | exact HK.out | apply KeepBut.set_ | apply keep_drewN | apply keep_drew | apply keep_alloc | refine keep_far ?_ GW261.out _) | exact HK.out)) hk (.inl rfl)); have n2_ := Aside0.mk (hb); have n3_ := Aside0.mk (hi); clear BK261; clear HK; clear HB; clear HI0; have BK261 := n0_; have HK := n1_; have HB := n2_; have HI0 := n3_; clear n0_ n1_ n2_ n3_; (try clear hb); (try clear hb2); (try clear hk); (try clear hi)))
    (try simp only [Act.put, List.setIfInBounds_toArray, List.set_cons_zero, List.set_cons_succ])
    go_cut [] (fun wc => ∃ (kq : Nat) (x262000_18 : ByteArray) (x262001_18 : ByteArray), Aside0 (spec_l20Span.j0 kq t270 t272 s0_0 t275 = some (r1, r2, r3)) ∧ Aside0 (kq ≤ k) ∧ Aside0 (wc.heap[gb261]? = some (.cells #[.string x262000_18, .string x262001_18] 36 (0, 0))) ∧ Aside0 (IsS73 w0 wc g s0_0 t275) ∧ Aside0 (KeepBut w wc g none) ∧ Aside0 (Below w0.heap.size w0 wc))
    case first =>
      have H := HC19.out
      clear HC19
      by_cases c25 : t274 = 0
      · rw [if_pos c25] at H
        have c25b0 : (t274 == 0) = true := beq_iff_eq.mpr c25
        have c25b1 : (t274 != 0) = false := bne_eq_false_iff_eq.mpr c25
        clear c25
        (first | rw [c25b0] | (simp only [i64_w, i32_w]; rw [c25b0]) | skip)
        simp only [Option.some.injEq, Prod.mk.injEq] at H
        obtain ⟨rfl, rfl, rfl⟩ := H
        have hnb26 := NB261_0.out
        have hnc26 := NB0_261.out
        have hcz27_0 : w24.cell? ⟨gb261, 0, none⟩ = some (.string (⟨#[]⟩ : ByteArray)) := (blk_cell BK261.out 0).trans rfl
        have hcz27_1 : w24.cell? ⟨gb261, 1, none⟩ = some (.string (⟨#[]⟩ : ByteArray)) := (blk_cell BK261.out 1).trans rfl
        have hfz27_0 := blk_frozen BK261.out 0
        have hfz27_1 := blk_frozen BK261.out 1
        go_wp2
        refine bodyPost_ret (results_cell_row rfl _ _ gb261 36 #[.string (⟨#[]⟩ : ByteArray), .string (⟨#[]⟩ : ByteArray)] (0, 0) _ rfl (by (with_reducible repeat (first | refine blk_drewN ?_ _ | refine blk_drew ?_ | refine blk_alloc ?_ _)); refine blk_put (cs := #[.string (⟨#[]⟩ : ByteArray), .string (⟨#[]⟩ : ByteArray)]) ?_ 1 _ rfl; (with_reducible repeat (first | refine blk_drewN ?_ _ | refine blk_drew ?_ | refine blk_alloc ?_ _)); refine blk_put (cs := #[.string (⟨#[]⟩ : ByteArray), .string (⟨#[]⟩ : ByteArray)]) ?_ 0 _ rfl; (with_reducible repeat (first | refine blk_drewN ?_ _ | refine blk_drew ?_ | refine blk_alloc ?_ _)); exact BK261.out) Try.underlying36 rfl (by kernel_rfl)) rfl ?_
        exact ⟨by first | rfl | (simp only [u8_w_, w64_u8_]; done) | (simp only [u8_w_, w64_u8_]; rfl) | (simp [errW_none, errW_some] <;> rfl) | (simp [*, errW_none, errW_some] <;> rfl), by repeat (first | (with_reducible first | exact HI0.out | apply IsS73.alloc | apply IsS73.drewN | apply IsS73.drew | apply IsS73.set_1 | refine IsS73.far ?_ NB0_261.out _) | exact HI0.out), by repeat (first | (with_reducible first | exact HB.out | apply below_alloc | apply pw_below_drewN | apply below_drew1 | refine below_set ?_ (IsS73.ge HI0.out) | refine below_set ?_ GE261.out) | exact HB.out), by repeat (first | (with_reducible first | exact HK.out | apply KeepBut.set_ | apply keep_drewN | apply keep_drew | apply keep_alloc | refine keep_far ?_ GW261.out _) | exact HK.out)⟩
      · rw [if_neg c25] at H
        have c25b0 : (t274 == 0) = false := beq_eq_false_iff_ne.mpr c25
        have c25b1 : (t274 != 0) = true := bne_iff_ne.mpr c25
        (first | rw [c25b0] | (simp only [i64_w, i32_w]; rw [c25b0]) | skip)
        by_cases c28 : t274 = 1
        · rw [if_pos c28] at H
          have c28b0 : (t274 == 1) = true := beq_iff_eq.mpr c28
          have c28b1 : (t274 != 1) = false := bne_eq_false_iff_eq.mpr c28
          clear c28
          simp only [Option.some.injEq, Prod.mk.injEq] at H
          obtain ⟨rfl, rfl, rfl⟩ := H
          have hnb29 := NB261_0.out
          have hnc29 := NB0_261.out
          have hcz30_0 : w24.cell? ⟨gb261, 0, none⟩ = some (.string (⟨#[]⟩ : ByteArray)) := (blk_cell BK261.out 0).trans rfl
          have hcz30_1 : w24.cell? ⟨gb261, 1, none⟩ = some (.string (⟨#[]⟩ : ByteArray)) := (blk_cell BK261.out 1).trans rfl
          have hfz30_0 := blk_frozen BK261.out 0
          have hfz30_1 := blk_frozen BK261.out 1
          go_wp2
          refine bodyPost_ret (results_cell_row rfl _ _ gb261 36 #[.string t270, .string (⟨#[]⟩ : ByteArray)] (0, 0) _ rfl (by (with_reducible repeat (first | refine blk_drewN ?_ _ | refine blk_drew ?_ | refine blk_alloc ?_ _)); refine blk_put (cs := #[.string t270, .string (⟨#[]⟩ : ByteArray)]) ?_ 1 _ rfl; (with_reducible repeat (first | refine blk_drewN ?_ _ | refine blk_drew ?_ | refine blk_alloc ?_ _)); refine blk_put (cs := #[.string (⟨#[]⟩ : ByteArray), .string (⟨#[]⟩ : ByteArray)]) ?_ 0 _ rfl; (with_reducible repeat (first | refine blk_drewN ?_ _ | refine blk_drew ?_ | refine blk_alloc ?_ _)); exact BK261.out) Try.underlying36 rfl (by kernel_rfl)) rfl ?_
          exact ⟨by first | rfl | (simp only [u8_w_, w64_u8_]; done) | (simp only [u8_w_, w64_u8_]; rfl) | (simp [errW_none, errW_some] <;> rfl) | (simp [*, errW_none, errW_some] <;> rfl), by repeat (first | (with_reducible first | exact HI0.out | apply IsS73.alloc | apply IsS73.drewN | apply IsS73.drew | apply IsS73.set_1 | refine IsS73.far ?_ NB0_261.out _) | exact HI0.out), by repeat (first | (with_reducible first | exact HB.out | apply below_alloc | apply pw_below_drewN | apply below_drew1 | refine below_set ?_ (IsS73.ge HI0.out) | refine below_set ?_ GE261.out) | exact HB.out), by repeat (first | (with_reducible first | exact HK.out | apply KeepBut.set_ | apply keep_drewN | apply keep_drew | apply keep_alloc | refine keep_far ?_ GW261.out _) | exact HK.out)⟩
        · rw [if_neg c28] at H
          have c28b0 : (t274 == 1) = false := beq_eq_false_iff_ne.mpr c28
          have c28b1 : (t274 != 1) = true := bne_iff_ne.mpr c28
          by_cases c31 : t274 = 2
          · rw [if_pos c31] at H
            have c31b0 : (t274 == 2) = true := beq_iff_eq.mpr c31
            have c31b1 : (t274 != 2) = false := bne_eq_false_iff_eq.mpr c31
            clear c31
            by_cases c32 : t272.toList = ([97] : List UInt8)
            · rw [if_pos c32] at H
              have c32b0 : (t272.toList == ([97] : List UInt8)) = true := beq_iff_eq.mpr c32
              have c32b1 : (t272.toList != ([97] : List UInt8)) = false := bne_eq_false_iff_eq.mpr c32
              clear c32
              have H' := Aside0.mk H
              clear H
              go_wp2
              go_meet
              case rel => exact ⟨_, ((⟨#[]⟩ : ByteArray)), ((⟨#[]⟩ : ByteArray)), H', ⟨by first | omega | exact Nat.le_refl _⟩, ⟨by (with_reducible repeat (first | refine blk_drewN ?_ _ | refine blk_drew ?_ | refine blk_alloc ?_ _)); exact BK261.out⟩, ⟨by repeat (first | (with_reducible first | exact HI0.out | apply IsS73.alloc | apply IsS73.drewN | apply IsS73.drew | apply IsS73.set_1 | refine IsS73.far ?_ NB0_261.out _) | exact HI0.out)⟩, ⟨by repeat (first | (with_reducible first | exact HK.out | apply KeepBut.set_ | apply keep_drewN | apply keep_drew | apply keep_alloc | refine keep_far ?_ GW261.out _) | exact HK.out)⟩, ⟨by repeat (first | (with_reducible first | exact HB.out | apply below_alloc | apply pw_below_drewN | apply below_drew1 | refine below_set ?_ (IsS73.ge HI0.out) | refine below_set ?_ GE261.out) | exact HB.out)⟩⟩
            · rw [if_neg c32] at H
              have c32b0 : (t272.toList == ([97] : List UInt8)) = false := beq_eq_false_iff_ne.mpr c32
              have c32b1 : (t272.toList != ([97] : List UInt8)) = true := bne_iff_ne.mpr c32
              simp only [Option.some.injEq, Prod.mk.injEq] at H
              obtain ⟨rfl, rfl, rfl⟩ := H
              have hnb33 := NB261_0.out
              have hnc33 := NB0_261.out
              have hcz34_0 : w24.cell? ⟨gb261, 0, none⟩ = some (.string (⟨#[]⟩ : ByteArray)) := (blk_cell BK261.out 0).trans rfl
              have hcz34_1 : w24.cell? ⟨gb261, 1, none⟩ = some (.string (⟨#[]⟩ : ByteArray)) := (blk_cell BK261.out 1).trans rfl
              have hfz34_0 := blk_frozen BK261.out 0
              have hfz34_1 := blk_frozen BK261.out 1
              go_wp2
              refine bodyPost_ret (results_cell_row rfl _ _ gb261 36 #[.string (⟨#[]⟩ : ByteArray), .string t272] (0, 0) _ rfl (by (with_reducible repeat (first | refine blk_drewN ?_ _ | refine blk_drew ?_ | refine blk_alloc ?_ _)); refine blk_put (cs := #[.string (⟨#[]⟩ : ByteArray), .string (⟨#[]⟩ : ByteArray)]) ?_ 1 _ rfl; (with_reducible repeat (first | refine blk_drewN ?_ _ | refine blk_drew ?_ | refine blk_alloc ?_ _)); refine blk_put (cs := #[.string (⟨#[]⟩ : ByteArray), .string (⟨#[]⟩ : ByteArray)]) ?_ 0 _ rfl; (with_reducible repeat (first | refine blk_drewN ?_ _ | refine blk_drew ?_ | refine blk_alloc ?_ _)); exact BK261.out) Try.underlying36 rfl (by kernel_rfl)) rfl ?_
              exact ⟨by first | rfl | (simp only [u8_w_, w64_u8_]; done) | (simp only [u8_w_, w64_u8_]; rfl) | (simp [errW_none, errW_some] <;> rfl) | (simp [*, errW_none, errW_some] <;> rfl), by repeat (first | (with_reducible first | exact HI0.out | apply IsS73.alloc | apply IsS73.drewN | apply IsS73.drew | apply IsS73.set_1 | refine IsS73.far ?_ NB0_261.out _) | exact HI0.out), by repeat (first | (with_reducible first | exact HB.out | apply below_alloc | apply pw_below_drewN | apply below_drew1 | refine below_set ?_ (IsS73.ge HI0.out) | refine below_set ?_ GE261.out) | exact HB.out), by repeat (first | (with_reducible first | exact HK.out | apply KeepBut.set_ | apply keep_drewN | apply keep_drew | apply keep_alloc | refine keep_far ?_ GW261.out _) | exact HK.out)⟩
          · rw [if_neg c31] at H
            have c31b0 : (t274 == 2) = false := beq_eq_false_iff_ne.mpr c31
            have c31b1 : (t274 != 2) = true := bne_iff_ne.mpr c31
            have H' := Aside0.mk H
            clear H
            go_wp2
            go_meet
            case rel => exact ⟨_, ((⟨#[]⟩ : ByteArray)), ((⟨#[]⟩ : ByteArray)), H', ⟨by first | omega | exact Nat.le_refl _⟩, ⟨by (with_reducible repeat (first | refine blk_drewN ?_ _ | refine blk_drew ?_ | refine blk_alloc ?_ _)); exact BK261.out⟩, ⟨by repeat (first | (with_reducible first | exact HI0.out | apply IsS73.alloc | apply IsS73.drewN | apply IsS73.drew | apply IsS73.set_1 | refine IsS73.far ?_ NB0_261.out _) | exact HI0.out)⟩, ⟨by repeat (first | (with_reducible first | exact HK.out | apply KeepBut.set_ | apply keep_drewN | apply keep_drew | apply keep_alloc | refine keep_far ?_ GW261.out _) | exact HK.out)⟩, ⟨by repeat (first | (with_reducible first | exact HB.out | apply below_alloc | apply pw_below_drewN | apply below_drew1 | refine below_set ?_ (IsS73.ge HI0.out) | refine below_set ?_ GE261.out) | exact HB.out)⟩⟩
    case rest =>
      clear HC19
      try clear c1
      try clear c2
      try clear p2
      try clear q2
      try clear hx2
      try clear c3
      try clear c4
      try clear c5
      try clear c6
      try clear c6b0
      try clear c7
      try clear c7b0
      try clear c14
      try clear c25
      try clear c25b0
      try clear c25b1
      try clear c26
      try clear p26
      try clear q26
      try clear hx26
      try clear c28
      try clear c28b0
      try clear c28b1
      try clear c29
      try clear c31
      try clear c31b0
      try clear c31b1
      try clear c32
      try clear c32b0
      try clear c32b1
      try clear c33
      try clear hcz15_0
      try clear hcz15_1
      try clear hcz27_0
      try clear hcz27_1
      try clear hcz30_0
      try clear hcz30_1
      try clear hcz34_0
      try clear hcz34_1
      try clear hfz15_0
      try clear hfz15_1
      try clear hfz27_0
      try clear hfz27_1
      try clear hfz30_0
      try clear hfz30_1
      try clear hfz34_0
      try clear hfz34_1
      try clear hx269_0
      try clear hx269_1
      try clear p269
      try clear q269
      obtain ⟨kq, x262000_18, x262001_18, HA, HJ18, BK261, HI0, HK, HB⟩ := hcut
      cases kq with
      | zero => exact absurd HA.out (by simp [spec_l20Span.j0])
      | succ kj18 =>
        have H := HA.out
        clear HA
        simp only [spec_l20Span.j0] at H
        by_cases c35 : (Op.bytesLess t270.toList t272.toList) = true
        · rw [if_pos c35] at H
          have c35b0 : (Op.bytesLess t270.toList t272.toList) = true := c35
          clear c35
          simp only [Option.some.injEq, Prod.mk.injEq] at H
          obtain ⟨rfl, rfl, rfl⟩ := H
          have hnb36 := NB261_0.out
          have hnc36 := NB0_261.out
          have hcz37_0 : wc.cell? ⟨gb261, 0, none⟩ = some (.string x262000_18) := (blk_cell BK261.out 0).trans rfl
          have hcz37_1 : wc.cell? ⟨gb261, 1, none⟩ = some (.string x262001_18) := (blk_cell BK261.out 1).trans rfl
          have hfz37_0 := blk_frozen BK261.out 0
          have hfz37_1 := blk_frozen BK261.out 1
          go_wp2
          refine bodyPost_ret (results_cell_row rfl _ _ gb261 36 #[.string t270, .string t272] (0, 0) _ rfl (by (with_reducible repeat (first | refine blk_drewN ?_ _ | refine blk_drew ?_ | refine blk_alloc ?_ _)); refine blk_put (cs := #[.string t270, .string x262001_18]) ?_ 1 _ rfl; (with_reducible repeat (first | refine blk_drewN ?_ _ | refine blk_drew ?_ | refine blk_alloc ?_ _)); refine blk_put (cs := #[.string x262000_18, .string x262001_18]) ?_ 0 _ rfl; (with_reducible repeat (first | refine blk_drewN ?_ _ | refine blk_drew ?_ | refine blk_alloc ?_ _)); exact BK261.out) Try.underlying36 rfl (by kernel_rfl)) rfl ?_
          exact ⟨by first | rfl | (simp only [u8_w_, w64_u8_]; done) | (simp only [u8_w_, w64_u8_]; rfl) | (simp [errW_none, errW_some] <;> rfl) | (simp [*, errW_none, errW_some] <;> rfl), by repeat (first | (with_reducible first | exact HI0.out | apply IsS73.alloc | apply IsS73.drewN | apply IsS73.drew | apply IsS73.set_1 | refine IsS73.far ?_ NB0_261.out _) | exact HI0.out), by repeat (first | (with_reducible first | exact HB.out | apply below_alloc | apply pw_below_drewN | apply below_drew1 | refine below_set ?_ (IsS73.ge HI0.out) | refine below_set ?_ GE261.out) | exact HB.out), by repeat (first | (with_reducible first | exact HK.out | apply KeepBut.set_ | apply keep_drewN | apply keep_drew | apply keep_alloc | refine keep_far ?_ GW261.out _) | exact HK.out)⟩
        · rw [if_neg c35] at H
          have c35b0 : (Op.bytesLess t270.toList t272.toList) = false := by simpa using c35
          clear c35
          by_cases c38 : (Op.bytesLess t272.toList t270.toList) = true
          · rw [if_pos c38] at H
            have c38b0 : (Op.bytesLess t272.toList t270.toList) = true := c38
            clear c38
            simp only [Option.some.injEq, Prod.mk.injEq] at H
            obtain ⟨rfl, rfl, rfl⟩ := H
            have hnb39 := NB261_0.out
            have hnc39 := NB0_261.out
            have hcz40_0 : wc.cell? ⟨gb261, 0, none⟩ = some (.string x262000_18) := (blk_cell BK261.out 0).trans rfl
            have hcz40_1 : wc.cell? ⟨gb261, 1, none⟩ = some (.string x262001_18) := (blk_cell BK261.out 1).trans rfl
            have hfz40_0 := blk_frozen BK261.out 0
            have hfz40_1 := blk_frozen BK261.out 1
            go_wp2
            refine bodyPost_ret (results_cell_row rfl _ _ gb261 36 #[.string t272, .string t270] (0, 0) _ rfl (by (with_reducible repeat (first | refine blk_drewN ?_ _ | refine blk_drew ?_ | refine blk_alloc ?_ _)); refine blk_put (cs := #[.string t272, .string x262001_18]) ?_ 1 _ rfl; (with_reducible repeat (first | refine blk_drewN ?_ _ | refine blk_drew ?_ | refine blk_alloc ?_ _)); refine blk_put (cs := #[.string x262000_18, .string x262001_18]) ?_ 0 _ rfl; (with_reducible repeat (first | refine blk_drewN ?_ _ | refine blk_drew ?_ | refine blk_alloc ?_ _)); exact BK261.out) Try.underlying36 rfl (by kernel_rfl)) rfl ?_
            exact ⟨by first | rfl | (simp only [u8_w_, w64_u8_]; done) | (simp only [u8_w_, w64_u8_]; rfl) | (simp [errW_none, errW_some] <;> rfl) | (simp [*, errW_none, errW_some] <;> rfl), by repeat (first | (with_reducible first | exact HI0.out | apply IsS73.alloc | apply IsS73.drewN | apply IsS73.drew | apply IsS73.set_1 | refine IsS73.far ?_ NB0_261.out _) | exact HI0.out), by repeat (first | (with_reducible first | exact HB.out | apply below_alloc | apply pw_below_drewN | apply below_drew1 | refine below_set ?_ (IsS73.ge HI0.out) | refine below_set ?_ GE261.out) | exact HB.out), by repeat (first | (with_reducible first | exact HK.out | apply KeepBut.set_ | apply keep_drewN | apply keep_drew | apply keep_alloc | refine keep_far ?_ GW261.out _) | exact HK.out)⟩
          · rw [if_neg c38] at H
            have c38b0 : (Op.bytesLess t272.toList t270.toList) = false := by simpa using c38
            clear c38
            simp only [Option.some.injEq, Prod.mk.injEq] at H
            obtain ⟨rfl, rfl, rfl⟩ := H
            have hnb41 := NB261_0.out
            have hnc41 := NB0_261.out
            have hcz42_0 : wc.cell? ⟨gb261, 0, none⟩ = some (.string x262000_18) := (blk_cell BK261.out 0).trans rfl
            have hcz42_1 : wc.cell? ⟨gb261, 1, none⟩ = some (.string x262001_18) := (blk_cell BK261.out 1).trans rfl
            have hfz42_0 := blk_frozen BK261.out 0
            have hfz42_1 := blk_frozen BK261.out 1
            go_wp2
            refine bodyPost_ret (results_cell_row rfl _ _ gb261 36 #[.string t270, .string (⟨#[]⟩ : ByteArray)] (0, 0) _ rfl (by (with_reducible repeat (first | refine blk_drewN ?_ _ | refine blk_drew ?_ | refine blk_alloc ?_ _)); refine blk_put (cs := #[.string t270, .string x262001_18]) ?_ 1 _ rfl; (with_reducible repeat (first | refine blk_drewN ?_ _ | refine blk_drew ?_ | refine blk_alloc ?_ _)); refine blk_put (cs := #[.string x262000_18, .string x262001_18]) ?_ 0 _ rfl; (with_reducible repeat (first | refine blk_drewN ?_ _ | refine blk_drew ?_ | refine blk_alloc ?_ _)); exact BK261.out) Try.underlying36 rfl (by kernel_rfl)) rfl ?_
            exact ⟨by first | rfl | (simp only [u8_w_, w64_u8_]; done) | (simp only [u8_w_, w64_u8_]; rfl) | (simp [errW_none, errW_some] <;> rfl) | (simp [*, errW_none, errW_some] <;> rfl), by repeat (first | (with_reducible first | exact HI0.out | apply IsS73.alloc | apply IsS73.drewN | apply IsS73.drew | apply IsS73.set_1 | refine IsS73.far ?_ NB0_261.out _) | exact HI0.out), by repeat (first | (with_reducible first | exact HB.out | apply below_alloc | apply pw_below_drewN | apply below_drew1 | refine below_set ?_ (IsS73.ge HI0.out) | refine below_set ?_ GE261.out) | exact HB.out), by repeat (first | (with_reducible first | exact HK.out | apply KeepBut.set_ | apply keep_drewN | apply keep_drew | apply keep_alloc | refine keep_far ?_ GW261.out _) | exact HK.out)⟩

end Go.Proofs.Ytmbkffpcbknndaa.PFnPairScan
