-- Written for this claim by a program of this session (wip/myprint in the proofs' repo)
import Derived.Test.YtgpffbijmohfjaaPFnIntervalCutx0
import Derived.Test.YtgpffbijmohfjaaPFnIntervalCutx1
import Derived.Test.YtgpffbijmohfjaaPFnIntervalCutx2
import Derived.Test.YtgpffbijmohfjaaPFnIntervalCutx3
import Derived.Test.YtgpffbijmohfjaaPFnIntervalCutx4
import Derived.Test.YtgpffbijmohfjaaPFnIntervalCutx6
import Derived.Test.YtgpffbijmohfjaaPFnIntervalCutx7
namespace Go.Proofs.Ytgpffbijmohfjaa.PFnIntervalCut
open Go.RowKit Go.Proofs.YtgpffbijmohfjaaW.PrintWords Go.Proofs.YtgpffbijmohfjaaW.PrintLast Go.Proofs.YtgpffbijmohfjaaW.PrintMore
attribute [local go_sem] max2_int min2_int max_two min_two max_three min_three max_four min_four max2_strs min2_strs   -- for this text's walks alone
set_option linter.unusedVariables false
set_option linter.unusedSimpArgs false

attribute [local go_sem high] eqA35
/-! ### laws_FnIntervalCut: function 11 -/
mutual
def laws_FnIntervalCut.j0 : Nat → Bool → Bool → ByteArray → ByteArray → ByteArray → ByteArray → ByteArray → ByteArray → Option (Bool)
  | 0, _, _, _, _, _, _, _, _ => none
  | k + 1, x7, x51, x232000, x232001, x238000, x238001, x239000, x239001 => if x51 = true then (none) else (if x7 = true then ((laws_probes.f k x238000 x238001 x239000 x239001).bind fun t247 => (laws_FnIntervalCut.l0 k t247 0 x232000 x232001 x238000 x238001 x239000 x239001)) else (if (x238000.toList == ([] : List UInt8) && (x238001.toList == ([] : List UInt8))) = true then (if (x239000.toList == ([] : List UInt8) && (x239001.toList == ([] : List UInt8))) = true then ((laws_alive.f k).bind fun t246 => (some t246)) else (none)) else (none)))
def laws_FnIntervalCut.l0 : Nat → List ByteArray → Int → ByteArray → ByteArray → ByteArray → ByteArray → ByteArray → ByteArray → Option (Bool)
  | 0, _, _, _, _, _, _, _, _ => none
  | k + 1, x11, x12, x232000, x232001, x238000, x238001, x239000, x239001 => if x12 < (x11.length : Int) then (if 0 ≤ x12 then ((impl_IntervalHas.f k x238000 x238001 (rdOf ByteArray.empty x11 x12)).bind fun t255 => ((impl_IntervalHas.f k x239000 x239001 (rdOf ByteArray.empty x11 x12)).bind fun t257 => (if t255 = true then (if t257 = true then (none) else ((impl_IntervalHas.f k x232000 x232001 (rdOf ByteArray.empty x11 x12)).bind fun t259 => (if (true != t259) = true then (none) else (laws_FnIntervalCut.l0 k x11 (wrap64 (x12 + 1)) x232000 x232001 x238000 x238001 x239000 x239001)))) else ((impl_IntervalHas.f k x232000 x232001 (rdOf ByteArray.empty x11 x12)).bind fun t261 => (if (t257 != t261) = true then (none) else (laws_FnIntervalCut.l0 k x11 (wrap64 (x12 + 1)) x232000 x232001 x238000 x238001 x239000 x239001)))))) else (none)) else ((impl_IntervalJoin.f k x238000 x238001 x239000 x239001).bind fun bt250 => (if (bt250.1.toList == x232000.toList && (bt250.2.1.toList == x232001.toList)) = true then (some bt250.2.2) else (none)))
end
def laws_FnIntervalCut.f (k : Nat) (l0 : List Int) : Option (Bool) := if (l0.length : Int) > 1048576 then (some true) else ((spec_DrawIntervalCut.f k l0).bind fun bt228 => ((impl_IntervalCut.f k bt228.1 bt228.2.1 bt228.2.2).bind fun bt232 => ((spec_IntervalCut.f k bt228.1 bt228.2.1 bt228.2.2).bind fun bt239 => (if (!(bt232.1.toList == bt239.1.toList) || (!(bt232.2.1.toList == bt239.2.1.toList))) = true then (laws_FnIntervalCut.j0 k bt232.2.2.2.2 true bt228.1 bt228.2.1 bt232.1 bt232.2.1 bt232.2.2.1 bt232.2.2.2.1) else (if (!(bt232.2.2.1.toList == bt239.2.2.1.toList) || (!(bt232.2.2.2.1.toList == bt239.2.2.2.1.toList))) = true then (laws_FnIntervalCut.j0 k bt232.2.2.2.2 true bt228.1 bt228.2.1 bt232.1 bt232.2.1 bt232.2.2.1 bt232.2.2.2.1) else (laws_FnIntervalCut.j0 k bt232.2.2.2.2 (bt232.2.2.2.2 != bt239.2.2.2.2) bt228.1 bt228.2.1 bt232.1 bt232.2.1 bt232.2.2.1 bt232.2.2.2.1))))))
theorem laws_FnIntervalCut.mono_l : ∀ k, (∀ y0 y1 y2 y3 y4 y5 y6 y7, LeO (laws_FnIntervalCut.j0 k y0 y1 y2 y3 y4 y5 y6 y7) (laws_FnIntervalCut.j0 (k + 1) y0 y1 y2 y3 y4 y5 y6 y7)) ∧ (∀ y0 y1 y2 y3 y4 y5 y6 y7, LeO (laws_FnIntervalCut.l0 k y0 y1 y2 y3 y4 y5 y6 y7) (laws_FnIntervalCut.l0 (k + 1) y0 y1 y2 y3 y4 y5 y6 y7))
  | 0 => ⟨fun _ _ _ _ _ _ _ _ r h => by simp [laws_FnIntervalCut.j0] at h, fun _ _ _ _ _ _ _ _ r h => by simp [laws_FnIntervalCut.l0] at h⟩
  | k + 1 => by
    obtain ⟨ih0, ih1⟩ := laws_FnIntervalCut.mono_l k
    refine ⟨?_, ?_⟩
    · intro y0 y1 y2 y3 y4 y5 y6 y7
      unfold laws_FnIntervalCut.j0
      repeat' first
      | (with_reducible exact ih0 _ _ _ _ _ _ _ _)
      | (with_reducible exact ih1 _ _ _ _ _ _ _ _)
      | (with_reducible exact impl_IntervalCut.mono _ _ _ _)
      | (with_reducible exact impl_IntervalHas.mono _ _ _ _)
      | (with_reducible exact impl_IntervalJoin.mono _ _ _ _ _)
      | (with_reducible exact laws_alive.mono _)
      | (with_reducible exact laws_probes.mono _ _ _ _ _)
      | (with_reducible exact spec_DrawIntervalCut.mono _ _)
      | (with_reducible exact spec_IntervalCut.mono _ _ _ _)
      | (with_reducible exact LeO.refl _)
      | (with_reducible exact LeO.none _)
      | (with_reducible refine LeO.ite ?_ ?_)
      | (with_reducible refine LeO.bind ?_ (fun _ => ?_))
      | exact ih0 _ _ _ _ _ _ _ _
      | exact ih1 _ _ _ _ _ _ _ _
      | exact impl_IntervalCut.mono _ _ _ _
      | exact impl_IntervalHas.mono _ _ _ _
      | exact impl_IntervalJoin.mono _ _ _ _ _
      | exact laws_alive.mono _
      | exact laws_probes.mono _ _ _ _ _
      | exact spec_DrawIntervalCut.mono _ _
      | exact spec_IntervalCut.mono _ _ _ _
      | exact LeO.none _
      | refine LeO.ite ?_ ?_
      | refine LeO.bind ?_ (fun _ => ?_)
    · intro y0 y1 y2 y3 y4 y5 y6 y7
      unfold laws_FnIntervalCut.l0
      repeat' first
      | (with_reducible exact ih0 _ _ _ _ _ _ _ _)
      | (with_reducible exact ih1 _ _ _ _ _ _ _ _)
      | (with_reducible exact impl_IntervalCut.mono _ _ _ _)
      | (with_reducible exact impl_IntervalHas.mono _ _ _ _)
      | (with_reducible exact impl_IntervalJoin.mono _ _ _ _ _)
      | (with_reducible exact laws_alive.mono _)
      | (with_reducible exact laws_probes.mono _ _ _ _ _)
      | (with_reducible exact spec_DrawIntervalCut.mono _ _)
      | (with_reducible exact spec_IntervalCut.mono _ _ _ _)
      | (with_reducible exact LeO.refl _)
      | (with_reducible exact LeO.none _)
      | (with_reducible refine LeO.ite ?_ ?_)
      | (with_reducible refine LeO.bind ?_ (fun _ => ?_))
      | exact ih0 _ _ _ _ _ _ _ _
      | exact ih1 _ _ _ _ _ _ _ _
      | exact impl_IntervalCut.mono _ _ _ _
      | exact impl_IntervalHas.mono _ _ _ _
      | exact impl_IntervalJoin.mono _ _ _ _ _
      | exact laws_alive.mono _
      | exact laws_probes.mono _ _ _ _ _
      | exact spec_DrawIntervalCut.mono _ _
      | exact spec_IntervalCut.mono _ _ _ _
      | exact LeO.none _
      | refine LeO.ite ?_ ?_
      | refine LeO.bind ?_ (fun _ => ?_)
theorem laws_FnIntervalCut.mono : ∀ a0 k, LeO (laws_FnIntervalCut.f k a0) (laws_FnIntervalCut.f (k + 1) a0) := by
  intro a0 k
  obtain ⟨ih0, ih1⟩ := laws_FnIntervalCut.mono_l k
  unfold laws_FnIntervalCut.f
  repeat' first
      | (with_reducible exact ih0 _ _ _ _ _ _ _ _)
      | (with_reducible exact ih1 _ _ _ _ _ _ _ _)
      | (with_reducible exact impl_IntervalCut.mono _ _ _ _)
      | (with_reducible exact impl_IntervalHas.mono _ _ _ _)
      | (with_reducible exact impl_IntervalJoin.mono _ _ _ _ _)
      | (with_reducible exact laws_alive.mono _)
      | (with_reducible exact laws_probes.mono _ _ _ _ _)
      | (with_reducible exact spec_DrawIntervalCut.mono _ _)
      | (with_reducible exact spec_IntervalCut.mono _ _ _ _)
      | (with_reducible exact LeO.refl _)
      | (with_reducible exact LeO.none _)
      | (with_reducible refine LeO.ite ?_ ?_)
      | (with_reducible refine LeO.bind ?_ (fun _ => ?_))
      | exact ih0 _ _ _ _ _ _ _ _
      | exact ih1 _ _ _ _ _ _ _ _
      | exact impl_IntervalCut.mono _ _ _ _
      | exact impl_IntervalHas.mono _ _ _ _
      | exact impl_IntervalJoin.mono _ _ _ _ _
      | exact laws_alive.mono _
      | exact laws_probes.mono _ _ _ _ _
      | exact spec_DrawIntervalCut.mono _ _
      | exact spec_IntervalCut.mono _ _ _ _
      | exact LeO.none _
      | refine LeO.ite ?_ ?_
      | refine LeO.bind ?_ (fun _ => ?_)
def laws_FnIntervalCut.T16 : Bool × List (List Nat × List Nat) := (true, [([], []), ([0], [0]), ([1], [1]), ([1, 2], [1, 2]), ([3, 1], [3]), ([4], [4]), ([5, 4, 4], [4, 5]), ([6], [6]), ([6, 7, 4], [4, 6, 7]), ([4], [4]), ([4], [4]), ([4], [4]), ([10, 11, 4], [4, 10, 11]), ([12, 4], [4, 12]), ([9, 13, 6, 4], [4, 9, 13]), ([8, 14, 4], [4, 8, 14]), ([4, 15], [4, 15])])
def laws_FnIntervalCut.B16 : List Nat := [0, 1, 3, 7, 15, 31, 63, 127, 255, 31, 31, 31, 3103, 7199, 15999, 32767, 65535]
theorem laws_FnIntervalCut.tab16 : rtab .any (opsOf Try.f11 16) = laws_FnIntervalCut.T16 := by kernel_rfl
theorem laws_FnIntervalCut.bits16 : waitsOk laws_FnIntervalCut.T16.2 laws_FnIntervalCut.B16 = true := by kernel_rfl
set_option maxHeartbeats 8000000 in
set_option maxRecDepth 100000 in
theorem laws_FnIntervalCut.calls (k : Nat) (A0 : Option Addr) (c0 : Nat) (l0 : List Int) (r : Bool) (w : World) (hr0 : Kd.C (Kd.int .u8) w A0 l0.length l0) (hc0 : l0.length ≤ c0) (h : laws_FnIntervalCut.f k l0 = some r) :
    Calls Try.prog 11 #[.slice A0 l0.length c0] w fun e w' => e = .returned (.bool r) ∧ Below w.heap.size w w' := by
  have hu35 := Try.underlying35
  have HR0 := Aside0.mk hr0
  have HC0 := Aside0.mk hc0
  clear hr0 hc0
  have HB := Aside0.mk (Below.refl w.heap.size w)
  have H : (if (l0.length : Int) > 1048576 then (some true) else ((spec_DrawIntervalCut.f k l0).bind fun bt228 => ((impl_IntervalCut.f k bt228.1 bt228.2.1 bt228.2.2).bind fun bt232 => ((spec_IntervalCut.f k bt228.1 bt228.2.1 bt228.2.2).bind fun bt239 => (if (!(bt232.1.toList == bt239.1.toList) || (!(bt232.2.1.toList == bt239.2.1.toList))) = true then (laws_FnIntervalCut.j0 k bt232.2.2.2.2 true bt228.1 bt228.2.1 bt232.1 bt232.2.1 bt232.2.2.1 bt232.2.2.2.1) else (if (!(bt232.2.2.1.toList == bt239.2.2.1.toList) || (!(bt232.2.2.2.1.toList == bt239.2.2.2.1.toList))) = true then (laws_FnIntervalCut.j0 k bt232.2.2.2.2 true bt228.1 bt228.2.1 bt232.1 bt232.2.1 bt232.2.2.1 bt232.2.2.2.1) else (laws_FnIntervalCut.j0 k bt232.2.2.2.2 (bt232.2.2.2.2 != bt239.2.2.2.2) bt228.1 bt228.2.1 bt232.1 bt232.2.1 bt232.2.2.1 bt232.2.2.2.1))))))) = some r := h
  clear h
  by_cases c2 : (l0.length : Int) > 1048576
  · rw [if_pos c2] at H
    have c2b0 : decide (1048576 < (l0.length : Int)) = true := decide_eq_true c2
    have c2b1 : decide (1048576 < l0.length) = true := decide_eq_true (by omega)
    clear c2
    obtain rfl := Option.some.inj H
    go_enter Try.func11, Try.ntmps11
    go_wp2
    go_ret
    exact ⟨by first | rfl | (simp only [u8_w_, w64_u8_]; done) | (simp only [u8_w_, w64_u8_]; rfl) | (simp [errW_none, errW_some] <;> rfl) | (simp [*, errW_none, errW_some] <;> rfl), by repeat (first | (with_reducible first | exact HB.out | apply below_alloc | apply pw_below_drewN | apply below_drew1) | exact HB.out)⟩
  · rw [if_neg c2] at H
    have c2b0 : decide (1048576 < (l0.length : Int)) = false := decide_eq_false c2
    have c2b1 : decide (1048576 < l0.length) = false := decide_eq_false (by omega)
    clear c2
    replace H := Option.bind_eq_some_iff.mp H
    obtain ⟨⟨t228, t229, t230⟩, A30, H⟩ := H
    replace H : ((impl_IntervalCut.f k t228 t229 t230).bind fun bt232 => ((spec_IntervalCut.f k t228 t229 t230).bind fun bt239 => (if (!(bt232.1.toList == bt239.1.toList) || (!(bt232.2.1.toList == bt239.2.1.toList))) = true then (laws_FnIntervalCut.j0 k bt232.2.2.2.2 true t228 t229 bt232.1 bt232.2.1 bt232.2.2.1 bt232.2.2.2.1) else (if (!(bt232.2.2.1.toList == bt239.2.2.1.toList) || (!(bt232.2.2.2.1.toList == bt239.2.2.2.1.toList))) = true then (laws_FnIntervalCut.j0 k bt232.2.2.2.2 true t228 t229 bt232.1 bt232.2.1 bt232.2.2.1 bt232.2.2.2.1) else (laws_FnIntervalCut.j0 k bt232.2.2.2.2 (bt232.2.2.2.2 != bt239.2.2.2.2) t228 t229 bt232.1 bt232.2.1 bt232.2.2.1 bt232.2.2.2.1))))) = some r := H
    have A3 := Aside0.mk A30
    clear A30
    replace H := Option.bind_eq_some_iff.mp H
    obtain ⟨⟨t232, t233, t234, t235, t236⟩, A40, H⟩ := H
    replace H : ((spec_IntervalCut.f k t228 t229 t230).bind fun bt239 => (if (!(t232.toList == bt239.1.toList) || (!(t233.toList == bt239.2.1.toList))) = true then (laws_FnIntervalCut.j0 k t236 true t228 t229 t232 t233 t234 t235) else (if (!(t234.toList == bt239.2.2.1.toList) || (!(t235.toList == bt239.2.2.2.1.toList))) = true then (laws_FnIntervalCut.j0 k t236 true t228 t229 t232 t233 t234 t235) else (laws_FnIntervalCut.j0 k t236 (t236 != bt239.2.2.2.2) t228 t229 t232 t233 t234 t235)))) = some r := H
    have A4 := Aside0.mk A40
    clear A40
    replace H := Option.bind_eq_some_iff.mp H
    obtain ⟨⟨t239, t240, t241, t242, t243⟩, A50, H⟩ := H
    replace H : (if (!(t232.toList == t239.toList) || (!(t233.toList == t240.toList))) = true then (laws_FnIntervalCut.j0 k t236 true t228 t229 t232 t233 t234 t235) else (if (!(t234.toList == t241.toList) || (!(t235.toList == t242.toList))) = true then (laws_FnIntervalCut.j0 k t236 true t228 t229 t232 t233 t234 t235) else (laws_FnIntervalCut.j0 k t236 (t236 != t243) t228 t229 t232 t233 t234 t235))) = some r := H
    have A5 := Aside0.mk A50
    clear A50
    have HC6 := Aside0.mk H
    clear H
    go_enter Try.func11, Try.ntmps11
    go_upto_region 6 with (first | ((with_reducible refine gate_callee (f := 39) rfl ?_); refine goesL_ (some 22) rfl rfl Try.func39 (by kernel_rfl) rfl #[.slice A0 l0.length c0] rfl (by (try simp only [List.map_toArray, List.map_cons, List.map_nil]); first | done | rfl | (simp only [List.length_drop, List.length_take]; rfl)) ?_; (with_reducible refine (spec_DrawIntervalCut.calls k _ _ l0 t228 t229 t230 _ ?side1 ?side2 A3.out).mono ?_); (case side1 => repeat (first | exact HR0.out | (with_reducible refine Kd.C_alloc ?_ _) | (with_reducible refine Kd.C_drewN ?_ _) | (with_reducible refine Kd.C_drew ?_))); (case side2 => exact HC0.out); rintro e w7 ⟨rfl, hb⟩; refine ⟨_, rfl, ?_⟩; have n0_ := Aside0.mk (below_step (by repeat (first | (with_reducible first | exact HB.out | apply below_alloc | apply pw_below_drewN | apply below_drew1) | exact HB.out)) hb); clear HB; have HB := n0_; clear n0_; (try clear hb); (try clear hb2); (try clear hk); (try clear hi)) | ((with_reducible refine gate_dst (N := 3) rfl ?_); refine box_event ?hg (N := 3) ?hd (cs := #[.string (⟨#[]⟩ : ByteArray), .string (⟨#[]⟩ : ByteArray)]) (t := 35) ?hr ?_; (case hd => rfl); (case hg => rfl); (case hr => first | (go_simp; done) | (go_simp; rfl)); intro gb231 hg w8 hbox hb; have n0_ := Aside0.mk (below_step (by repeat (first | (with_reducible first | exact HB.out | apply below_alloc | apply pw_below_drewN | apply below_drew1) | exact HB.out)) hb); have n1_ := Aside0.mk (hbox); have n2_ := Aside0.mk ((by rw [hg]; exact (below_size (by repeat (first | (with_reducible first | exact HB.out | apply below_alloc | apply pw_below_drewN | apply below_drew1) | exact HB.out))) : w.heap.size ≤ gb231)); have n3_ := Aside0.mk ((by rw [hg]; exact (below_size (by repeat (first | (with_reducible first | exact HB.out | apply below_alloc | apply pw_below_drewN | apply below_drew1) | exact HB.out))) : w.heap.size ≤ gb231)); clear HB; have HB := n0_; have BK231 := n1_; have GW231 := n2_; have GE231 := n3_; clear n0_ n1_ n2_ n3_; clear hb hbox hg; have hcz9_0 : w8.cell? ⟨gb231, 0, none⟩ = some (.string (⟨#[]⟩ : ByteArray)) := (blk_cell BK231.out 0).trans rfl; have hcz9_1 : w8.cell? ⟨gb231, 1, none⟩ = some (.string (⟨#[]⟩ : ByteArray)) := (blk_cell BK231.out 1).trans rfl; have hfz9_0 := blk_frozen BK231.out 0; have hfz9_1 := blk_frozen BK231.out 1) | ((with_reducible refine gate_callee (f := 35) rfl ?_); refine goesL_ (some 28) rfl rfl Try.func35 (by kernel_rfl) rfl #[.agg #[.string t228, .string t229], .string t230] rfl (by (try simp only [List.map_toArray, List.map_cons, List.map_nil]); first | done | rfl | (simp only [List.length_drop, List.length_take]; rfl)) ?_; (with_reducible refine (impl_IntervalCut.calls k t228 t229 t230 t232 t233 t234 t235 t236 _ A4.out).mono ?_); rintro e w10 ⟨rfl, hb⟩; refine ⟨_, rfl, ?_⟩; have n0_ := Aside0.mk (blk_below (g := gb231) (o := .cells #[.string t228, .string t229] 35 (0, 0)) (by (with_reducible repeat (first | refine blk_drewN ?_ _ | refine blk_drew ?_ | refine blk_alloc ?_ _)); refine blk_put (cs := #[.string t228, .string (⟨#[]⟩ : ByteArray)]) ?_ 1 _ rfl; (with_reducible repeat (first | refine blk_drewN ?_ _ | refine blk_drew ?_ | refine blk_alloc ?_ _)); refine blk_put (cs := #[.string (⟨#[]⟩ : ByteArray), .string (⟨#[]⟩ : ByteArray)]) ?_ 0 _ rfl; (with_reducible repeat (first | refine blk_drewN ?_ _ | refine blk_drew ?_ | refine blk_alloc ?_ _)); exact BK231.out) hb); have n1_ := Aside0.mk (below_step (by repeat (first | (with_reducible first | exact HB.out | apply below_alloc | apply pw_below_drewN | apply below_drew1 | refine below_set ?_ GE231.out) | exact HB.out)) hb); clear BK231; clear HB; have BK231 := n0_; have HB := n1_; clear n0_ n1_; (try clear hb); (try clear hb2); (try clear hk); (try clear hi)) | ((with_reducible refine gate_dst (N := 5) rfl ?_); refine box_event ?hg (N := 5) ?hd (cs := #[.string (⟨#[]⟩ : ByteArray), .string (⟨#[]⟩ : ByteArray)]) (t := 35) ?hr ?_; (case hd => rfl); (case hg => rfl); (case hr => first | (go_simp; done) | (go_simp; rfl)); intro gb237 hg w11 hbox hb; have n0_ := Aside0.mk (blk_below (g := gb231) (o := .cells #[.string t228, .string t229] 35 (0, 0)) (by (with_reducible repeat (first | refine blk_drewN ?_ _ | refine blk_drew ?_ | refine blk_alloc ?_ _)); exact BK231.out) hb); have n1_ := Aside0.mk (below_step (by repeat (first | (with_reducible first | exact HB.out | apply below_alloc | apply pw_below_drewN | apply below_drew1 | refine below_set ?_ GE231.out) | exact HB.out)) hb); have n2_ := Aside0.mk (hbox); have n3_ := Aside0.mk ((by rw [hg]; exact (below_size (by repeat (first | (with_reducible first | exact HB.out | apply below_alloc | apply pw_below_drewN | apply below_drew1 | refine below_set ?_ GE231.out) | exact HB.out))) : w.heap.size ≤ gb237)); have n4_ := Aside0.mk ((by rw [hg]; exact (below_size (by repeat (first | (with_reducible first | exact HB.out | apply below_alloc | apply pw_below_drewN | apply below_drew1 | refine below_set ?_ GE231.out) | exact HB.out))) : w.heap.size ≤ gb237)); have n5_ := Aside0.mk ((by rw [hg]; exact Nat.ne_of_lt (blk_lt (g := gb231) (o := .cells #[.string t228, .string t229] 35 (0, 0)) (by (with_reducible repeat (first | refine blk_drewN ?_ _ | refine blk_drew ?_ | refine blk_alloc ?_ _)); exact BK231.out)) : gb231 ≠ gb237)); have n6_ := Aside0.mk ((by rw [hg]; exact Nat.ne_of_gt (blk_lt (g := gb231) (o := .cells #[.string t228, .string t229] 35 (0, 0)) (by (with_reducible repeat (first | refine blk_drewN ?_ _ | refine blk_drew ?_ | refine blk_alloc ?_ _)); exact BK231.out)) : gb237 ≠ gb231)); clear BK231; clear HB; have BK231 := n0_; have HB := n1_; have BK237 := n2_; have GW237 := n3_; have GE237 := n4_; have NB231_237 := n5_; have NB237_231 := n6_; clear n0_ n1_ n2_ n3_ n4_ n5_ n6_; clear hb hbox hg) | ((with_reducible refine gate_dst (N := 6) rfl ?_); refine box_event ?hg (N := 6) ?hd (cs := #[.string (⟨#[]⟩ : ByteArray), .string (⟨#[]⟩ : ByteArray)]) (t := 35) ?hr ?_; (case hd => rfl); (case hg => rfl); (case hr => first | (go_simp; done) | (go_simp; rfl)); intro gb238 hg w12 hbox hb; have n0_ := Aside0.mk (blk_below (g := gb231) (o := .cells #[.string t228, .string t229] 35 (0, 0)) (by (with_reducible repeat (first | refine blk_drewN ?_ _ | refine blk_drew ?_ | refine blk_alloc ?_ _)); exact BK231.out) hb); have n1_ := Aside0.mk (blk_below (g := gb237) (o := .cells #[.string (⟨#[]⟩ : ByteArray), .string (⟨#[]⟩ : ByteArray)] 35 (0, 0)) (by (with_reducible repeat (first | refine blk_drewN ?_ _ | refine blk_drew ?_ | refine blk_alloc ?_ _)); exact BK237.out) hb); have n2_ := Aside0.mk (below_step (by repeat (first | (with_reducible first | exact HB.out | apply below_alloc | apply pw_below_drewN | apply below_drew1 | refine below_set ?_ GE231.out | refine below_set ?_ GE237.out) | exact HB.out)) hb); have n3_ := Aside0.mk (hbox); have n4_ := Aside0.mk ((by rw [hg]; exact (below_size (by repeat (first | (with_reducible first | exact HB.out | apply below_alloc | apply pw_below_drewN | apply below_drew1 | refine below_set ?_ GE231.out | refine below_set ?_ GE237.out) | exact HB.out))) : w.heap.size ≤ gb238)); have n5_ := Aside0.mk ((by rw [hg]; exact (below_size (by repeat (first | (with_reducible first | exact HB.out | apply below_alloc | apply pw_below_drewN | apply below_drew1 | refine below_set ?_ GE231.out | refine below_set ?_ GE237.out) | exact HB.out))) : w.heap.size ≤ gb238)); have n6_ := Aside0.mk ((by rw [hg]; exact Nat.ne_of_lt (blk_lt (g := gb231) (o := .cells #[.string t228, .string t229] 35 (0, 0)) (by (with_reducible repeat (first | refine blk_drewN ?_ _ | refine blk_drew ?_ | refine blk_alloc ?_ _)); exact BK231.out)) : gb231 ≠ gb238)); have n7_ := Aside0.mk ((by rw [hg]; exact Nat.ne_of_gt (blk_lt (g := gb231) (o := .cells #[.string t228, .string t229] 35 (0, 0)) (by (with_reducible repeat (first | refine blk_drewN ?_ _ | refine blk_drew ?_ | refine blk_alloc ?_ _)); exact BK231.out)) : gb238 ≠ gb231)); have n8_ := Aside0.mk ((by rw [hg]; exact Nat.ne_of_lt (blk_lt (g := gb237) (o := .cells #[.string (⟨#[]⟩ : ByteArray), .string (⟨#[]⟩ : ByteArray)] 35 (0, 0)) (by (with_reducible repeat (first | refine blk_drewN ?_ _ | refine blk_drew ?_ | refine blk_alloc ?_ _)); exact BK237.out)) : gb237 ≠ gb238)); have n9_ := Aside0.mk ((by rw [hg]; exact Nat.ne_of_gt (blk_lt (g := gb237) (o := .cells #[.string (⟨#[]⟩ : ByteArray), .string (⟨#[]⟩ : ByteArray)] 35 (0, 0)) (by (with_reducible repeat (first | refine blk_drewN ?_ _ | refine blk_drew ?_ | refine blk_alloc ?_ _)); exact BK237.out)) : gb238 ≠ gb237)); clear BK231; clear BK237; clear HB; have BK231 := n0_; have BK237 := n1_; have HB := n2_; have BK238 := n3_; have GW238 := n4_; have GE238 := n5_; have NB231_238 := n6_; have NB238_231 := n7_; have NB237_238 := n8_; have NB238_237 := n9_; clear n0_ n1_ n2_ n3_ n4_ n5_ n6_ n7_ n8_ n9_; clear hb hbox hg; have hnb13 := NB237_231.out; have hnc13 := NB231_237.out; have hnb14 := NB237_238.out; have hnc14 := NB238_237.out; have hcz15_0 : w12.cell? ⟨gb237, 0, none⟩ = some (.string (⟨#[]⟩ : ByteArray)) := (blk_cell BK237.out 0).trans rfl; have hcz15_1 : w12.cell? ⟨gb237, 1, none⟩ = some (.string (⟨#[]⟩ : ByteArray)) := (blk_cell BK237.out 1).trans rfl; have hfz15_0 := blk_frozen BK237.out 0; have hfz15_1 := blk_frozen BK237.out 1; have hnb16 := NB238_231.out; have hnc16 := NB231_238.out; have hcz17_0 : w12.cell? ⟨gb238, 0, none⟩ = some (.string (⟨#[]⟩ : ByteArray)) := (blk_cell BK238.out 0).trans rfl; have hcz17_1 : w12.cell? ⟨gb238, 1, none⟩ = some (.string (⟨#[]⟩ : ByteArray)) := (blk_cell BK238.out 1).trans rfl; have hfz17_0 := blk_frozen BK238.out 0; have hfz17_1 := blk_frozen BK238.out 1; have hcz18_0 : w12.cell? ⟨gb231, 0, none⟩ = some (.string t228) := (blk_cell BK231.out 0).trans rfl; have hcz18_1 : w12.cell? ⟨gb231, 1, none⟩ = some (.string t229) := (blk_cell BK231.out 1).trans rfl; have hfz18_0 := blk_frozen BK231.out 0; have hfz18_1 := blk_frozen BK231.out 1) | ((with_reducible refine gate_callee (f := 40) rfl ?_); refine goesL_ (some 35) rfl rfl Try.func40 (by kernel_rfl) rfl #[.agg #[.string t228, .string t229], .string t230] rfl (by (try simp only [List.map_toArray, List.map_cons, List.map_nil]); first | done | rfl | (simp only [List.length_drop, List.length_take]; rfl)) ?_; (with_reducible refine (spec_IntervalCut.calls k t228 t229 t230 t239 t240 t241 t242 t243 _ A5.out).mono ?_); rintro e w19 ⟨rfl, hb⟩; refine ⟨_, rfl, ?_⟩; have n0_ := Aside0.mk (blk_below (g := gb231) (o := .cells #[.string t228, .string t229] 35 (0, 0)) (by (with_reducible repeat (first | refine blk_drewN ?_ _ | refine blk_drew ?_ | refine blk_alloc ?_ _)); refine blk_far ?_ NB231_238.out _; (with_reducible repeat (first | refine blk_drewN ?_ _ | refine blk_drew ?_ | refine blk_alloc ?_ _)); refine blk_far ?_ NB231_238.out _; (with_reducible repeat (first | refine blk_drewN ?_ _ | refine blk_drew ?_ | refine blk_alloc ?_ _)); refine blk_far ?_ NB231_237.out _; (with_reducible repeat (first | refine blk_drewN ?_ _ | refine blk_drew ?_ | refine blk_alloc ?_ _)); refine blk_far ?_ NB231_237.out _; (with_reducible repeat (first | refine blk_drewN ?_ _ | refine blk_drew ?_ | refine blk_alloc ?_ _)); exact BK231.out) hb); have n1_ := Aside0.mk (blk_below (g := gb237) (o := .cells #[.string t232, .string t233] 35 (0, 0)) (by (with_reducible repeat (first | refine blk_drewN ?_ _ | refine blk_drew ?_ | refine blk_alloc ?_ _)); refine blk_far ?_ NB237_238.out _; (with_reducible repeat (first | refine blk_drewN ?_ _ | refine blk_drew ?_ | refine blk_alloc ?_ _)); refine blk_far ?_ NB237_238.out _; (with_reducible repeat (first | refine blk_drewN ?_ _ | refine blk_drew ?_ | refine blk_alloc ?_ _)); refine blk_put (cs := #[.string t232, .string (⟨#[]⟩ : ByteArray)]) ?_ 1 _ rfl; (with_reducible repeat (first | refine blk_drewN ?_ _ | refine blk_drew ?_ | refine blk_alloc ?_ _)); refine blk_put (cs := #[.string (⟨#[]⟩ : ByteArray), .string (⟨#[]⟩ : ByteArray)]) ?_ 0 _ rfl; (with_reducible repeat (first | refine blk_drewN ?_ _ | refine blk_drew ?_ | refine blk_alloc ?_ _)); exact BK237.out) hb); have n2_ := Aside0.mk (blk_below (g := gb238) (o := .cells #[.string t234, .string t235] 35 (0, 0)) (by (with_reducible repeat (first | refine blk_drewN ?_ _ | refine blk_drew ?_ | refine blk_alloc ?_ _)); refine blk_put (cs := #[.string t234, .string (⟨#[]⟩ : ByteArray)]) ?_ 1 _ rfl; (with_reducible repeat (first | refine blk_drewN ?_ _ | refine blk_drew ?_ | refine blk_alloc ?_ _)); refine blk_put (cs := #[.string (⟨#[]⟩ : ByteArray), .string (⟨#[]⟩ : ByteArray)]) ?_ 0 _ rfl; (with_reducible repeat (first | refine blk_drewN ?_ _ | refine blk_drew ?_ | refine blk_alloc ?_ _)); refine blk_far ?_ NB238_237.out _; (with_reducible repeat (first | refine blk_drewN ?_ _ | refine blk_drew ?_ | refine blk_alloc ?_ _)); refine blk_far ?_ NB238_237.out _; (with_reducible repeat (first | refine blk_drewN ?_ _ | refine blk_drew ?_ | refine blk_alloc ?_ _)); exact BK238.out) hb); have n3_ := Aside0.mk (below_step (by repeat (first | (with_reducible first | exact HB.out | apply below_alloc | apply pw_below_drewN | apply below_drew1 | refine below_set ?_ GE231.out | refine below_set ?_ GE237.out | refine below_set ?_ GE238.out) | exact HB.out)) hb); clear BK231; clear BK237; clear BK238; clear HB; have BK231 := n0_; have BK237 := n1_; have BK238 := n2_; have HB := n3_; clear n0_ n1_ n2_ n3_; (try clear hb); (try clear hb2); (try clear hk); (try clear hi)) | ((with_reducible refine gate_dst (N := 8) rfl ?_); refine box_event ?hg (N := 8) ?hd (cs := #[.string (⟨#[]⟩ : ByteArray), .string (⟨#[]⟩ : ByteArray)]) (t := 35) ?hr ?_; (case hd => rfl); (case hg => rfl); (case hr => first | (go_simp; done) | (go_simp; rfl)); intro gb244 hg w20 hbox hb; have n0_ := Aside0.mk (blk_below (g := gb231) (o := .cells #[.string t228, .string t229] 35 (0, 0)) (by (with_reducible repeat (first | refine blk_drewN ?_ _ | refine blk_drew ?_ | refine blk_alloc ?_ _)); exact BK231.out) hb); have n1_ := Aside0.mk (blk_below (g := gb237) (o := .cells #[.string t232, .string t233] 35 (0, 0)) (by (with_reducible repeat (first | refine blk_drewN ?_ _ | refine blk_drew ?_ | refine blk_alloc ?_ _)); exact BK237.out) hb); have n2_ := Aside0.mk (blk_below (g := gb238) (o := .cells #[.string t234, .string t235] 35 (0, 0)) (by (with_reducible repeat (first | refine blk_drewN ?_ _ | refine blk_drew ?_ | refine blk_alloc ?_ _)); exact BK238.out) hb); have n3_ := Aside0.mk (below_step (by repeat (first | (with_reducible first | exact HB.out | apply below_alloc | apply pw_below_drewN | apply below_drew1 | refine below_set ?_ GE231.out | refine below_set ?_ GE237.out | refine below_set ?_ GE238.out) | exact HB.out)) hb); have n4_ := Aside0.mk (hbox); have n5_ := Aside0.mk ((by rw [hg]; exact (below_size (by repeat (first | (with_reducible first | exact HB.out | apply below_alloc | apply pw_below_drewN | apply below_drew1 | refine below_set ?_ GE231.out | refine below_set ?_ GE237.out | refine below_set ?_ GE238.out) | exact HB.out))) : w.heap.size ≤ gb244)); have n6_ := Aside0.mk ((by rw [hg]; exact (below_size (by repeat (first | (with_reducible first | exact HB.out | apply below_alloc | apply pw_below_drewN | apply below_drew1 | refine below_set ?_ GE231.out | refine below_set ?_ GE237.out | refine below_set ?_ GE238.out) | exact HB.out))) : w.heap.size ≤ gb244)); have n7_ := Aside0.mk ((by rw [hg]; exact Nat.ne_of_lt (blk_lt (g := gb231) (o := .cells #[.string t228, .string t229] 35 (0, 0)) (by (with_reducible repeat (first | refine blk_drewN ?_ _ | refine blk_drew ?_ | refine blk_alloc ?_ _)); exact BK231.out)) : gb231 ≠ gb244)); have n8_ := Aside0.mk ((by rw [hg]; exact Nat.ne_of_gt (blk_lt (g := gb231) (o := .cells #[.string t228, .string t229] 35 (0, 0)) (by (with_reducible repeat (first | refine blk_drewN ?_ _ | refine blk_drew ?_ | refine blk_alloc ?_ _)); exact BK231.out)) : gb244 ≠ gb231)); have n9_ := Aside0.mk ((by rw [hg]; exact Nat.ne_of_lt (blk_lt (g := gb237) (o := .cells #[.string t232, .string t233] 35 (0, 0)) (by (with_reducible repeat (first | refine blk_drewN ?_ _ | refine blk_drew ?_ | refine blk_alloc ?_ _)); exact BK237.out)) : gb237 ≠ gb244)); have n10_ := Aside0.mk ((by rw [hg]; exact Nat.ne_of_gt (blk_lt (g := gb237) (o := .cells #[.string t232, .string t233] 35 (0, 0)) (by (with_reducible repeat (first | refine blk_drewN ?_ _ | refine blk_drew ?_ | refine blk_alloc ?_ _)); exact BK237.out)) : gb244 ≠ gb237)); have n11_ := Aside0.mk ((by rw [hg]; exact Nat.ne_of_lt (blk_lt (g := gb238) (o := .cells #[.string t234, .string t235] 35 (0, 0)) (by (with_reducible repeat (first | refine blk_drewN ?_ _ | refine blk_drew ?_ | refine blk_alloc ?_ _)); exact BK238.out)) : gb238 ≠ gb244)); have n12_ := Aside0.mk ((by rw [hg]; exact Nat.ne_of_gt (blk_lt (g := gb238) (o := .cells #[.string t234, .string t235] 35 (0, 0)) (by (with_reducible repeat (first | refine blk_drewN ?_ _ | refine blk_drew ?_ | refine blk_alloc ?_ _)); exact BK238.out)) : gb244 ≠ gb238)); clear BK231; clear BK237; clear BK238; clear HB; have BK231 := n0_; have BK237 := n1_; have BK238 := n2_; have HB := n3_; have BK244 := n4_; have GW244 := n5_; have GE244 := n6_; have NB231_244 := n7_; have NB244_231 := n8_; have NB237_244 := n9_; have NB244_237 := n10_; have NB238_244 := n11_; have NB244_238 := n12_; clear n0_ n1_ n2_ n3_ n4_ n5_ n6_ n7_ n8_ n9_ n10_ n11_ n12_; clear hb hbox hg) | ((with_reducible refine gate_dst (N := 9) rfl ?_); refine box_event ?hg (N := 9) ?hd (cs := #[.string (⟨#[]⟩ : ByteArray), .string (⟨#[]⟩ : ByteArray)]) (t := 35) ?hr ?_; (case hd => rfl); (case hg => rfl); (case hr => first | (go_simp; done) | (go_simp; rfl)); intro gb245 hg w21 hbox hb; have n0_ := Aside0.mk (blk_below (g := gb231) (o := .cells #[.string t228, .string t229] 35 (0, 0)) (by (with_reducible repeat (first | refine blk_drewN ?_ _ | refine blk_drew ?_ | refine blk_alloc ?_ _)); exact BK231.out) hb); have n1_ := Aside0.mk (blk_below (g := gb237) (o := .cells #[.string t232, .string t233] 35 (0, 0)) (by (with_reducible repeat (first | refine blk_drewN ?_ _ | refine blk_drew ?_ | refine blk_alloc ?_ _)); exact BK237.out) hb); have n2_ := Aside0.mk (blk_below (g := gb238) (o := .cells #[.string t234, .string t235] 35 (0, 0)) (by (with_reducible repeat (first | refine blk_drewN ?_ _ | refine blk_drew ?_ | refine blk_alloc ?_ _)); exact BK238.out) hb); have n3_ := Aside0.mk (blk_below (g := gb244) (o := .cells #[.string (⟨#[]⟩ : ByteArray), .string (⟨#[]⟩ : ByteArray)] 35 (0, 0)) (by (with_reducible repeat (first | refine blk_drewN ?_ _ | refine blk_drew ?_ | refine blk_alloc ?_ _)); exact BK244.out) hb); have n4_ := Aside0.mk (below_step (by repeat (first | (with_reducible first | exact HB.out | apply below_alloc | apply pw_below_drewN | apply below_drew1 | refine below_set ?_ GE231.out | refine below_set ?_ GE237.out | refine below_set ?_ GE238.out | refine below_set ?_ GE244.out) | exact HB.out)) hb); have n5_ := Aside0.mk (hbox); have n6_ := Aside0.mk ((by rw [hg]; exact (below_size (by repeat (first | (with_reducible first | exact HB.out | apply below_alloc | apply pw_below_drewN | apply below_drew1 | refine below_set ?_ GE231.out | refine below_set ?_ GE237.out | refine below_set ?_ GE238.out | refine below_set ?_ GE244.out) | exact HB.out))) : w.heap.size ≤ gb245)); have n7_ := Aside0.mk ((by rw [hg]; exact (below_size (by repeat (first | (with_reducible first | exact HB.out | apply below_alloc | apply pw_below_drewN | apply below_drew1 | refine below_set ?_ GE231.out | refine below_set ?_ GE237.out | refine below_set ?_ GE238.out | refine below_set ?_ GE244.out) | exact HB.out))) : w.heap.size ≤ gb245)); have n8_ := Aside0.mk ((by rw [hg]; exact Nat.ne_of_lt (blk_lt (g := gb231) (o := .cells #[.string t228, .string t229] 35 (0, 0)) (by (with_reducible repeat (first | refine blk_drewN ?_ _ | refine blk_drew ?_ | refine blk_alloc ?_ _)); exact BK231.out)) : gb231 ≠ gb245)); have n9_ := Aside0.mk ((by rw [hg]; exact Nat.ne_of_gt (blk_lt (g := gb231) (o := .cells #[.string t228, .string t229] 35 (0, 0)) (by (with_reducible repeat (first | refine blk_drewN ?_ _ | refine blk_drew ?_ | refine blk_alloc ?_ _)); exact BK231.out)) : gb245 ≠ gb231)); have n10_ := Aside0.mk ((by rw [hg]; exact Nat.ne_of_lt (blk_lt (g := gb237) (o := .cells #[.string t232, .string t233] 35 (0, 0)) (by (with_reducible repeat (first | refine blk_drewN ?_ _ | refine blk_drew ?_ | refine blk_alloc ?_ _)); exact BK237.out)) : gb237 ≠ gb245)); have n11_ := Aside0.mk ((by rw [hg]; exact Nat.ne_of_gt (blk_lt (g := gb237) (o := .cells #[.string t232, .string t233] 35 (0, 0)) (by (with_reducible repeat (first | refine blk_drewN ?_ _ | refine blk_drew ?_ | refine blk_alloc ?_ _)); exact BK237.out)) : gb245 ≠ gb237)); have n12_ := Aside0.mk ((by rw [hg]; exact Nat.ne_of_lt (blk_lt (g := gb238) (o := .cells #[.string t234, .string t235] 35 (0, 0)) (by (with_reducible repeat (first | refine blk_drewN ?_ _ | refine blk_drew ?_ | refine blk_alloc ?_ _)); exact BK238.out)) : gb238 ≠ gb245)); have n13_ := Aside0.mk ((by rw [hg]; exact Nat.ne_of_gt (blk_lt (g := gb238) (o := .cells #[.string t234, .string t235] 35 (0, 0)) (by (with_reducible repeat (first | refine blk_drewN ?_ _ | refine blk_drew ?_ | refine blk_alloc ?_ _)); exact BK238.out)) : gb245 ≠ gb238)); have n14_ := Aside0.mk ((by rw [hg]; exact Nat.ne_of_lt (blk_lt (g := gb244) (o := .cells #[.string (⟨#[]⟩ : ByteArray), .string (⟨#[]⟩ : ByteArray)] 35 (0, 0)) (by (with_reducible repeat (first | refine blk_drewN ?_ _ | refine blk_drew ?_ | refine blk_alloc ?_ _)); exact BK244.out)) : gb244 ≠ gb245)); have n15_ := Aside0.mk ((by rw [hg]; exact Nat.ne_of_gt (blk_lt (g := gb244) (o := .cells #[.string (⟨#[]⟩ : ByteArray), .string (⟨#[]⟩ : ByteArray)] 35 (0, 0)) (by (with_reducible repeat (first | refine blk_drewN ?_ _ | refine blk_drew ?_ | refine blk_alloc ?_ _)); exact BK244.out)) : gb245 ≠ gb244)); clear BK231; clear BK237; clear BK238; clear BK244; clear HB; have BK231 := n0_; have BK237 := n1_; have BK238 := n2_; have BK244 := n3_; have HB := n4_; have BK245 := n5_; have GW245 := n6_; have GE245 := n7_; have NB231_245 := n8_; have NB245_231 := n9_; have NB237_245 := n10_; have NB245_237 := n11_; have NB238_245 := n12_; have NB245_238 := n13_; have NB244_245 := n14_; have NB245_244 := n15_; clear n0_ n1_ n2_ n3_ n4_ n5_ n6_ n7_ n8_ n9_ n10_ n11_ n12_ n13_ n14_ n15_; clear hb hbox hg; have hnb22 := NB244_231.out; have hnc22 := NB231_244.out; have hnb23 := NB244_237.out; have hnc23 := NB237_244.out; have hnb24 := NB244_238.out; have hnc24 := NB238_244.out; have hnb25 := NB244_245.out; have hnc25 := NB245_244.out; have hcz26_0 : w21.cell? ⟨gb244, 0, none⟩ = some (.string (⟨#[]⟩ : ByteArray)) := (blk_cell BK244.out 0).trans rfl; have hcz26_1 : w21.cell? ⟨gb244, 1, none⟩ = some (.string (⟨#[]⟩ : ByteArray)) := (blk_cell BK244.out 1).trans rfl; have hfz26_0 := blk_frozen BK244.out 0; have hfz26_1 := blk_frozen BK244.out 1; have hnb27 := NB245_231.out; have hnc27 := NB231_245.out; have hnb28 := NB245_237.out; have hnc28 := NB237_245.out; have hnb29 := NB245_238.out; have hnc29 := NB238_245.out; have hcz30_0 : w21.cell? ⟨gb245, 0, none⟩ = some (.string (⟨#[]⟩ : ByteArray)) := (blk_cell BK245.out 0).trans rfl; have hcz30_1 : w21.cell? ⟨gb245, 1, none⟩ = some (.string (⟨#[]⟩ : ByteArray)) := (blk_cell BK245.out 1).trans rfl; have hfz30_0 := blk_frozen BK245.out 0; have hfz30_1 := blk_frozen BK245.out 1))
    (try simp only [Act.put, List.setIfInBounds_toArray, List.set_cons_zero, List.set_cons_succ])
    go_cut [51] (fun v51 wc => ∃ (kq : Nat) (x51_5 : Bool), v51 = .bool x51_5 ∧ Aside0 (laws_FnIntervalCut.j0 kq t236 x51_5 t228 t229 t232 t233 t234 t235 = some r) ∧ Aside0 (kq ≤ k) ∧ Aside0 (wc.heap[gb231]? = some (.cells #[.string t228, .string t229] 35 (0, 0))) ∧ Aside0 (wc.heap[gb237]? = some (.cells #[.string t232, .string t233] 35 (0, 0))) ∧ Aside0 (wc.heap[gb238]? = some (.cells #[.string t234, .string t235] 35 (0, 0))) ∧ Aside0 (wc.heap[gb244]? = some (.cells #[.string t239, .string t240] 35 (0, 0))) ∧ Aside0 (wc.heap[gb245]? = some (.cells #[.string t241, .string t242] 35 (0, 0))) ∧ Aside0 (Below w.heap.size w wc))
    case first =>
      have H := HC6.out
      clear HC6
      by_cases c31 : (!(t232.toList == t239.toList) || (!(t233.toList == t240.toList))) = true
      · rw [if_pos c31] at H
        have c31b0 : (!(t232.toList == t239.toList) || (!(t233.toList == t240.toList))) = true := c31
        clear c31
        (first | rw [c31b0] | (simp only [i64_w, i32_w]; rw [c31b0]) | skip)
        have H' := Aside0.mk H
        clear H
        have hnb32 := NB237_231.out
        have hnc32 := NB231_237.out
        have hnb33 := NB237_238.out
        have hnc33 := NB238_237.out
        have hnb34 := NB237_244.out
        have hnc34 := NB244_237.out
        have hnb35 := NB237_245.out
        have hnc35 := NB245_237.out
        have hcz36_0 : w21.cell? ⟨gb237, 0, none⟩ = some (.string t232) := (blk_cell BK237.out 0).trans rfl
        have hcz36_1 : w21.cell? ⟨gb237, 1, none⟩ = some (.string t233) := (blk_cell BK237.out 1).trans rfl
        have hfz36_0 := blk_frozen BK237.out 0
        have hfz36_1 := blk_frozen BK237.out 1
        have hnb37 := NB244_231.out
        have hnc37 := NB231_244.out
        have hnb38 := NB244_238.out
        have hnc38 := NB238_244.out
        have hnb39 := NB244_245.out
        have hnc39 := NB245_244.out
        have hcz40_0 : w21.cell? ⟨gb244, 0, none⟩ = some (.string (⟨#[]⟩ : ByteArray)) := (blk_cell BK244.out 0).trans rfl
        have hcz40_1 : w21.cell? ⟨gb244, 1, none⟩ = some (.string (⟨#[]⟩ : ByteArray)) := (blk_cell BK244.out 1).trans rfl
        have hfz40_0 := blk_frozen BK244.out 0
        have hfz40_1 := blk_frozen BK244.out 1
        go_wp2
        go_meet
        case rel => exact ⟨_, (true), (by first | rfl | (simp; done) | (simp [bne]; done) | (simp [*]; done)), H', ⟨by first | omega | exact Nat.le_refl _⟩, ⟨by (with_reducible repeat (first | refine blk_drewN ?_ _ | refine blk_drew ?_ | refine blk_alloc ?_ _)); refine blk_far ?_ NB231_245.out _; (with_reducible repeat (first | refine blk_drewN ?_ _ | refine blk_drew ?_ | refine blk_alloc ?_ _)); refine blk_far ?_ NB231_245.out _; (with_reducible repeat (first | refine blk_drewN ?_ _ | refine blk_drew ?_ | refine blk_alloc ?_ _)); refine blk_far ?_ NB231_244.out _; (with_reducible repeat (first | refine blk_drewN ?_ _ | refine blk_drew ?_ | refine blk_alloc ?_ _)); refine blk_far ?_ NB231_244.out _; (with_reducible repeat (first | refine blk_drewN ?_ _ | refine blk_drew ?_ | refine blk_alloc ?_ _)); exact BK231.out⟩, ⟨by (with_reducible repeat (first | refine blk_drewN ?_ _ | refine blk_drew ?_ | refine blk_alloc ?_ _)); refine blk_far ?_ NB237_245.out _; (with_reducible repeat (first | refine blk_drewN ?_ _ | refine blk_drew ?_ | refine blk_alloc ?_ _)); refine blk_far ?_ NB237_245.out _; (with_reducible repeat (first | refine blk_drewN ?_ _ | refine blk_drew ?_ | refine blk_alloc ?_ _)); refine blk_far ?_ NB237_244.out _; (with_reducible repeat (first | refine blk_drewN ?_ _ | refine blk_drew ?_ | refine blk_alloc ?_ _)); refine blk_far ?_ NB237_244.out _; (with_reducible repeat (first | refine blk_drewN ?_ _ | refine blk_drew ?_ | refine blk_alloc ?_ _)); exact BK237.out⟩, ⟨by (with_reducible repeat (first | refine blk_drewN ?_ _ | refine blk_drew ?_ | refine blk_alloc ?_ _)); refine blk_far ?_ NB238_245.out _; (with_reducible repeat (first | refine blk_drewN ?_ _ | refine blk_drew ?_ | refine blk_alloc ?_ _)); refine blk_far ?_ NB238_245.out _; (with_reducible repeat (first | refine blk_drewN ?_ _ | refine blk_drew ?_ | refine blk_alloc ?_ _)); refine blk_far ?_ NB238_244.out _; (with_reducible repeat (first | refine blk_drewN ?_ _ | refine blk_drew ?_ | refine blk_alloc ?_ _)); refine blk_far ?_ NB238_244.out _; (with_reducible repeat (first | refine blk_drewN ?_ _ | refine blk_drew ?_ | refine blk_alloc ?_ _)); exact BK238.out⟩, ⟨by (with_reducible repeat (first | refine blk_drewN ?_ _ | refine blk_drew ?_ | refine blk_alloc ?_ _)); refine blk_far ?_ NB244_245.out _; (with_reducible repeat (first | refine blk_drewN ?_ _ | refine blk_drew ?_ | refine blk_alloc ?_ _)); refine blk_far ?_ NB244_245.out _; (with_reducible repeat (first | refine blk_drewN ?_ _ | refine blk_drew ?_ | refine blk_alloc ?_ _)); refine blk_put (cs := #[.string t239, .string (⟨#[]⟩ : ByteArray)]) ?_ 1 _ rfl; (with_reducible repeat (first | refine blk_drewN ?_ _ | refine blk_drew ?_ | refine blk_alloc ?_ _)); refine blk_put (cs := #[.string (⟨#[]⟩ : ByteArray), .string (⟨#[]⟩ : ByteArray)]) ?_ 0 _ rfl; (with_reducible repeat (first | refine blk_drewN ?_ _ | refine blk_drew ?_ | refine blk_alloc ?_ _)); exact BK244.out⟩, ⟨by (with_reducible repeat (first | refine blk_drewN ?_ _ | refine blk_drew ?_ | refine blk_alloc ?_ _)); refine blk_put (cs := #[.string t241, .string (⟨#[]⟩ : ByteArray)]) ?_ 1 _ rfl; (with_reducible repeat (first | refine blk_drewN ?_ _ | refine blk_drew ?_ | refine blk_alloc ?_ _)); refine blk_put (cs := #[.string (⟨#[]⟩ : ByteArray), .string (⟨#[]⟩ : ByteArray)]) ?_ 0 _ rfl; (with_reducible repeat (first | refine blk_drewN ?_ _ | refine blk_drew ?_ | refine blk_alloc ?_ _)); refine blk_far ?_ NB245_244.out _; (with_reducible repeat (first | refine blk_drewN ?_ _ | refine blk_drew ?_ | refine blk_alloc ?_ _)); refine blk_far ?_ NB245_244.out _; (with_reducible repeat (first | refine blk_drewN ?_ _ | refine blk_drew ?_ | refine blk_alloc ?_ _)); exact BK245.out⟩, ⟨by repeat (first | (with_reducible first | exact HB.out | apply below_alloc | apply pw_below_drewN | apply below_drew1 | refine below_set ?_ GE231.out | refine below_set ?_ GE237.out | refine below_set ?_ GE238.out | refine below_set ?_ GE244.out | refine below_set ?_ GE245.out) | exact HB.out)⟩⟩
      · rw [if_neg c31] at H
        have c31b0 : (!(t232.toList == t239.toList) || (!(t233.toList == t240.toList))) = false := by simpa using c31
        clear c31
        (first | rw [c31b0] | (simp only [i64_w, i32_w]; rw [c31b0]) | skip)
        by_cases c41 : (!(t234.toList == t241.toList) || (!(t235.toList == t242.toList))) = true
        · rw [if_pos c41] at H
          have c41b0 : (!(t234.toList == t241.toList) || (!(t235.toList == t242.toList))) = true := c41
          clear c41
          have H' := Aside0.mk H
          clear H
          have hnb42 := NB237_231.out
          have hnc42 := NB231_237.out
          have hnb43 := NB237_238.out
          have hnc43 := NB238_237.out
          have hnb44 := NB237_244.out
          have hnc44 := NB244_237.out
          have hnb45 := NB237_245.out
          have hnc45 := NB245_237.out
          have hcz46_0 : w21.cell? ⟨gb237, 0, none⟩ = some (.string t232) := (blk_cell BK237.out 0).trans rfl
          have hcz46_1 : w21.cell? ⟨gb237, 1, none⟩ = some (.string t233) := (blk_cell BK237.out 1).trans rfl
          have hfz46_0 := blk_frozen BK237.out 0
          have hfz46_1 := blk_frozen BK237.out 1
          have hnb47 := NB244_231.out
          have hnc47 := NB231_244.out
          have hnb48 := NB244_238.out
          have hnc48 := NB238_244.out
          have hnb49 := NB244_245.out
          have hnc49 := NB245_244.out
          have hcz50_0 : w21.cell? ⟨gb244, 0, none⟩ = some (.string (⟨#[]⟩ : ByteArray)) := (blk_cell BK244.out 0).trans rfl
          have hcz50_1 : w21.cell? ⟨gb244, 1, none⟩ = some (.string (⟨#[]⟩ : ByteArray)) := (blk_cell BK244.out 1).trans rfl
          have hfz50_0 := blk_frozen BK244.out 0
          have hfz50_1 := blk_frozen BK244.out 1
          have hnb51 := NB238_231.out
          have hnc51 := NB231_238.out
          have hnb52 := NB238_245.out
          have hnc52 := NB245_238.out
          have hcz53_0 : w21.cell? ⟨gb238, 0, none⟩ = some (.string t234) := (blk_cell BK238.out 0).trans rfl
          have hcz53_1 : w21.cell? ⟨gb238, 1, none⟩ = some (.string t235) := (blk_cell BK238.out 1).trans rfl
          have hfz53_0 := blk_frozen BK238.out 0
          have hfz53_1 := blk_frozen BK238.out 1
          have hnb54 := NB245_231.out
          have hnc54 := NB231_245.out
          have hcz55_0 : w21.cell? ⟨gb245, 0, none⟩ = some (.string (⟨#[]⟩ : ByteArray)) := (blk_cell BK245.out 0).trans rfl
          have hcz55_1 : w21.cell? ⟨gb245, 1, none⟩ = some (.string (⟨#[]⟩ : ByteArray)) := (blk_cell BK245.out 1).trans rfl
          have hfz55_0 := blk_frozen BK245.out 0
          have hfz55_1 := blk_frozen BK245.out 1
          go_wp2
          go_meet
          case rel => exact ⟨_, (true), (by first | rfl | (simp; done) | (simp [bne]; done) | (simp [*]; done)), H', ⟨by first | omega | exact Nat.le_refl _⟩, ⟨by (with_reducible repeat (first | refine blk_drewN ?_ _ | refine blk_drew ?_ | refine blk_alloc ?_ _)); refine blk_far ?_ NB231_245.out _; (with_reducible repeat (first | refine blk_drewN ?_ _ | refine blk_drew ?_ | refine blk_alloc ?_ _)); refine blk_far ?_ NB231_245.out _; (with_reducible repeat (first | refine blk_drewN ?_ _ | refine blk_drew ?_ | refine blk_alloc ?_ _)); refine blk_far ?_ NB231_244.out _; (with_reducible repeat (first | refine blk_drewN ?_ _ | refine blk_drew ?_ | refine blk_alloc ?_ _)); refine blk_far ?_ NB231_244.out _; (with_reducible repeat (first | refine blk_drewN ?_ _ | refine blk_drew ?_ | refine blk_alloc ?_ _)); exact BK231.out⟩, ⟨by (with_reducible repeat (first | refine blk_drewN ?_ _ | refine blk_drew ?_ | refine blk_alloc ?_ _)); refine blk_far ?_ NB237_245.out _; (with_reducible repeat (first | refine blk_drewN ?_ _ | refine blk_drew ?_ | refine blk_alloc ?_ _)); refine blk_far ?_ NB237_245.out _; (with_reducible repeat (first | refine blk_drewN ?_ _ | refine blk_drew ?_ | refine blk_alloc ?_ _)); refine blk_far ?_ NB237_244.out _; (with_reducible repeat (first | refine blk_drewN ?_ _ | refine blk_drew ?_ | refine blk_alloc ?_ _)); refine blk_far ?_ NB237_244.out _; (with_reducible repeat (first | refine blk_drewN ?_ _ | refine blk_drew ?_ | refine blk_alloc ?_ _)); exact BK237.out⟩, ⟨by (with_reducible repeat (first | refine blk_drewN ?_ _ | refine blk_drew ?_ | refine blk_alloc ?_ _)); refine blk_far ?_ NB238_245.out _; (with_reducible repeat (first | refine blk_drewN ?_ _ | refine blk_drew ?_ | refine blk_alloc ?_ _)); refine blk_far ?_ NB238_245.out _; (with_reducible repeat (first | refine blk_drewN ?_ _ | refine blk_drew ?_ | refine blk_alloc ?_ _)); refine blk_far ?_ NB238_244.out _; (with_reducible repeat (first | refine blk_drewN ?_ _ | refine blk_drew ?_ | refine blk_alloc ?_ _)); refine blk_far ?_ NB238_244.out _; (with_reducible repeat (first | refine blk_drewN ?_ _ | refine blk_drew ?_ | refine blk_alloc ?_ _)); exact BK238.out⟩, ⟨by (with_reducible repeat (first | refine blk_drewN ?_ _ | refine blk_drew ?_ | refine blk_alloc ?_ _)); refine blk_far ?_ NB244_245.out _; (with_reducible repeat (first | refine blk_drewN ?_ _ | refine blk_drew ?_ | refine blk_alloc ?_ _)); refine blk_far ?_ NB244_245.out _; (with_reducible repeat (first | refine blk_drewN ?_ _ | refine blk_drew ?_ | refine blk_alloc ?_ _)); refine blk_put (cs := #[.string t239, .string (⟨#[]⟩ : ByteArray)]) ?_ 1 _ rfl; (with_reducible repeat (first | refine blk_drewN ?_ _ | refine blk_drew ?_ | refine blk_alloc ?_ _)); refine blk_put (cs := #[.string (⟨#[]⟩ : ByteArray), .string (⟨#[]⟩ : ByteArray)]) ?_ 0 _ rfl; (with_reducible repeat (first | refine blk_drewN ?_ _ | refine blk_drew ?_ | refine blk_alloc ?_ _)); exact BK244.out⟩, ⟨by (with_reducible repeat (first | refine blk_drewN ?_ _ | refine blk_drew ?_ | refine blk_alloc ?_ _)); refine blk_put (cs := #[.string t241, .string (⟨#[]⟩ : ByteArray)]) ?_ 1 _ rfl; (with_reducible repeat (first | refine blk_drewN ?_ _ | refine blk_drew ?_ | refine blk_alloc ?_ _)); refine blk_put (cs := #[.string (⟨#[]⟩ : ByteArray), .string (⟨#[]⟩ : ByteArray)]) ?_ 0 _ rfl; (with_reducible repeat (first | refine blk_drewN ?_ _ | refine blk_drew ?_ | refine blk_alloc ?_ _)); refine blk_far ?_ NB245_244.out _; (with_reducible repeat (first | refine blk_drewN ?_ _ | refine blk_drew ?_ | refine blk_alloc ?_ _)); refine blk_far ?_ NB245_244.out _; (with_reducible repeat (first | refine blk_drewN ?_ _ | refine blk_drew ?_ | refine blk_alloc ?_ _)); exact BK245.out⟩, ⟨by repeat (first | (with_reducible first | exact HB.out | apply below_alloc | apply pw_below_drewN | apply below_drew1 | refine below_set ?_ GE231.out | refine below_set ?_ GE237.out | refine below_set ?_ GE238.out | refine below_set ?_ GE244.out | refine below_set ?_ GE245.out) | exact HB.out)⟩⟩
        · rw [if_neg c41] at H
          have c41b0 : (!(t234.toList == t241.toList) || (!(t235.toList == t242.toList))) = false := by simpa using c41
          clear c41
          have H' := Aside0.mk H
          clear H
          have hnb56 := NB237_231.out
          have hnc56 := NB231_237.out
          have hnb57 := NB237_238.out
          have hnc57 := NB238_237.out
          have hnb58 := NB237_244.out
          have hnc58 := NB244_237.out
          have hnb59 := NB237_245.out
          have hnc59 := NB245_237.out
          have hcz60_0 : w21.cell? ⟨gb237, 0, none⟩ = some (.string t232) := (blk_cell BK237.out 0).trans rfl
          have hcz60_1 : w21.cell? ⟨gb237, 1, none⟩ = some (.string t233) := (blk_cell BK237.out 1).trans rfl
          have hfz60_0 := blk_frozen BK237.out 0
          have hfz60_1 := blk_frozen BK237.out 1
          have hnb61 := NB244_231.out
          have hnc61 := NB231_244.out
          have hnb62 := NB244_238.out
          have hnc62 := NB238_244.out
          have hnb63 := NB244_245.out
          have hnc63 := NB245_244.out
          have hcz64_0 : w21.cell? ⟨gb244, 0, none⟩ = some (.string (⟨#[]⟩ : ByteArray)) := (blk_cell BK244.out 0).trans rfl
          have hcz64_1 : w21.cell? ⟨gb244, 1, none⟩ = some (.string (⟨#[]⟩ : ByteArray)) := (blk_cell BK244.out 1).trans rfl
          have hfz64_0 := blk_frozen BK244.out 0
          have hfz64_1 := blk_frozen BK244.out 1
          have hnb65 := NB238_231.out
          have hnc65 := NB231_238.out
          have hnb66 := NB238_245.out
          have hnc66 := NB245_238.out
          have hcz67_0 : w21.cell? ⟨gb238, 0, none⟩ = some (.string t234) := (blk_cell BK238.out 0).trans rfl
          have hcz67_1 : w21.cell? ⟨gb238, 1, none⟩ = some (.string t235) := (blk_cell BK238.out 1).trans rfl
          have hfz67_0 := blk_frozen BK238.out 0
          have hfz67_1 := blk_frozen BK238.out 1
          have hnb68 := NB245_231.out
          have hnc68 := NB231_245.out
          have hcz69_0 : w21.cell? ⟨gb245, 0, none⟩ = some (.string (⟨#[]⟩ : ByteArray)) := (blk_cell BK245.out 0).trans rfl
          have hcz69_1 : w21.cell? ⟨gb245, 1, none⟩ = some (.string (⟨#[]⟩ : ByteArray)) := (blk_cell BK245.out 1).trans rfl
          have hfz69_0 := blk_frozen BK245.out 0
          have hfz69_1 := blk_frozen BK245.out 1
          go_wp2
          go_meet
          case rel => exact ⟨_, ((t236 != t243)), (by first | rfl | (simp; done) | (simp [bne]; done) | (simp [*]; done)), H', ⟨by first | omega | exact Nat.le_refl _⟩, ⟨by (with_reducible repeat (first | refine blk_drewN ?_ _ | refine blk_drew ?_ | refine blk_alloc ?_ _)); refine blk_far ?_ NB231_245.out _; (with_reducible repeat (first | refine blk_drewN ?_ _ | refine blk_drew ?_ | refine blk_alloc ?_ _)); refine blk_far ?_ NB231_245.out _; (with_reducible repeat (first | refine blk_drewN ?_ _ | refine blk_drew ?_ | refine blk_alloc ?_ _)); refine blk_far ?_ NB231_244.out _; (with_reducible repeat (first | refine blk_drewN ?_ _ | refine blk_drew ?_ | refine blk_alloc ?_ _)); refine blk_far ?_ NB231_244.out _; (with_reducible repeat (first | refine blk_drewN ?_ _ | refine blk_drew ?_ | refine blk_alloc ?_ _)); exact BK231.out⟩, ⟨by (with_reducible repeat (first | refine blk_drewN ?_ _ | refine blk_drew ?_ | refine blk_alloc ?_ _)); refine blk_far ?_ NB237_245.out _; (with_reducible repeat (first | refine blk_drewN ?_ _ | refine blk_drew ?_ | refine blk_alloc ?_ _)); refine blk_far ?_ NB237_245.out _; (with_reducible repeat (first | refine blk_drewN ?_ _ | refine blk_drew ?_ | refine blk_alloc ?_ _)); refine blk_far ?_ NB237_244.out _; (with_reducible repeat (first | refine blk_drewN ?_ _ | refine blk_drew ?_ | refine blk_alloc ?_ _)); refine blk_far ?_ NB237_244.out _; (with_reducible repeat (first | refine blk_drewN ?_ _ | refine blk_drew ?_ | refine blk_alloc ?_ _)); exact BK237.out⟩, ⟨by (with_reducible repeat (first | refine blk_drewN ?_ _ | refine blk_drew ?_ | refine blk_alloc ?_ _)); refine blk_far ?_ NB238_245.out _; (with_reducible repeat (first | refine blk_drewN ?_ _ | refine blk_drew ?_ | refine blk_alloc ?_ _)); refine blk_far ?_ NB238_245.out _; (with_reducible repeat (first | refine blk_drewN ?_ _ | refine blk_drew ?_ | refine blk_alloc ?_ _)); refine blk_far ?_ NB238_244.out _; (with_reducible repeat (first | refine blk_drewN ?_ _ | refine blk_drew ?_ | refine blk_alloc ?_ _)); refine blk_far ?_ NB238_244.out _; (with_reducible repeat (first | refine blk_drewN ?_ _ | refine blk_drew ?_ | refine blk_alloc ?_ _)); exact BK238.out⟩, ⟨by (with_reducible repeat (first | refine blk_drewN ?_ _ | refine blk_drew ?_ | refine blk_alloc ?_ _)); refine blk_far ?_ NB244_245.out _; (with_reducible repeat (first | refine blk_drewN ?_ _ | refine blk_drew ?_ | refine blk_alloc ?_ _)); refine blk_far ?_ NB244_245.out _; (with_reducible repeat (first | refine blk_drewN ?_ _ | refine blk_drew ?_ | refine blk_alloc ?_ _)); refine blk_put (cs := #[.string t239, .string (⟨#[]⟩ : ByteArray)]) ?_ 1 _ rfl; (with_reducible repeat (first | refine blk_drewN ?_ _ | refine blk_drew ?_ | refine blk_alloc ?_ _)); refine blk_put (cs := #[.string (⟨#[]⟩ : ByteArray), .string (⟨#[]⟩ : ByteArray)]) ?_ 0 _ rfl; (with_reducible repeat (first | refine blk_drewN ?_ _ | refine blk_drew ?_ | refine blk_alloc ?_ _)); exact BK244.out⟩, ⟨by (with_reducible repeat (first | refine blk_drewN ?_ _ | refine blk_drew ?_ | refine blk_alloc ?_ _)); refine blk_put (cs := #[.string t241, .string (⟨#[]⟩ : ByteArray)]) ?_ 1 _ rfl; (with_reducible repeat (first | refine blk_drewN ?_ _ | refine blk_drew ?_ | refine blk_alloc ?_ _)); refine blk_put (cs := #[.string (⟨#[]⟩ : ByteArray), .string (⟨#[]⟩ : ByteArray)]) ?_ 0 _ rfl; (with_reducible repeat (first | refine blk_drewN ?_ _ | refine blk_drew ?_ | refine blk_alloc ?_ _)); refine blk_far ?_ NB245_244.out _; (with_reducible repeat (first | refine blk_drewN ?_ _ | refine blk_drew ?_ | refine blk_alloc ?_ _)); refine blk_far ?_ NB245_244.out _; (with_reducible repeat (first | refine blk_drewN ?_ _ | refine blk_drew ?_ | refine blk_alloc ?_ _)); exact BK245.out⟩, ⟨by repeat (first | (with_reducible first | exact HB.out | apply below_alloc | apply pw_below_drewN | apply below_drew1 | refine below_set ?_ GE231.out | refine below_set ?_ GE237.out | refine below_set ?_ GE238.out | refine below_set ?_ GE244.out | refine below_set ?_ GE245.out) | exact HB.out)⟩⟩
    case rest =>
      clear HC6
      try clear c1
      try clear c2
      try clear c2b0
      try clear c2b1
      try clear p2
      try clear c3
      try clear c4
      try clear c5
      try clear c6
      try clear c11
      try clear c13
      try clear c14
      try clear c16
      try clear c22
      try clear c23
      try clear c24
      try clear c25
      try clear c27
      try clear c28
      try clear c29
      try clear c31
      try clear c31b0
      try clear c32
      try clear c33
      try clear c34
      try clear c35
      try clear c37
      try clear c38
      try clear c39
      try clear c40
      try clear c41
      try clear c41b0
      try clear c42
      try clear c43
      try clear c44
      try clear c45
      try clear c47
      try clear c48
      try clear c49
      try clear c51
      try clear c52
      try clear c54
      try clear c56
      try clear c57
      try clear c58
      try clear c59
      try clear c61
      try clear c62
      try clear c63
      try clear c65
      try clear c66
      try clear c68
      try clear hcz15_0
      try clear hcz15_1
      try clear hcz17_0
      try clear hcz17_1
      try clear hcz18_0
      try clear hcz18_1
      try clear hcz26_0
      try clear hcz26_1
      try clear hcz30_0
      try clear hcz30_1
      try clear hcz36_0
      try clear hcz36_1
      try clear hcz40_0
      try clear hcz40_1
      try clear hcz46_0
      try clear hcz46_1
      try clear hcz50_0
      try clear hcz50_1
      try clear hcz53_0
      try clear hcz53_1
      try clear hcz55_0
      try clear hcz55_1
      try clear hcz60_0
      try clear hcz60_1
      try clear hcz64_0
      try clear hcz64_1
      try clear hcz67_0
      try clear hcz67_1
      try clear hcz69_0
      try clear hcz69_1
      try clear hcz9_0
      try clear hcz9_1
      try clear hfz15_0
      try clear hfz15_1
      try clear hfz17_0
      try clear hfz17_1
      try clear hfz18_0
      try clear hfz18_1
      try clear hfz26_0
      try clear hfz26_1
      try clear hfz30_0
      try clear hfz30_1
      try clear hfz36_0
      try clear hfz36_1
      try clear hfz40_0
      try clear hfz40_1
      try clear hfz46_0
      try clear hfz46_1
      try clear hfz50_0
      try clear hfz50_1
      try clear hfz53_0
      try clear hfz53_1
      try clear hfz55_0
      try clear hfz55_1
      try clear hfz60_0
      try clear hfz60_1
      try clear hfz64_0
      try clear hfz64_1
      try clear hfz67_0
      try clear hfz67_1
      try clear hfz69_0
      try clear hfz69_1
      try clear hfz9_0
      try clear hfz9_1
      obtain ⟨kq, x51_5, rfl, HA, HJ5, BK231, BK237, BK238, BK244, BK245, HB⟩ := hcut
      cases kq with
      | zero => exact absurd HA.out (by simp [laws_FnIntervalCut.j0])
      | succ kj5 =>
        have H := HA.out
        clear HA
        simp only [laws_FnIntervalCut.j0] at H
        by_cases c70 : x51_5 = true
        · subst c70
          have H1 : (none) = some r := by rw [if_pos rfl] at H; exact H
          clear H
          have H := H1
          clear H1
          exact absurd H (by simp)
        · replace c70 := Bool.eq_false_iff.mpr c70
          subst c70
          have H1 : (if t236 = true then ((laws_probes.f kj5 t232 t233 t234 t235).bind fun t247 => (laws_FnIntervalCut.l0 kj5 t247 0 t228 t229 t232 t233 t234 t235)) else (if (t232.toList == ([] : List UInt8) && (t233.toList == ([] : List UInt8))) = true then (if (t234.toList == ([] : List UInt8) && (t235.toList == ([] : List UInt8))) = true then ((laws_alive.f kj5).bind fun t246 => (some t246)) else (none)) else (none))) = some r := by rw [if_neg (show ¬ (false = true) by decide)] at H; exact H
          clear H
          have H := H1
          clear H1
          by_cases c71 : t236 = true
          · subst c71
            have H1 : ((laws_probes.f kj5 t232 t233 t234 t235).bind fun t247 => (laws_FnIntervalCut.l0 kj5 t247 0 t228 t229 t232 t233 t234 t235)) = some r := by rw [if_pos rfl] at H; exact H
            clear H
            have H := H1
            clear H1
            replace H := Option.bind_eq_some_iff.mp H
            obtain ⟨t247, A720, H⟩ := H
            replace H : (laws_FnIntervalCut.l0 kj5 t247 0 t228 t229 t232 t233 t234 t235) = some r := H
            have A72 := Aside0.mk A720
            clear A720
            have H' := Aside0.mk H
            clear H
            have hnb73 := NB237_231.out
            have hnc73 := NB231_237.out
            have hnb74 := NB237_238.out
            have hnc74 := NB238_237.out
            have hnb75 := NB237_244.out
            have hnc75 := NB244_237.out
            have hnb76 := NB237_245.out
            have hnc76 := NB245_237.out
            have hcz77_0 : wc.cell? ⟨gb237, 0, none⟩ = some (.string t232) := (blk_cell BK237.out 0).trans rfl
            have hcz77_1 : wc.cell? ⟨gb237, 1, none⟩ = some (.string t233) := (blk_cell BK237.out 1).trans rfl
            have hfz77_0 := blk_frozen BK237.out 0
            have hfz77_1 := blk_frozen BK237.out 1
            have hnb78 := NB238_231.out
            have hnc78 := NB231_238.out
            have hnb79 := NB238_244.out
            have hnc79 := NB244_238.out
            have hnb80 := NB238_245.out
            have hnc80 := NB245_238.out
            have hcz81_0 : wc.cell? ⟨gb238, 0, none⟩ = some (.string t234) := (blk_cell BK238.out 0).trans rfl
            have hcz81_1 : wc.cell? ⟨gb238, 1, none⟩ = some (.string t235) := (blk_cell BK238.out 1).trans rfl
            have hfz81_0 := blk_frozen BK238.out 0
            have hfz81_1 := blk_frozen BK238.out 1
            go_wp2_with (first | ((with_reducible refine gate_callee (f := 41) rfl ?_); refine goesL_ (some 67) rfl rfl Try.func41 (by kernel_rfl) rfl #[.agg #[.string t232, .string t233], .agg #[.string t234, .string t235]] rfl (by (try simp only [List.map_toArray, List.map_cons, List.map_nil]); first | done | rfl | (simp only [List.length_drop, List.length_take]; rfl)) ?_; (with_reducible refine (laws_probes.calls kj5 t232 t233 t234 t235 t247 _ A72.out).mono ?_); rintro e w82 ⟨v248, rfl, ho0, hb⟩; refine ⟨_, rfl, ?_⟩; have n0_ := Aside0.mk (Kd.R_lower ho0 (below_size (by repeat (first | (with_reducible first | exact HB.out | apply below_alloc | apply pw_below_drewN | apply below_drew1 | refine below_set ?_ GE231.out | refine below_set ?_ GE237.out | refine below_set ?_ GE238.out | refine below_set ?_ GE244.out | refine below_set ?_ GE245.out) | exact HB.out)))); have n1_ := Aside0.mk (blk_below (g := gb231) (o := .cells #[.string t228, .string t229] 35 (0, 0)) (by (with_reducible repeat (first | refine blk_drewN ?_ _ | refine blk_drew ?_ | refine blk_alloc ?_ _)); exact BK231.out) hb); have n2_ := Aside0.mk (blk_below (g := gb237) (o := .cells #[.string t232, .string t233] 35 (0, 0)) (by (with_reducible repeat (first | refine blk_drewN ?_ _ | refine blk_drew ?_ | refine blk_alloc ?_ _)); exact BK237.out) hb); have n3_ := Aside0.mk (blk_below (g := gb238) (o := .cells #[.string t234, .string t235] 35 (0, 0)) (by (with_reducible repeat (first | refine blk_drewN ?_ _ | refine blk_drew ?_ | refine blk_alloc ?_ _)); exact BK238.out) hb); have n4_ := Aside0.mk (blk_below (g := gb244) (o := .cells #[.string t239, .string t240] 35 (0, 0)) (by (with_reducible repeat (first | refine blk_drewN ?_ _ | refine blk_drew ?_ | refine blk_alloc ?_ _)); exact BK244.out) hb); have n5_ := Aside0.mk (blk_below (g := gb245) (o := .cells #[.string t241, .string t242] 35 (0, 0)) (by (with_reducible repeat (first | refine blk_drewN ?_ _ | refine blk_drew ?_ | refine blk_alloc ?_ _)); exact BK245.out) hb); have n6_ := Aside0.mk (below_step (by repeat (first | (with_reducible first | exact HB.out | apply below_alloc | apply pw_below_drewN | apply below_drew1 | refine below_set ?_ GE231.out | refine below_set ?_ GE237.out | refine below_set ?_ GE238.out | refine below_set ?_ GE244.out | refine below_set ?_ GE245.out) | exact HB.out)) hb); clear BK231; clear BK237; clear BK238; clear BK244; clear BK245; clear HB; have HO249 := n0_; have BK231 := n1_; have BK237 := n2_; have BK238 := n3_; have BK244 := n4_; have BK245 := n5_; have HB := n6_; clear n0_ n1_ n2_ n3_ n4_ n5_ n6_; (try clear hb); (try clear hb2); (try clear hk); (try clear hi); (try clear ho0)))
            go_loopg [12] kj5 (fun kq v12 w' => ∃ (x12_2 : Int), v12 = .int .i64 x12_2 ∧ Aside0 (laws_FnIntervalCut.l0 kq t247 x12_2 t228 t229 t232 t233 t234 t235 = some r) ∧ Aside0 (kq ≤ kj5) ∧ Aside0 (Kd.R Kd.string 9 w' w.heap.size (fun _ => True) v248 t247) ∧ Aside0 (w'.heap[gb231]? = some (.cells #[.string t228, .string t229] 35 (0, 0))) ∧ Aside0 (w'.heap[gb237]? = some (.cells #[.string t232, .string t233] 35 (0, 0))) ∧ Aside0 (w'.heap[gb238]? = some (.cells #[.string t234, .string t235] 35 (0, 0))) ∧ Aside0 (w'.heap[gb244]? = some (.cells #[.string t239, .string t240] 35 (0, 0))) ∧ Aside0 (w'.heap[gb245]? = some (.cells #[.string t241, .string t242] 35 (0, 0))) ∧ Aside0 (Below w.heap.size w w'))
            case atStart => exact ⟨(0), (by first | rfl | (simp; done) | (simp [bne]; done) | (simp [*]; done)), H', ⟨Nat.le_refl _⟩, ⟨by (with_reducible repeat (first | apply Kd.R_alloc | apply Kd.R_drewN | apply Kd.R_drew)); exact HO249.out⟩, ⟨by (with_reducible repeat (first | refine blk_drewN ?_ _ | refine blk_drew ?_ | refine blk_alloc ?_ _)); exact BK231.out⟩, ⟨by (with_reducible repeat (first | refine blk_drewN ?_ _ | refine blk_drew ?_ | refine blk_alloc ?_ _)); exact BK237.out⟩, ⟨by (with_reducible repeat (first | refine blk_drewN ?_ _ | refine blk_drew ?_ | refine blk_alloc ?_ _)); exact BK238.out⟩, ⟨by (with_reducible repeat (first | refine blk_drewN ?_ _ | refine blk_drew ?_ | refine blk_alloc ?_ _)); exact BK244.out⟩, ⟨by (with_reducible repeat (first | refine blk_drewN ?_ _ | refine blk_drew ?_ | refine blk_alloc ?_ _)); exact BK245.out⟩, ⟨by repeat (first | (with_reducible first | exact HB.out | apply below_alloc | apply pw_below_drewN | apply below_drew1 | refine below_set ?_ GE231.out | refine below_set ?_ GE237.out | refine below_set ?_ GE238.out | refine below_set ?_ GE244.out | refine below_set ?_ GE245.out) | exact HB.out)⟩⟩
            case round =>
              clear H'
              try clear c1
              try clear c2
              try clear c2b0
              try clear c2b1
              try clear p2
              try clear c3
              try clear c4
              try clear c5
              try clear c6
              try clear c7
              try clear c8
              try clear c11
              try clear c13
              try clear c14
              try clear c16
              try clear c22
              try clear c23
              try clear c24
              try clear c25
              try clear c27
              try clear c28
              try clear c29
              try clear c31
              try clear c31b0
              try clear c32
              try clear c33
              try clear c34
              try clear c35
              try clear c37
              try clear c38
              try clear c39
              try clear c40
              try clear c41
              try clear c41b0
              try clear c42
              try clear c43
              try clear c44
              try clear c45
              try clear c47
              try clear c48
              try clear c49
              try clear c51
              try clear c52
              try clear c54
              try clear c56
              try clear c57
              try clear c58
              try clear c59
              try clear c61
              try clear c62
              try clear c63
              try clear c65
              try clear c66
              try clear c68
              try clear c70
              try clear c71
              try clear c73
              try clear c74
              try clear c75
              try clear c76
              try clear c78
              try clear c79
              try clear c80
              try clear hcz15_0
              try clear hcz15_1
              try clear hcz17_0
              try clear hcz17_1
              try clear hcz18_0
              try clear hcz18_1
              try clear hcz26_0
              try clear hcz26_1
              try clear hcz30_0
              try clear hcz30_1
              try clear hcz36_0
              try clear hcz36_1
              try clear hcz40_0
              try clear hcz40_1
              try clear hcz46_0
              try clear hcz46_1
              try clear hcz50_0
              try clear hcz50_1
              try clear hcz53_0
              try clear hcz53_1
              try clear hcz55_0
              try clear hcz55_1
              try clear hcz60_0
              try clear hcz60_1
              try clear hcz64_0
              try clear hcz64_1
              try clear hcz67_0
              try clear hcz67_1
              try clear hcz69_0
              try clear hcz69_1
              try clear hcz77_0
              try clear hcz77_1
              try clear hcz81_0
              try clear hcz81_1
              try clear hcz9_0
              try clear hcz9_1
              try clear hfz15_0
              try clear hfz15_1
              try clear hfz17_0
              try clear hfz17_1
              try clear hfz18_0
              try clear hfz18_1
              try clear hfz26_0
              try clear hfz26_1
              try clear hfz30_0
              try clear hfz30_1
              try clear hfz36_0
              try clear hfz36_1
              try clear hfz40_0
              try clear hfz40_1
              try clear hfz46_0
              try clear hfz46_1
              try clear hfz50_0
              try clear hfz50_1
              try clear hfz53_0
              try clear hfz53_1
              try clear hfz55_0
              try clear hfz55_1
              try clear hfz60_0
              try clear hfz60_1
              try clear hfz64_0
              try clear hfz64_1
              try clear hfz67_0
              try clear hfz67_1
              try clear hfz69_0
              try clear hfz69_1
              try clear hfz77_0
              try clear hfz77_1
              try clear hfz81_0
              try clear hfz81_1
              try clear hfz9_0
              try clear hfz9_1
              try clear p2
              obtain ⟨x12_2, rfl, HA, HK2, HO_11, BK231, BK237, BK238, BK244, BK245, HB⟩ := hrel
              cases gk with
              | zero => exact absurd HA.out (by simp [laws_FnIntervalCut.l0])
              | succ k2 =>
                have H := HA.out
                clear HA
                simp only [laws_FnIntervalCut.l0] at H
                by_cases c83 : x12_2 < (t247.length : Int)
                · rw [if_pos c83] at H
                  have c83b0 : decide (x12_2 < (t247.length : Int)) = true := decide_eq_true c83
                  clear c83
                  by_cases c84 : 0 ≤ x12_2
                  · rw [if_pos c84] at H
                    have c84b0 : decide (0 ≤ x12_2) = true := decide_eq_true c84
                    clear c84
                    replace H := Option.bind_eq_some_iff.mp H
                    obtain ⟨t255, A850, H⟩ := H
                    replace H : ((impl_IntervalHas.f k2 t234 t235 (rdOf ByteArray.empty t247 x12_2)).bind fun t257 => (if t255 = true then (if t257 = true then (none) else ((impl_IntervalHas.f k2 t228 t229 (rdOf ByteArray.empty t247 x12_2)).bind fun t259 => (if (true != t259) = true then (none) else (laws_FnIntervalCut.l0 k2 t247 (wrap64 (x12_2 + 1)) t228 t229 t232 t233 t234 t235)))) else ((impl_IntervalHas.f k2 t228 t229 (rdOf ByteArray.empty t247 x12_2)).bind fun t261 => (if (t257 != t261) = true then (none) else (laws_FnIntervalCut.l0 k2 t247 (wrap64 (x12_2 + 1)) t228 t229 t232 t233 t234 t235))))) = some r := H
                    have A85 := Aside0.mk A850
                    clear A850
                    replace H := Option.bind_eq_some_iff.mp H
                    obtain ⟨t257, A860, H⟩ := H
                    replace H : (if t255 = true then (if t257 = true then (none) else ((impl_IntervalHas.f k2 t228 t229 (rdOf ByteArray.empty t247 x12_2)).bind fun t259 => (if (true != t259) = true then (none) else (laws_FnIntervalCut.l0 k2 t247 (wrap64 (x12_2 + 1)) t228 t229 t232 t233 t234 t235)))) else ((impl_IntervalHas.f k2 t228 t229 (rdOf ByteArray.empty t247 x12_2)).bind fun t261 => (if (t257 != t261) = true then (none) else (laws_FnIntervalCut.l0 k2 t247 (wrap64 (x12_2 + 1)) t228 t229 t232 t233 t234 t235)))) = some r := H
                    have A86 := Aside0.mk A860
                    clear A860
                    by_cases c87 : t255 = true
                    · subst c87
                      have H1 : (if t257 = true then (none) else ((impl_IntervalHas.f k2 t228 t229 (rdOf ByteArray.empty t247 x12_2)).bind fun t259 => (if (true != t259) = true then (none) else (laws_FnIntervalCut.l0 k2 t247 (wrap64 (x12_2 + 1)) t228 t229 t232 t233 t234 t235)))) = some r := by rw [if_pos rfl] at H; exact H
                      clear H
                      have H := H1
                      clear H1
                      by_cases c88 : t257 = true
                      · subst c88
                        have H1 : (none) = some r := by rw [if_pos rfl] at H; exact H
                        clear H
                        have H := H1
                        clear H1
                        exact absurd H (by simp)
                      · replace c88 := Bool.eq_false_iff.mpr c88
                        subst c88
                        have H1 : ((impl_IntervalHas.f k2 t228 t229 (rdOf ByteArray.empty t247 x12_2)).bind fun t259 => (if (true != t259) = true then (none) else (laws_FnIntervalCut.l0 k2 t247 (wrap64 (x12_2 + 1)) t228 t229 t232 t233 t234 t235))) = some r := by rw [if_neg (show ¬ (false = true) by decide)] at H; exact H
                        clear H
                        have H := H1
                        clear H1
                        replace H := Option.bind_eq_some_iff.mp H
                        obtain ⟨t259, A890, H⟩ := H
                        replace H : (if (true != t259) = true then (none) else (laws_FnIntervalCut.l0 k2 t247 (wrap64 (x12_2 + 1)) t228 t229 t232 t233 t234 t235)) = some r := H
                        have A89 := Aside0.mk A890
                        clear A890
                        by_cases c90 : (true != t259) = true
                        · rw [if_pos c90] at H
                          exact absurd H (by simp)
                        · rw [if_neg c90] at H
                          have c90b0 : (true != t259) = false := by simpa using c90
                          (try (have c90b1 : decide (true = t259) = true := by simpa using c90))
                          (try (have c90b2 : (true == t259) = true := by simpa using c90))
                          clear c90
                          have H' := Aside0.mk H
                          clear H
                          obtain ⟨Ao91, co91, eo91⟩ := Kd.R_slice HO_11.out
                          subst eo91
                          try go_wp2
                          have n0_ := Aside0.mk (Kd.R_drew HO_11.out)
                          have n1_ := Aside0.mk (blk_drew BK231.out)
                          have n2_ := Aside0.mk (blk_drew BK237.out)
                          have n3_ := Aside0.mk (blk_drew BK238.out)
                          have n4_ := Aside0.mk (blk_drew BK244.out)
                          have n5_ := Aside0.mk (blk_drew BK245.out)
                          have n6_ := Aside0.mk (below_drew1 HB.out)
                          clear HO_11
                          clear BK231
                          clear BK237
                          clear BK238
                          clear BK244
                          clear BK245
                          clear HB
                          have HO_11 := n0_
                          have BK231 := n1_
                          have BK237 := n2_
                          have BK238 := n3_
                          have BK244 := n4_
                          have BK245 := n5_
                          have HB := n6_
                          clear n0_ n1_ n2_ n3_ n4_ n5_ n6_
                          have p254 : 0 ≤ (x12_2 : Int) := of_decide_eq_true (by first | (with_reducible assumption) | assumption)
                          have q254 : x12_2 < (t247.length : Int) := of_decide_eq_true (by first | (with_reducible assumption) | assumption)
                          obtain ⟨ad254, e254, hx254_0⟩ := Kd.at_string (Kd.R_reads' HO_11.out).2.2 x12_2 p254 q254
                          cases e254
                          replace p254 := eq_true p254
                          replace q254 := eq_true q254
                          refine start_ (n := 7) (S := fun w' => w'.cell? ⟨gb237, 0, none⟩ = some (.string t232) ∧ w'.cell? ⟨gb237, 1, none⟩ = some (.string t233) ∧ w'.cell? (ad254.add (x12_2).toNat) = some (.string (rdOf ByteArray.empty t247 x12_2))) (ds := []) #[false, false, false, false, false, false, false] (by kernel_rfl) rfl rfl ⟨(blk_cell BK237.out 0).trans rfl, (blk_cell BK237.out 1).trans rfl, hx254_0⟩ (fun hHeld => ?_)
                          generalize wr.drew = w92 at HO_11 BK231 BK237 BK238 BK244 BK245 HB hx254_0 hHeld ⊢
                          refine pure_ (i := 1) (N := some 75) (v := ?_) (a' := ?_) #[false, true, false, false, false, false, false] rfl rfl (by kernel_rfl) (fun _ _ _ h => h) (Or.inl ⟨by rfl, ?_⟩) ?_ ?_
                          rotate_left
                          · intro w'
                            go_simp
                            with_reducible rfl
                          rotate_left
                          · simp only [Act.put, List.setIfInBounds_toArray, List.set_cons_zero, List.set_cons_succ, i64_w, i32_w]
                            rfl
                          refine pure_ (i := 2) (N := some 76) (v := ?_) (a' := ?_) #[false, true, true, false, false, false, false] rfl rfl (by kernel_rfl) (fun _ _ _ h => h) (Or.inl ⟨by rfl, ?_⟩) ?_ ?_
                          rotate_left
                          · intro w'
                            go_simp
                            with_reducible rfl
                          rotate_left
                          · simp only [Act.put, List.setIfInBounds_toArray, List.set_cons_zero, List.set_cons_succ, i64_w, i32_w]
                            rfl
                          refine pure_ (i := 3) (N := some 77) (v := ?_) (a' := ?_) #[false, true, true, true, false, false, false] rfl rfl (by kernel_rfl) (fun _ _ _ h => h) (Or.inl ⟨by rfl, ?_⟩) ?_ ?_
                          rotate_left
                          · intro w'
                            go_simp
                            with_reducible rfl
                          rotate_left
                          · simp only [Act.put, List.setIfInBounds_toArray, List.set_cons_zero, List.set_cons_succ, i64_w, i32_w]
                            rfl
                          refine take_ (i := 0) (N := some 74) (v := ?_) (a' := ?_) #[true, true, true, true, false, false, false] rfl rfl (by kernel_rfl) (fun _ _ _ h => h) (Or.inl ⟨by rfl, ?_⟩) hHeld ?_ ?_
                          rotate_left
                          · rintro w' ⟨s0, s1, s2⟩
                            go_simp
                            with_reducible rfl
                          rotate_left
                          · simp only [Act.put, List.setIfInBounds_toArray, List.set_cons_zero, List.set_cons_succ, i64_w, i32_w]
                            rfl
                          refine take_ (i := 4) (N := some 78) (v := ?_) (a' := ?_) #[true, true, true, true, true, false, false] rfl rfl (by kernel_rfl) (fun _ _ _ h => h) (Or.inl ⟨by rfl, ?_⟩) hHeld ?_ ?_
                          rotate_left
                          · rintro w' ⟨s0, s1, s2⟩
                            go_simp
                            with_reducible rfl
                          rotate_left
                          · simp only [Act.put, List.setIfInBounds_toArray, List.set_cons_zero, List.set_cons_succ, i64_w, i32_w]
                            rfl
                          refine one_ (i := 5) (N := some 79) #[true, true, true, true, true, true, false] rfl rfl (by kernel_rfl) (by decide) (fun K hK => ?_)
                          refine goes_ Try.func30 (by kernel_rfl) rfl #[.agg #[.string t232, .string t233], .string (rdOf ByteArray.empty t247 x12_2)] (by rfl) rfl rfl (by (try simp only [List.map_toArray, List.map_cons, List.map_nil]); first | done | rfl | (simp only [List.length_drop, List.length_take]; rfl)) ?_
                          with_reducible refine (impl_IntervalHas.calls k2 t232 t233 (rdOf ByteArray.empty t247 x12_2) true _ A85.out).mono ?_
                          rintro e w93 ⟨rfl, hb⟩
                          have HS2_ := (hb.cell (World.block_lt_of_cell? _ _ (hHeld.2.2))).trans (hHeld.2.2)
                          refine ⟨_, rfl, ?_⟩
                          have n0_ := Aside0.mk (Kd.R_below (by (with_reducible repeat (first | apply Kd.R_alloc | apply Kd.R_drewN | apply Kd.R_drew)); exact HO_11.out) hb)
                          have n1_ := Aside0.mk (blk_below (g := gb231) (o := .cells #[.string t228, .string t229] 35 (0, 0)) (by (with_reducible repeat (first | refine blk_drewN ?_ _ | refine blk_drew ?_ | refine blk_alloc ?_ _)); exact BK231.out) hb)
                          have n2_ := Aside0.mk (blk_below (g := gb237) (o := .cells #[.string t232, .string t233] 35 (0, 0)) (by (with_reducible repeat (first | refine blk_drewN ?_ _ | refine blk_drew ?_ | refine blk_alloc ?_ _)); exact BK237.out) hb)
                          have n3_ := Aside0.mk (blk_below (g := gb238) (o := .cells #[.string t234, .string t235] 35 (0, 0)) (by (with_reducible repeat (first | refine blk_drewN ?_ _ | refine blk_drew ?_ | refine blk_alloc ?_ _)); exact BK238.out) hb)
                          have n4_ := Aside0.mk (blk_below (g := gb244) (o := .cells #[.string t239, .string t240] 35 (0, 0)) (by (with_reducible repeat (first | refine blk_drewN ?_ _ | refine blk_drew ?_ | refine blk_alloc ?_ _)); exact BK244.out) hb)
                          have n5_ := Aside0.mk (blk_below (g := gb245) (o := .cells #[.string t241, .string t242] 35 (0, 0)) (by (with_reducible repeat (first | refine blk_drewN ?_ _ | refine blk_drew ?_ | refine blk_alloc ?_ _)); exact BK245.out) hb)
                          have n6_ := Aside0.mk (below_step (by repeat (first | (with_reducible first | exact HB.out | apply below_alloc | apply pw_below_drewN | apply below_drew1 | refine below_set ?_ GE231.out | refine below_set ?_ GE237.out | refine below_set ?_ GE238.out | refine below_set ?_ GE244.out | refine below_set ?_ GE245.out) | exact HB.out)) hb)
                          clear HO_11
                          clear BK231
                          clear BK237
                          clear BK238
                          clear BK244
                          clear BK245
                          clear HB
                          have HO_11 := n0_
                          have BK231 := n1_
                          have BK237 := n2_
                          have BK238 := n3_
                          have BK244 := n4_
                          have BK245 := n5_
                          have HB := n6_
                          clear n0_ n1_ n2_ n3_ n4_ n5_ n6_
                          (try clear hb)
                          (try clear hb2)
                          (try clear hk)
                          (try clear hi)
                          refine hK.out _ _ ⟨(blk_cell BK237.out 0).trans rfl, (blk_cell BK237.out 1).trans rfl, HS2_⟩ (fun hHeld => ?_)
                          clear hK K
                          refine norm_ (a' := ?_) ?_ ?_
                          rotate_left
                          · show Act.put _ (some 79) _ = _
                            simp only [Act.put, List.setIfInBounds_toArray, List.set_cons_zero, List.set_cons_succ, i64_w, i32_w]
                            rfl
                          refine pure_ (i := 6) (N := some 13) (v := ?_) (a' := ?_) #[true, true, true, true, true, true, true] rfl rfl (by kernel_rfl) (fun _ _ _ h => h) (Or.inl ⟨by rfl, ?_⟩) ?_ ?_
                          rotate_left
                          · intro w'
                            go_simp
                            with_reducible rfl
                          rotate_left
                          · simp only [Act.put, List.setIfInBounds_toArray, List.set_cons_zero, List.set_cons_succ, i64_w, i32_w]
                            rfl
                          refine done_ (by kernel_rfl) ?_
                          try go_wp2
                          have n0_ := Aside0.mk (Kd.R_drew HO_11.out)
                          have n1_ := Aside0.mk (blk_drew BK231.out)
                          have n2_ := Aside0.mk (blk_drew BK237.out)
                          have n3_ := Aside0.mk (blk_drew BK238.out)
                          have n4_ := Aside0.mk (blk_drew BK244.out)
                          have n5_ := Aside0.mk (blk_drew BK245.out)
                          have n6_ := Aside0.mk (below_drew1 HB.out)
                          clear HO_11
                          clear BK231
                          clear BK237
                          clear BK238
                          clear BK244
                          clear BK245
                          clear HB
                          have HO_11 := n0_
                          have BK231 := n1_
                          have BK237 := n2_
                          have BK238 := n3_
                          have BK244 := n4_
                          have BK245 := n5_
                          have HB := n6_
                          clear n0_ n1_ n2_ n3_ n4_ n5_ n6_
                          have p256 : 0 ≤ (x12_2 : Int) := of_decide_eq_true (by first | (with_reducible assumption) | assumption)
                          have q256 : x12_2 < (t247.length : Int) := of_decide_eq_true (by first | (with_reducible assumption) | assumption)
                          obtain ⟨ad256, e256, hx256_0⟩ := Kd.at_string (Kd.R_reads' HO_11.out).2.2 x12_2 p256 q256
                          obtain rfl : ad254 = ad256 := (by injection e256)
                          replace p256 := eq_true p256
                          replace q256 := eq_true q256
                          refine start_ (n := 7) (S := fun w' => w'.cell? ⟨gb238, 0, none⟩ = some (.string t234) ∧ w'.cell? ⟨gb238, 1, none⟩ = some (.string t235) ∧ w'.cell? (ad254.add (x12_2).toNat) = some (.string (rdOf ByteArray.empty t247 x12_2))) (ds := []) #[false, false, false, false, false, false, false] (by kernel_rfl) rfl rfl ⟨(blk_cell BK238.out 0).trans rfl, (blk_cell BK238.out 1).trans rfl, hx256_0⟩ (fun hHeld => ?_)
                          generalize w93.drew = w94 at HO_11 BK231 BK237 BK238 BK244 BK245 HB hx256_0 hHeld ⊢
                          refine pure_ (i := 1) (N := some 81) (v := ?_) (a' := ?_) #[false, true, false, false, false, false, false] rfl rfl (by kernel_rfl) (fun _ _ _ h => h) (Or.inl ⟨by rfl, ?_⟩) ?_ ?_
                          rotate_left
                          · intro w'
                            go_simp
                            with_reducible rfl
                          rotate_left
                          · simp only [Act.put, List.setIfInBounds_toArray, List.set_cons_zero, List.set_cons_succ, i64_w, i32_w]
                            rfl
                          refine pure_ (i := 2) (N := some 82) (v := ?_) (a' := ?_) #[false, true, true, false, false, false, false] rfl rfl (by kernel_rfl) (fun _ _ _ h => h) (Or.inl ⟨by rfl, ?_⟩) ?_ ?_
                          rotate_left
                          · intro w'
                            go_simp
                            with_reducible rfl
                          rotate_left
                          · simp only [Act.put, List.setIfInBounds_toArray, List.set_cons_zero, List.set_cons_succ, i64_w, i32_w]
                            rfl
                          refine pure_ (i := 3) (N := some 83) (v := ?_) (a' := ?_) #[false, true, true, true, false, false, false] rfl rfl (by kernel_rfl) (fun _ _ _ h => h) (Or.inl ⟨by rfl, ?_⟩) ?_ ?_
                          rotate_left
                          · intro w'
                            go_simp
                            with_reducible rfl
                          rotate_left
                          · simp only [Act.put, List.setIfInBounds_toArray, List.set_cons_zero, List.set_cons_succ, i64_w, i32_w]
                            rfl
                          refine take_ (i := 0) (N := some 80) (v := ?_) (a' := ?_) #[true, true, true, true, false, false, false] rfl rfl (by kernel_rfl) (fun _ _ _ h => h) (Or.inl ⟨by rfl, ?_⟩) hHeld ?_ ?_
                          rotate_left
                          · rintro w' ⟨s0, s1, s2⟩
                            go_simp
                            with_reducible rfl
                          rotate_left
                          · simp only [Act.put, List.setIfInBounds_toArray, List.set_cons_zero, List.set_cons_succ, i64_w, i32_w]
                            rfl
                          refine take_ (i := 4) (N := some 84) (v := ?_) (a' := ?_) #[true, true, true, true, true, false, false] rfl rfl (by kernel_rfl) (fun _ _ _ h => h) (Or.inl ⟨by rfl, ?_⟩) hHeld ?_ ?_
                          rotate_left
                          · rintro w' ⟨s0, s1, s2⟩
                            go_simp
                            with_reducible rfl
                          rotate_left
                          · simp only [Act.put, List.setIfInBounds_toArray, List.set_cons_zero, List.set_cons_succ, i64_w, i32_w]
                            rfl
                          refine one_ (i := 5) (N := some 85) #[true, true, true, true, true, true, false] rfl rfl (by kernel_rfl) (by decide) (fun K hK => ?_)
                          refine goes_ Try.func30 (by kernel_rfl) rfl #[.agg #[.string t234, .string t235], .string (rdOf ByteArray.empty t247 x12_2)] (by rfl) rfl rfl (by (try simp only [List.map_toArray, List.map_cons, List.map_nil]); first | done | rfl | (simp only [List.length_drop, List.length_take]; rfl)) ?_
                          with_reducible refine (impl_IntervalHas.calls k2 t234 t235 (rdOf ByteArray.empty t247 x12_2) false _ A86.out).mono ?_
                          rintro e w95 ⟨rfl, hb⟩
                          have HS2_ := (hb.cell (World.block_lt_of_cell? _ _ (hHeld.2.2))).trans (hHeld.2.2)
                          refine ⟨_, rfl, ?_⟩
                          have n0_ := Aside0.mk (Kd.R_below (by (with_reducible repeat (first | apply Kd.R_alloc | apply Kd.R_drewN | apply Kd.R_drew)); exact HO_11.out) hb)
                          have n1_ := Aside0.mk (blk_below (g := gb231) (o := .cells #[.string t228, .string t229] 35 (0, 0)) (by (with_reducible repeat (first | refine blk_drewN ?_ _ | refine blk_drew ?_ | refine blk_alloc ?_ _)); exact BK231.out) hb)
                          have n2_ := Aside0.mk (blk_below (g := gb237) (o := .cells #[.string t232, .string t233] 35 (0, 0)) (by (with_reducible repeat (first | refine blk_drewN ?_ _ | refine blk_drew ?_ | refine blk_alloc ?_ _)); exact BK237.out) hb)
                          have n3_ := Aside0.mk (blk_below (g := gb238) (o := .cells #[.string t234, .string t235] 35 (0, 0)) (by (with_reducible repeat (first | refine blk_drewN ?_ _ | refine blk_drew ?_ | refine blk_alloc ?_ _)); exact BK238.out) hb)
                          have n4_ := Aside0.mk (blk_below (g := gb244) (o := .cells #[.string t239, .string t240] 35 (0, 0)) (by (with_reducible repeat (first | refine blk_drewN ?_ _ | refine blk_drew ?_ | refine blk_alloc ?_ _)); exact BK244.out) hb)
                          have n5_ := Aside0.mk (blk_below (g := gb245) (o := .cells #[.string t241, .string t242] 35 (0, 0)) (by (with_reducible repeat (first | refine blk_drewN ?_ _ | refine blk_drew ?_ | refine blk_alloc ?_ _)); exact BK245.out) hb)
                          have n6_ := Aside0.mk (below_step (by repeat (first | (with_reducible first | exact HB.out | apply below_alloc | apply pw_below_drewN | apply below_drew1 | refine below_set ?_ GE231.out | refine below_set ?_ GE237.out | refine below_set ?_ GE238.out | refine below_set ?_ GE244.out | refine below_set ?_ GE245.out) | exact HB.out)) hb)
                          clear HO_11
                          clear BK231
                          clear BK237
                          clear BK238
                          clear BK244
                          clear BK245
                          clear HB
                          have HO_11 := n0_
                          have BK231 := n1_
                          have BK237 := n2_
                          have BK238 := n3_
                          have BK244 := n4_
                          have BK245 := n5_
                          have HB := n6_
                          clear n0_ n1_ n2_ n3_ n4_ n5_ n6_
                          (try clear hb)
                          (try clear hb2)
                          (try clear hk)
                          (try clear hi)
                          refine hK.out _ _ ⟨(blk_cell BK238.out 0).trans rfl, (blk_cell BK238.out 1).trans rfl, HS2_⟩ (fun hHeld => ?_)
                          clear hK K
                          refine norm_ (a' := ?_) ?_ ?_
                          rotate_left
                          · show Act.put _ (some 85) _ = _
                            simp only [Act.put, List.setIfInBounds_toArray, List.set_cons_zero, List.set_cons_succ, i64_w, i32_w]
                            rfl
                          refine pure_ (i := 6) (N := some 14) (v := ?_) (a' := ?_) #[true, true, true, true, true, true, true] rfl rfl (by kernel_rfl) (fun _ _ _ h => h) (Or.inl ⟨by rfl, ?_⟩) ?_ ?_
                          rotate_left
                          · intro w'
                            go_simp
                            with_reducible rfl
                          rotate_left
                          · simp only [Act.put, List.setIfInBounds_toArray, List.set_cons_zero, List.set_cons_succ, i64_w, i32_w]
                            rfl
                          refine done_ (by kernel_rfl) ?_
                          try go_wp2
                          have n0_ := Aside0.mk (Kd.R_drew HO_11.out)
                          have n1_ := Aside0.mk (blk_drew BK231.out)
                          have n2_ := Aside0.mk (blk_drew BK237.out)
                          have n3_ := Aside0.mk (blk_drew BK238.out)
                          have n4_ := Aside0.mk (blk_drew BK244.out)
                          have n5_ := Aside0.mk (blk_drew BK245.out)
                          have n6_ := Aside0.mk (below_drew1 HB.out)
                          clear HO_11
                          clear BK231
                          clear BK237
                          clear BK238
                          clear BK244
                          clear BK245
                          clear HB
                          have HO_11 := n0_
                          have BK231 := n1_
                          have BK237 := n2_
                          have BK238 := n3_
                          have BK244 := n4_
                          have BK245 := n5_
                          have HB := n6_
                          clear n0_ n1_ n2_ n3_ n4_ n5_ n6_
                          have p258 : 0 ≤ (x12_2 : Int) := of_decide_eq_true (by first | (with_reducible assumption) | assumption)
                          have q258 : x12_2 < (t247.length : Int) := of_decide_eq_true (by first | (with_reducible assumption) | assumption)
                          obtain ⟨ad258, e258, hx258_0⟩ := Kd.at_string (Kd.R_reads' HO_11.out).2.2 x12_2 p258 q258
                          obtain rfl : ad254 = ad258 := (by injection e258)
                          replace p258 := eq_true p258
                          replace q258 := eq_true q258
                          refine start_ (n := 17) (S := fun w' => w'.cell? ⟨gb231, 0, none⟩ = some (.string t228) ∧ w'.cell? ⟨gb231, 1, none⟩ = some (.string t229) ∧ w'.cell? (ad254.add (x12_2).toNat) = some (.string (rdOf ByteArray.empty t247 x12_2))) (ds := []) #[false, false, false, false, false, false, false, false, false, false, false, false, false, false, false, false, false] (by kernel_rfl) rfl rfl ⟨(blk_cell BK231.out 0).trans rfl, (blk_cell BK231.out 1).trans rfl, hx258_0⟩ (fun hHeld => ?_); refine with_tabW laws_FnIntervalCut.tab16 laws_FnIntervalCut.bits16 (fun HT_ HW_ => ?_)
                          generalize w95.drew = w96 at HO_11 BK231 BK237 BK238 BK244 BK245 HB hx258_0 hHeld ⊢
                          refine pure_ (i := 0) (N := some 86) (v := ?_) (a' := ?_) #[true, false, false, false, false, false, false, false, false, false, false, false, false, false, false, false, false] rfl rfl (any_of HT_.out (by kernel_rfl)) (fun _ _ _ h => h) (Or.inl ⟨by rfl, ?_⟩) ?_ ?_
                          rotate_left
                          · intro w'
                            go_simp
                            with_reducible rfl
                          rotate_left
                          · simp only [Act.put, List.setIfInBounds_toArray, List.set_cons_zero, List.set_cons_succ, i64_w, i32_w]
                            rfl
                          refine pure_ (i := 1) (N := some 87) (v := ?_) (a' := ?_) #[true, true, false, false, false, false, false, false, false, false, false, false, false, false, false, false, false] rfl rfl (any_of HT_.out (by kernel_rfl)) (fun _ _ _ h => h) (Or.inl ⟨by rfl, ?_⟩) ?_ ?_
                          rotate_left
                          · intro w'
                            go_simp
                            with_reducible rfl
                          rotate_left
                          · simp only [Act.put, List.setIfInBounds_toArray, List.set_cons_zero, List.set_cons_succ, i64_w, i32_w]
                            rfl
                          refine pure_ (i := 2) (N := some 88) (v := ?_) (a' := ?_) #[true, true, true, false, false, false, false, false, false, false, false, false, false, false, false, false, false] rfl rfl (any_of HT_.out (by kernel_rfl)) (fun _ _ _ h => h) (Or.inl ⟨by rfl, ?_⟩) ?_ ?_
                          rotate_left
                          · intro w'
                            go_simp
                            with_reducible rfl
                          rotate_left
                          · simp only [Act.put, List.setIfInBounds_toArray, List.set_cons_zero, List.set_cons_succ, i64_w, i32_w]
                            rfl
                          refine pure_ (i := 3) (N := some 89) (v := ?_) (a' := ?_) #[true, true, true, true, false, false, false, false, false, false, false, false, false, false, false, false, false] rfl rfl (any_of HT_.out (by kernel_rfl)) (fun _ _ _ h => h) (Or.inl ⟨by rfl, ?_⟩) ?_ ?_
                          rotate_left
                          · intro w'
                            go_simp
                            with_reducible rfl
                          rotate_left
                          · simp only [Act.put, List.setIfInBounds_toArray, List.set_cons_zero, List.set_cons_succ, i64_w, i32_w]
                            rfl
                          refine pure_ (i := 4) (N := some 90) (v := ?_) (a' := ?_) #[true, true, true, true, true, false, false, false, false, false, false, false, false, false, false, false, false] rfl rfl (any_of HT_.out (by kernel_rfl)) (fun _ _ _ h => h) (Or.inl ⟨by rfl, ?_⟩) ?_ ?_
                          rotate_left
                          · intro w'
                            go_simp
                            with_reducible rfl
                          rotate_left
                          · simp only [Act.put, List.setIfInBounds_toArray, List.set_cons_zero, List.set_cons_succ, i64_w, i32_w]
                            rfl
                          refine pure_ (i := 5) (N := some 91) (v := ?_) (a' := ?_) #[true, true, true, true, true, true, false, false, false, false, false, false, false, false, false, false, false] rfl rfl (any_of HT_.out (by kernel_rfl)) (fun _ _ _ h => h) (Or.inl ⟨by rfl, ?_⟩) ?_ ?_
                          rotate_left
                          · intro w'
                            go_simp
                            with_reducible rfl
                          rotate_left
                          · simp only [Act.put, List.setIfInBounds_toArray, List.set_cons_zero, List.set_cons_succ, i64_w, i32_w]
                            rfl
                          refine pure_ (i := 6) (N := some 92) (v := ?_) (a' := ?_) #[true, true, true, true, true, true, true, false, false, false, false, false, false, false, false, false, false] rfl rfl (any_of HT_.out (by kernel_rfl)) (fun _ _ _ h => h) (Or.inl ⟨by rfl, ?_⟩) ?_ ?_
                          rotate_left
                          · intro w'
                            go_simp
                            with_reducible rfl
                          rotate_left
                          · simp only [Act.put, List.setIfInBounds_toArray, List.set_cons_zero, List.set_cons_succ, i64_w, i32_w]
                            rfl
                          refine pure_ (i := 7) (N := some 93) (v := undef) (a' := ?_) #[true, true, true, true, true, true, true, true, false, false, false, false, false, false, false, false, false] rfl rfl (any_of HT_.out (by kernel_rfl)) (fun _ _ _ h => h) (Or.inr ⟨by rfl, rfl⟩) ?_ ?_
                          rotate_left
                          · simp only [Act.put, List.setIfInBounds_toArray, List.set_cons_zero, List.set_cons_succ, i64_w, i32_w]
                            rfl
                          refine pure_ (i := 8) (N := some 94) (v := ?_) (a' := ?_) #[true, true, true, true, true, true, true, true, true, false, false, false, false, false, false, false, false] rfl rfl (any_of HT_.out (by kernel_rfl)) (fun _ _ _ h => h) (Or.inl ⟨by rfl, ?_⟩) ?_ ?_
                          rotate_left
                          · intro w'
                            go_simp
                            with_reducible rfl
                          rotate_left
                          · simp only [Act.put, List.setIfInBounds_toArray, List.set_cons_zero, List.set_cons_succ, i64_w, i32_w]
                            rfl
                          refine pure_ (i := 10) (N := some 96) (v := ?_) (a' := ?_) #[true, true, true, true, true, true, true, true, true, false, true, false, false, false, false, false, false] rfl rfl (any_of HT_.out (by kernel_rfl)) (fun _ _ _ h => h) (Or.inl ⟨by rfl, ?_⟩) ?_ ?_
                          rotate_left
                          · intro w'
                            go_simp
                            with_reducible rfl
                          rotate_left
                          · simp only [Act.put, List.setIfInBounds_toArray, List.set_cons_zero, List.set_cons_succ, i64_w, i32_w]
                            rfl
                          refine pure_ (i := 11) (N := some 97) (v := ?_) (a' := ?_) #[true, true, true, true, true, true, true, true, true, false, true, true, false, false, false, false, false] rfl rfl (any_of HT_.out (by kernel_rfl)) (fun _ _ _ h => h) (Or.inl ⟨by rfl, ?_⟩) ?_ ?_
                          rotate_left
                          · intro w'
                            go_simp
                            with_reducible rfl
                          rotate_left
                          · simp only [Act.put, List.setIfInBounds_toArray, List.set_cons_zero, List.set_cons_succ, i64_w, i32_w]
                            rfl
                          refine pure_ (i := 12) (N := some 98) (v := ?_) (a' := ?_) #[true, true, true, true, true, true, true, true, true, false, true, true, true, false, false, false, false] rfl rfl (any_of HT_.out (by kernel_rfl)) (fun _ _ _ h => h) (Or.inl ⟨by rfl, ?_⟩) ?_ ?_
                          rotate_left
                          · intro w'
                            go_simp
                            with_reducible rfl
                          rotate_left
                          · simp only [Act.put, List.setIfInBounds_toArray, List.set_cons_zero, List.set_cons_succ, i64_w, i32_w]
                            rfl
                          refine take_ (i := 9) (N := some 95) (v := ?_) (a' := ?_) #[true, true, true, true, true, true, true, true, true, true, true, true, true, false, false, false, false] rfl rfl (take_ofW HT_.out HW_.out (by kernel_rfl)) (fun _ _ _ h => h) (Or.inl ⟨by rfl, ?_⟩) hHeld ?_ ?_
                          rotate_left
                          · rintro w' ⟨s0, s1, s2⟩
                            go_simp
                            with_reducible rfl
                          rotate_left
                          · simp only [Act.put, List.setIfInBounds_toArray, List.set_cons_zero, List.set_cons_succ, i64_w, i32_w]
                            rfl
                          refine take_ (i := 13) (N := some 99) (v := ?_) (a' := ?_) #[true, true, true, true, true, true, true, true, true, true, true, true, true, true, false, false, false] rfl rfl (take_ofW HT_.out HW_.out (by kernel_rfl)) (fun _ _ _ h => h) (Or.inl ⟨by rfl, ?_⟩) hHeld ?_ ?_
                          rotate_left
                          · rintro w' ⟨s0, s1, s2⟩
                            go_simp
                            with_reducible rfl
                          rotate_left
                          · simp only [Act.put, List.setIfInBounds_toArray, List.set_cons_zero, List.set_cons_succ, i64_w, i32_w]
                            rfl
                          refine one_ (i := 14) (N := some 100) #[true, true, true, true, true, true, true, true, true, true, true, true, true, true, true, false, false] rfl rfl (one_of HT_.out (by kernel_rfl)) (by decide) (fun K hK => ?_)
                          refine goes_ Try.func30 (by kernel_rfl) rfl #[.agg #[.string t228, .string t229], .string (rdOf ByteArray.empty t247 x12_2)] (by rfl) rfl rfl (by (try simp only [List.map_toArray, List.map_cons, List.map_nil]); first | done | rfl | (simp only [List.length_drop, List.length_take]; rfl)) ?_
                          with_reducible refine (impl_IntervalHas.calls k2 t228 t229 (rdOf ByteArray.empty t247 x12_2) t259 _ A89.out).mono ?_
                          rintro e w97 ⟨rfl, hb⟩
                          have HS2_ := (hb.cell (World.block_lt_of_cell? _ _ (hHeld.2.2))).trans (hHeld.2.2)
                          refine ⟨_, rfl, ?_⟩
                          have n0_ := Aside0.mk (Kd.R_below (by (with_reducible repeat (first | apply Kd.R_alloc | apply Kd.R_drewN | apply Kd.R_drew)); exact HO_11.out) hb)
                          have n1_ := Aside0.mk (blk_below (g := gb231) (o := .cells #[.string t228, .string t229] 35 (0, 0)) (by (with_reducible repeat (first | refine blk_drewN ?_ _ | refine blk_drew ?_ | refine blk_alloc ?_ _)); exact BK231.out) hb)
                          have n2_ := Aside0.mk (blk_below (g := gb237) (o := .cells #[.string t232, .string t233] 35 (0, 0)) (by (with_reducible repeat (first | refine blk_drewN ?_ _ | refine blk_drew ?_ | refine blk_alloc ?_ _)); exact BK237.out) hb)
                          have n3_ := Aside0.mk (blk_below (g := gb238) (o := .cells #[.string t234, .string t235] 35 (0, 0)) (by (with_reducible repeat (first | refine blk_drewN ?_ _ | refine blk_drew ?_ | refine blk_alloc ?_ _)); exact BK238.out) hb)
                          have n4_ := Aside0.mk (blk_below (g := gb244) (o := .cells #[.string t239, .string t240] 35 (0, 0)) (by (with_reducible repeat (first | refine blk_drewN ?_ _ | refine blk_drew ?_ | refine blk_alloc ?_ _)); exact BK244.out) hb)
                          have n5_ := Aside0.mk (blk_below (g := gb245) (o := .cells #[.string t241, .string t242] 35 (0, 0)) (by (with_reducible repeat (first | refine blk_drewN ?_ _ | refine blk_drew ?_ | refine blk_alloc ?_ _)); exact BK245.out) hb)
                          have n6_ := Aside0.mk (below_step (by repeat (first | (with_reducible first | exact HB.out | apply below_alloc | apply pw_below_drewN | apply below_drew1 | refine below_set ?_ GE231.out | refine below_set ?_ GE237.out | refine below_set ?_ GE238.out | refine below_set ?_ GE244.out | refine below_set ?_ GE245.out) | exact HB.out)) hb)
                          clear HO_11
                          clear BK231
                          clear BK237
                          clear BK238
                          clear BK244
                          clear BK245
                          clear HB
                          have HO_11 := n0_
                          have BK231 := n1_
                          have BK237 := n2_
                          have BK238 := n3_
                          have BK244 := n4_
                          have BK245 := n5_
                          have HB := n6_
                          clear n0_ n1_ n2_ n3_ n4_ n5_ n6_
                          (try clear hb)
                          (try clear hb2)
                          (try clear hk)
                          (try clear hi)
                          refine hK.out _ _ ⟨(blk_cell BK231.out 0).trans rfl, (blk_cell BK231.out 1).trans rfl, HS2_⟩ (fun hHeld => ?_)
                          clear hK K
                          refine norm_ (a' := ?_) ?_ ?_
                          rotate_left
                          · show Act.put _ (some 100) _ = _
                            simp only [Act.put, List.setIfInBounds_toArray, List.set_cons_zero, List.set_cons_succ, i64_w, i32_w]
                            rfl
                          refine pure_ (i := 15) (N := some 101) (v := ?_) (a' := ?_) #[true, true, true, true, true, true, true, true, true, true, true, true, true, true, true, true, false] rfl rfl (any_of HT_.out (by kernel_rfl)) (fun _ _ _ h => h) (Or.inl ⟨by rfl, ?_⟩) ?_ ?_
                          rotate_left
                          · intro w'
                            go_simp
                            with_reducible rfl
                          rotate_left
                          · simp only [Act.put, List.setIfInBounds_toArray, List.set_cons_zero, List.set_cons_succ, i64_w, i32_w]
                            rfl
                          refine pure_ (i := 16) (N := some 102) (v := ?_) (a' := ?_) #[true, true, true, true, true, true, true, true, true, true, true, true, true, true, true, true, true] rfl rfl (any_of HT_.out (by kernel_rfl)) (fun _ _ _ h => h) (Or.inl ⟨by rfl, ?_⟩) ?_ ?_
                          rotate_left
                          · intro w'
                            go_simp
                            with_reducible rfl
                          rotate_left
                          · simp only [Act.put, List.setIfInBounds_toArray, List.set_cons_zero, List.set_cons_succ, i64_w, i32_w]
                            rfl
                          refine done_ (done_of HT_.out (by kernel_rfl)) ?_
                          try go_wp2
                          go_roundg k2
                          case measure => have := HJ5.out; have := HK2.out; omega
                          case rel => exact ⟨(wrap64 (x12_2 + 1)), (by first | rfl | (simp; done) | (simp [bne]; done) | (simp [*]; done)), H', ⟨by have := HJ5.out; have := HK2.out; omega⟩, ⟨by (with_reducible repeat (first | apply Kd.R_alloc | apply Kd.R_drewN | apply Kd.R_drew)); exact HO_11.out⟩, ⟨by (with_reducible repeat (first | refine blk_drewN ?_ _ | refine blk_drew ?_ | refine blk_alloc ?_ _)); exact BK231.out⟩, ⟨by (with_reducible repeat (first | refine blk_drewN ?_ _ | refine blk_drew ?_ | refine blk_alloc ?_ _)); exact BK237.out⟩, ⟨by (with_reducible repeat (first | refine blk_drewN ?_ _ | refine blk_drew ?_ | refine blk_alloc ?_ _)); exact BK238.out⟩, ⟨by (with_reducible repeat (first | refine blk_drewN ?_ _ | refine blk_drew ?_ | refine blk_alloc ?_ _)); exact BK244.out⟩, ⟨by (with_reducible repeat (first | refine blk_drewN ?_ _ | refine blk_drew ?_ | refine blk_alloc ?_ _)); exact BK245.out⟩, ⟨by repeat (first | (with_reducible first | exact HB.out | apply below_alloc | apply pw_below_drewN | apply below_drew1 | refine below_set ?_ GE231.out | refine below_set ?_ GE237.out | refine below_set ?_ GE238.out | refine below_set ?_ GE244.out | refine below_set ?_ GE245.out) | exact HB.out)⟩⟩
                    · replace c87 := Bool.eq_false_iff.mpr c87
                      subst c87
                      have H1 : ((impl_IntervalHas.f k2 t228 t229 (rdOf ByteArray.empty t247 x12_2)).bind fun t261 => (if (t257 != t261) = true then (none) else (laws_FnIntervalCut.l0 k2 t247 (wrap64 (x12_2 + 1)) t228 t229 t232 t233 t234 t235))) = some r := by rw [if_neg (show ¬ (false = true) by decide)] at H; exact H
                      clear H
                      have H := H1
                      clear H1
                      replace H := Option.bind_eq_some_iff.mp H
                      obtain ⟨t261, A980, H⟩ := H
                      replace H : (if (t257 != t261) = true then (none) else (laws_FnIntervalCut.l0 k2 t247 (wrap64 (x12_2 + 1)) t228 t229 t232 t233 t234 t235)) = some r := H
                      have A98 := Aside0.mk A980
                      clear A980
                      by_cases c99 : (t257 != t261) = true
                      · rw [if_pos c99] at H
                        exact absurd H (by simp)
                      · rw [if_neg c99] at H
                        have c99b0 : (t257 != t261) = false := by simpa using c99
                        (try (have c99b1 : decide (t257 = t261) = true := by simpa using c99))
                        (try (have c99b2 : (t257 == t261) = true := by simpa using c99))
                        clear c99
                        have H' := Aside0.mk H
                        clear H
                        obtain ⟨Ao100, co100, eo100⟩ := Kd.R_slice HO_11.out
                        subst eo100
                        try go_wp2
                        have n0_ := Aside0.mk (Kd.R_drew HO_11.out)
                        have n1_ := Aside0.mk (blk_drew BK231.out)
                        have n2_ := Aside0.mk (blk_drew BK237.out)
                        have n3_ := Aside0.mk (blk_drew BK238.out)
                        have n4_ := Aside0.mk (blk_drew BK244.out)
                        have n5_ := Aside0.mk (blk_drew BK245.out)
                        have n6_ := Aside0.mk (below_drew1 HB.out)
                        clear HO_11
                        clear BK231
                        clear BK237
                        clear BK238
                        clear BK244
                        clear BK245
                        clear HB
                        have HO_11 := n0_
                        have BK231 := n1_
                        have BK237 := n2_
                        have BK238 := n3_
                        have BK244 := n4_
                        have BK245 := n5_
                        have HB := n6_
                        clear n0_ n1_ n2_ n3_ n4_ n5_ n6_
                        have p254 : 0 ≤ (x12_2 : Int) := of_decide_eq_true (by first | (with_reducible assumption) | assumption)
                        have q254 : x12_2 < (t247.length : Int) := of_decide_eq_true (by first | (with_reducible assumption) | assumption)
                        obtain ⟨ad254, e254, hx254_0⟩ := Kd.at_string (Kd.R_reads' HO_11.out).2.2 x12_2 p254 q254
                        cases e254
                        replace p254 := eq_true p254
                        replace q254 := eq_true q254
                        refine start_ (n := 7) (S := fun w' => w'.cell? ⟨gb237, 0, none⟩ = some (.string t232) ∧ w'.cell? ⟨gb237, 1, none⟩ = some (.string t233) ∧ w'.cell? (ad254.add (x12_2).toNat) = some (.string (rdOf ByteArray.empty t247 x12_2))) (ds := []) #[false, false, false, false, false, false, false] (by kernel_rfl) rfl rfl ⟨(blk_cell BK237.out 0).trans rfl, (blk_cell BK237.out 1).trans rfl, hx254_0⟩ (fun hHeld => ?_)
                        generalize wr.drew = w101 at HO_11 BK231 BK237 BK238 BK244 BK245 HB hx254_0 hHeld ⊢
                        refine pure_ (i := 1) (N := some 75) (v := ?_) (a' := ?_) #[false, true, false, false, false, false, false] rfl rfl (by kernel_rfl) (fun _ _ _ h => h) (Or.inl ⟨by rfl, ?_⟩) ?_ ?_
                        rotate_left
                        · intro w'
                          go_simp
                          with_reducible rfl
                        rotate_left
                        · simp only [Act.put, List.setIfInBounds_toArray, List.set_cons_zero, List.set_cons_succ, i64_w, i32_w]
                          rfl
                        refine pure_ (i := 2) (N := some 76) (v := ?_) (a' := ?_) #[false, true, true, false, false, false, false] rfl rfl (by kernel_rfl) (fun _ _ _ h => h) (Or.inl ⟨by rfl, ?_⟩) ?_ ?_
                        rotate_left
                        · intro w'
                          go_simp
                          with_reducible rfl
                        rotate_left
                        · simp only [Act.put, List.setIfInBounds_toArray, List.set_cons_zero, List.set_cons_succ, i64_w, i32_w]
                          rfl
                        refine pure_ (i := 3) (N := some 77) (v := ?_) (a' := ?_) #[false, true, true, true, false, false, false] rfl rfl (by kernel_rfl) (fun _ _ _ h => h) (Or.inl ⟨by rfl, ?_⟩) ?_ ?_
                        rotate_left
                        · intro w'
                          go_simp
                          with_reducible rfl
                        rotate_left
                        · simp only [Act.put, List.setIfInBounds_toArray, List.set_cons_zero, List.set_cons_succ, i64_w, i32_w]
                          rfl
                        refine take_ (i := 0) (N := some 74) (v := ?_) (a' := ?_) #[true, true, true, true, false, false, false] rfl rfl (by kernel_rfl) (fun _ _ _ h => h) (Or.inl ⟨by rfl, ?_⟩) hHeld ?_ ?_
                        rotate_left
                        · rintro w' ⟨s0, s1, s2⟩
                          go_simp
                          with_reducible rfl
                        rotate_left
                        · simp only [Act.put, List.setIfInBounds_toArray, List.set_cons_zero, List.set_cons_succ, i64_w, i32_w]
                          rfl
                        refine take_ (i := 4) (N := some 78) (v := ?_) (a' := ?_) #[true, true, true, true, true, false, false] rfl rfl (by kernel_rfl) (fun _ _ _ h => h) (Or.inl ⟨by rfl, ?_⟩) hHeld ?_ ?_
                        rotate_left
                        · rintro w' ⟨s0, s1, s2⟩
                          go_simp
                          with_reducible rfl
                        rotate_left
                        · simp only [Act.put, List.setIfInBounds_toArray, List.set_cons_zero, List.set_cons_succ, i64_w, i32_w]
                          rfl
                        refine one_ (i := 5) (N := some 79) #[true, true, true, true, true, true, false] rfl rfl (by kernel_rfl) (by decide) (fun K hK => ?_)
                        refine goes_ Try.func30 (by kernel_rfl) rfl #[.agg #[.string t232, .string t233], .string (rdOf ByteArray.empty t247 x12_2)] (by rfl) rfl rfl (by (try simp only [List.map_toArray, List.map_cons, List.map_nil]); first | done | rfl | (simp only [List.length_drop, List.length_take]; rfl)) ?_
                        with_reducible refine (impl_IntervalHas.calls k2 t232 t233 (rdOf ByteArray.empty t247 x12_2) false _ A85.out).mono ?_
                        rintro e w102 ⟨rfl, hb⟩
                        have HS2_ := (hb.cell (World.block_lt_of_cell? _ _ (hHeld.2.2))).trans (hHeld.2.2)
                        refine ⟨_, rfl, ?_⟩
                        have n0_ := Aside0.mk (Kd.R_below (by (with_reducible repeat (first | apply Kd.R_alloc | apply Kd.R_drewN | apply Kd.R_drew)); exact HO_11.out) hb)
                        have n1_ := Aside0.mk (blk_below (g := gb231) (o := .cells #[.string t228, .string t229] 35 (0, 0)) (by (with_reducible repeat (first | refine blk_drewN ?_ _ | refine blk_drew ?_ | refine blk_alloc ?_ _)); exact BK231.out) hb)
                        have n2_ := Aside0.mk (blk_below (g := gb237) (o := .cells #[.string t232, .string t233] 35 (0, 0)) (by (with_reducible repeat (first | refine blk_drewN ?_ _ | refine blk_drew ?_ | refine blk_alloc ?_ _)); exact BK237.out) hb)
                        have n3_ := Aside0.mk (blk_below (g := gb238) (o := .cells #[.string t234, .string t235] 35 (0, 0)) (by (with_reducible repeat (first | refine blk_drewN ?_ _ | refine blk_drew ?_ | refine blk_alloc ?_ _)); exact BK238.out) hb)
                        have n4_ := Aside0.mk (blk_below (g := gb244) (o := .cells #[.string t239, .string t240] 35 (0, 0)) (by (with_reducible repeat (first | refine blk_drewN ?_ _ | refine blk_drew ?_ | refine blk_alloc ?_ _)); exact BK244.out) hb)
                        have n5_ := Aside0.mk (blk_below (g := gb245) (o := .cells #[.string t241, .string t242] 35 (0, 0)) (by (with_reducible repeat (first | refine blk_drewN ?_ _ | refine blk_drew ?_ | refine blk_alloc ?_ _)); exact BK245.out) hb)
                        have n6_ := Aside0.mk (below_step (by repeat (first | (with_reducible first | exact HB.out | apply below_alloc | apply pw_below_drewN | apply below_drew1 | refine below_set ?_ GE231.out | refine below_set ?_ GE237.out | refine below_set ?_ GE238.out | refine below_set ?_ GE244.out | refine below_set ?_ GE245.out) | exact HB.out)) hb)
                        clear HO_11
                        clear BK231
                        clear BK237
                        clear BK238
                        clear BK244
                        clear BK245
                        clear HB
                        have HO_11 := n0_
                        have BK231 := n1_
                        have BK237 := n2_
                        have BK238 := n3_
                        have BK244 := n4_
                        have BK245 := n5_
                        have HB := n6_
                        clear n0_ n1_ n2_ n3_ n4_ n5_ n6_
                        (try clear hb)
                        (try clear hb2)
                        (try clear hk)
                        (try clear hi)
                        refine hK.out _ _ ⟨(blk_cell BK237.out 0).trans rfl, (blk_cell BK237.out 1).trans rfl, HS2_⟩ (fun hHeld => ?_)
                        clear hK K
                        refine norm_ (a' := ?_) ?_ ?_
                        rotate_left
                        · show Act.put _ (some 79) _ = _
                          simp only [Act.put, List.setIfInBounds_toArray, List.set_cons_zero, List.set_cons_succ, i64_w, i32_w]
                          rfl
                        refine pure_ (i := 6) (N := some 13) (v := ?_) (a' := ?_) #[true, true, true, true, true, true, true] rfl rfl (by kernel_rfl) (fun _ _ _ h => h) (Or.inl ⟨by rfl, ?_⟩) ?_ ?_
                        rotate_left
                        · intro w'
                          go_simp
                          with_reducible rfl
                        rotate_left
                        · simp only [Act.put, List.setIfInBounds_toArray, List.set_cons_zero, List.set_cons_succ, i64_w, i32_w]
                          rfl
                        refine done_ (by kernel_rfl) ?_
                        try go_wp2
                        have n0_ := Aside0.mk (Kd.R_drew HO_11.out)
                        have n1_ := Aside0.mk (blk_drew BK231.out)
                        have n2_ := Aside0.mk (blk_drew BK237.out)
                        have n3_ := Aside0.mk (blk_drew BK238.out)
                        have n4_ := Aside0.mk (blk_drew BK244.out)
                        have n5_ := Aside0.mk (blk_drew BK245.out)
                        have n6_ := Aside0.mk (below_drew1 HB.out)
                        clear HO_11
                        clear BK231
                        clear BK237
                        clear BK238
                        clear BK244
                        clear BK245
                        clear HB
                        have HO_11 := n0_
                        have BK231 := n1_
                        have BK237 := n2_
                        have BK238 := n3_
                        have BK244 := n4_
                        have BK245 := n5_
                        have HB := n6_
                        clear n0_ n1_ n2_ n3_ n4_ n5_ n6_
                        have p256 : 0 ≤ (x12_2 : Int) := of_decide_eq_true (by first | (with_reducible assumption) | assumption)
                        have q256 : x12_2 < (t247.length : Int) := of_decide_eq_true (by first | (with_reducible assumption) | assumption)
                        obtain ⟨ad256, e256, hx256_0⟩ := Kd.at_string (Kd.R_reads' HO_11.out).2.2 x12_2 p256 q256
                        obtain rfl : ad254 = ad256 := (by injection e256)
                        replace p256 := eq_true p256
                        replace q256 := eq_true q256
                        refine start_ (n := 7) (S := fun w' => w'.cell? ⟨gb238, 0, none⟩ = some (.string t234) ∧ w'.cell? ⟨gb238, 1, none⟩ = some (.string t235) ∧ w'.cell? (ad254.add (x12_2).toNat) = some (.string (rdOf ByteArray.empty t247 x12_2))) (ds := []) #[false, false, false, false, false, false, false] (by kernel_rfl) rfl rfl ⟨(blk_cell BK238.out 0).trans rfl, (blk_cell BK238.out 1).trans rfl, hx256_0⟩ (fun hHeld => ?_)
                        generalize w102.drew = w103 at HO_11 BK231 BK237 BK238 BK244 BK245 HB hx256_0 hHeld ⊢
                        refine pure_ (i := 1) (N := some 81) (v := ?_) (a' := ?_) #[false, true, false, false, false, false, false] rfl rfl (by kernel_rfl) (fun _ _ _ h => h) (Or.inl ⟨by rfl, ?_⟩) ?_ ?_
                        rotate_left
                        · intro w'
                          go_simp
                          with_reducible rfl
                        rotate_left
                        · simp only [Act.put, List.setIfInBounds_toArray, List.set_cons_zero, List.set_cons_succ, i64_w, i32_w]
                          rfl
                        refine pure_ (i := 2) (N := some 82) (v := ?_) (a' := ?_) #[false, true, true, false, false, false, false] rfl rfl (by kernel_rfl) (fun _ _ _ h => h) (Or.inl ⟨by rfl, ?_⟩) ?_ ?_
                        rotate_left
                        · intro w'
                          go_simp
                          with_reducible rfl
                        rotate_left
                        · simp only [Act.put, List.setIfInBounds_toArray, List.set_cons_zero, List.set_cons_succ, i64_w, i32_w]
                          rfl
                        refine pure_ (i := 3) (N := some 83) (v := ?_) (a' := ?_) #[false, true, true, true, false, false, false] rfl rfl (by kernel_rfl) (fun _ _ _ h => h) (Or.inl ⟨by rfl, ?_⟩) ?_ ?_
                        rotate_left
                        · intro w'
                          go_simp
                          with_reducible rfl
                        rotate_left
                        · simp only [Act.put, List.setIfInBounds_toArray, List.set_cons_zero, List.set_cons_succ, i64_w, i32_w]
                          rfl
                        refine take_ (i := 0) (N := some 80) (v := ?_) (a' := ?_) #[true, true, true, true, false, false, false] rfl rfl (by kernel_rfl) (fun _ _ _ h => h) (Or.inl ⟨by rfl, ?_⟩) hHeld ?_ ?_
                        rotate_left
                        · rintro w' ⟨s0, s1, s2⟩
                          go_simp
                          with_reducible rfl
                        rotate_left
                        · simp only [Act.put, List.setIfInBounds_toArray, List.set_cons_zero, List.set_cons_succ, i64_w, i32_w]
                          rfl
                        refine take_ (i := 4) (N := some 84) (v := ?_) (a' := ?_) #[true, true, true, true, true, false, false] rfl rfl (by kernel_rfl) (fun _ _ _ h => h) (Or.inl ⟨by rfl, ?_⟩) hHeld ?_ ?_
                        rotate_left
                        · rintro w' ⟨s0, s1, s2⟩
                          go_simp
                          with_reducible rfl
                        rotate_left
                        · simp only [Act.put, List.setIfInBounds_toArray, List.set_cons_zero, List.set_cons_succ, i64_w, i32_w]
                          rfl
                        refine one_ (i := 5) (N := some 85) #[true, true, true, true, true, true, false] rfl rfl (by kernel_rfl) (by decide) (fun K hK => ?_)
                        refine goes_ Try.func30 (by kernel_rfl) rfl #[.agg #[.string t234, .string t235], .string (rdOf ByteArray.empty t247 x12_2)] (by rfl) rfl rfl (by (try simp only [List.map_toArray, List.map_cons, List.map_nil]); first | done | rfl | (simp only [List.length_drop, List.length_take]; rfl)) ?_
                        with_reducible refine (impl_IntervalHas.calls k2 t234 t235 (rdOf ByteArray.empty t247 x12_2) t257 _ A86.out).mono ?_
                        rintro e w104 ⟨rfl, hb⟩
                        have HS2_ := (hb.cell (World.block_lt_of_cell? _ _ (hHeld.2.2))).trans (hHeld.2.2)
                        refine ⟨_, rfl, ?_⟩
                        have n0_ := Aside0.mk (Kd.R_below (by (with_reducible repeat (first | apply Kd.R_alloc | apply Kd.R_drewN | apply Kd.R_drew)); exact HO_11.out) hb)
                        have n1_ := Aside0.mk (blk_below (g := gb231) (o := .cells #[.string t228, .string t229] 35 (0, 0)) (by (with_reducible repeat (first | refine blk_drewN ?_ _ | refine blk_drew ?_ | refine blk_alloc ?_ _)); exact BK231.out) hb)
                        have n2_ := Aside0.mk (blk_below (g := gb237) (o := .cells #[.string t232, .string t233] 35 (0, 0)) (by (with_reducible repeat (first | refine blk_drewN ?_ _ | refine blk_drew ?_ | refine blk_alloc ?_ _)); exact BK237.out) hb)
                        have n3_ := Aside0.mk (blk_below (g := gb238) (o := .cells #[.string t234, .string t235] 35 (0, 0)) (by (with_reducible repeat (first | refine blk_drewN ?_ _ | refine blk_drew ?_ | refine blk_alloc ?_ _)); exact BK238.out) hb)
                        have n4_ := Aside0.mk (blk_below (g := gb244) (o := .cells #[.string t239, .string t240] 35 (0, 0)) (by (with_reducible repeat (first | refine blk_drewN ?_ _ | refine blk_drew ?_ | refine blk_alloc ?_ _)); exact BK244.out) hb)
                        have n5_ := Aside0.mk (blk_below (g := gb245) (o := .cells #[.string t241, .string t242] 35 (0, 0)) (by (with_reducible repeat (first | refine blk_drewN ?_ _ | refine blk_drew ?_ | refine blk_alloc ?_ _)); exact BK245.out) hb)
                        have n6_ := Aside0.mk (below_step (by repeat (first | (with_reducible first | exact HB.out | apply below_alloc | apply pw_below_drewN | apply below_drew1 | refine below_set ?_ GE231.out | refine below_set ?_ GE237.out | refine below_set ?_ GE238.out | refine below_set ?_ GE244.out | refine below_set ?_ GE245.out) | exact HB.out)) hb)
                        clear HO_11
                        clear BK231
                        clear BK237
                        clear BK238
                        clear BK244
                        clear BK245
                        clear HB
                        have HO_11 := n0_
                        have BK231 := n1_
                        have BK237 := n2_
                        have BK238 := n3_
                        have BK244 := n4_
                        have BK245 := n5_
                        have HB := n6_
                        clear n0_ n1_ n2_ n3_ n4_ n5_ n6_
                        (try clear hb)
                        (try clear hb2)
                        (try clear hk)
                        (try clear hi)
                        refine hK.out _ _ ⟨(blk_cell BK238.out 0).trans rfl, (blk_cell BK238.out 1).trans rfl, HS2_⟩ (fun hHeld => ?_)
                        clear hK K
                        refine norm_ (a' := ?_) ?_ ?_
                        rotate_left
                        · show Act.put _ (some 85) _ = _
                          simp only [Act.put, List.setIfInBounds_toArray, List.set_cons_zero, List.set_cons_succ, i64_w, i32_w]
                          rfl
                        refine pure_ (i := 6) (N := some 14) (v := ?_) (a' := ?_) #[true, true, true, true, true, true, true] rfl rfl (by kernel_rfl) (fun _ _ _ h => h) (Or.inl ⟨by rfl, ?_⟩) ?_ ?_
                        rotate_left
                        · intro w'
                          go_simp
                          with_reducible rfl
                        rotate_left
                        · simp only [Act.put, List.setIfInBounds_toArray, List.set_cons_zero, List.set_cons_succ, i64_w, i32_w]
                          rfl
                        refine done_ (by kernel_rfl) ?_
                        try go_wp2
                        have n0_ := Aside0.mk (Kd.R_drew HO_11.out)
                        have n1_ := Aside0.mk (blk_drew BK231.out)
                        have n2_ := Aside0.mk (blk_drew BK237.out)
                        have n3_ := Aside0.mk (blk_drew BK238.out)
                        have n4_ := Aside0.mk (blk_drew BK244.out)
                        have n5_ := Aside0.mk (blk_drew BK245.out)
                        have n6_ := Aside0.mk (below_drew1 HB.out)
                        clear HO_11
                        clear BK231
                        clear BK237
                        clear BK238
                        clear BK244
                        clear BK245
                        clear HB
                        have HO_11 := n0_
                        have BK231 := n1_
                        have BK237 := n2_
                        have BK238 := n3_
                        have BK244 := n4_
                        have BK245 := n5_
                        have HB := n6_
                        clear n0_ n1_ n2_ n3_ n4_ n5_ n6_
                        have p260 : 0 ≤ (x12_2 : Int) := of_decide_eq_true (by first | (with_reducible assumption) | assumption)
                        have q260 : x12_2 < (t247.length : Int) := of_decide_eq_true (by first | (with_reducible assumption) | assumption)
                        obtain ⟨ad260, e260, hx260_0⟩ := Kd.at_string (Kd.R_reads' HO_11.out).2.2 x12_2 p260 q260
                        obtain rfl : ad254 = ad260 := (by injection e260)
                        replace p260 := eq_true p260
                        replace q260 := eq_true q260
                        refine start_ (n := 17) (S := fun w' => w'.cell? ⟨gb231, 0, none⟩ = some (.string t228) ∧ w'.cell? ⟨gb231, 1, none⟩ = some (.string t229) ∧ w'.cell? (ad254.add (x12_2).toNat) = some (.string (rdOf ByteArray.empty t247 x12_2))) (ds := []) #[false, false, false, false, false, false, false, false, false, false, false, false, false, false, false, false, false] (by kernel_rfl) rfl rfl ⟨(blk_cell BK231.out 0).trans rfl, (blk_cell BK231.out 1).trans rfl, hx260_0⟩ (fun hHeld => ?_); refine with_tabW laws_FnIntervalCut.tab16 laws_FnIntervalCut.bits16 (fun HT_ HW_ => ?_)
                        generalize w104.drew = w105 at HO_11 BK231 BK237 BK238 BK244 BK245 HB hx260_0 hHeld ⊢
                        refine pure_ (i := 0) (N := some 86) (v := ?_) (a' := ?_) #[true, false, false, false, false, false, false, false, false, false, false, false, false, false, false, false, false] rfl rfl (any_of HT_.out (by kernel_rfl)) (fun _ _ _ h => h) (Or.inl ⟨by rfl, ?_⟩) ?_ ?_
                        rotate_left
                        · intro w'
                          go_simp
                          with_reducible rfl
                        rotate_left
                        · simp only [Act.put, List.setIfInBounds_toArray, List.set_cons_zero, List.set_cons_succ, i64_w, i32_w]
                          rfl
                        refine pure_ (i := 1) (N := some 87) (v := ?_) (a' := ?_) #[true, true, false, false, false, false, false, false, false, false, false, false, false, false, false, false, false] rfl rfl (any_of HT_.out (by kernel_rfl)) (fun _ _ _ h => h) (Or.inl ⟨by rfl, ?_⟩) ?_ ?_
                        rotate_left
                        · intro w'
                          go_simp
                          with_reducible rfl
                        rotate_left
                        · simp only [Act.put, List.setIfInBounds_toArray, List.set_cons_zero, List.set_cons_succ, i64_w, i32_w]
                          rfl
                        refine pure_ (i := 2) (N := some 88) (v := undef) (a' := ?_) #[true, true, true, false, false, false, false, false, false, false, false, false, false, false, false, false, false] rfl rfl (any_of HT_.out (by kernel_rfl)) (fun _ _ _ h => h) (Or.inr ⟨by rfl, rfl⟩) ?_ ?_
                        rotate_left
                        · simp only [Act.put, List.setIfInBounds_toArray, List.set_cons_zero, List.set_cons_succ, i64_w, i32_w]
                          rfl
                        refine pure_ (i := 3) (N := some 89) (v := ?_) (a' := ?_) #[true, true, true, true, false, false, false, false, false, false, false, false, false, false, false, false, false] rfl rfl (any_of HT_.out (by kernel_rfl)) (fun _ _ _ h => h) (Or.inl ⟨by rfl, ?_⟩) ?_ ?_
                        rotate_left
                        · intro w'
                          go_simp
                          with_reducible rfl
                        rotate_left
                        · simp only [Act.put, List.setIfInBounds_toArray, List.set_cons_zero, List.set_cons_succ, i64_w, i32_w]
                          rfl
                        refine pure_ (i := 4) (N := some 90) (v := ?_) (a' := ?_) #[true, true, true, true, true, false, false, false, false, false, false, false, false, false, false, false, false] rfl rfl (any_of HT_.out (by kernel_rfl)) (fun _ _ _ h => h) (Or.inl ⟨by rfl, ?_⟩) ?_ ?_
                        rotate_left
                        · intro w'
                          go_simp
                          with_reducible rfl
                        rotate_left
                        · simp only [Act.put, List.setIfInBounds_toArray, List.set_cons_zero, List.set_cons_succ, i64_w, i32_w]
                          rfl
                        refine pure_ (i := 5) (N := some 91) (v := ?_) (a' := ?_) #[true, true, true, true, true, true, false, false, false, false, false, false, false, false, false, false, false] rfl rfl (any_of HT_.out (by kernel_rfl)) (fun _ _ _ h => h) (Or.inl ⟨by rfl, ?_⟩) ?_ ?_
                        rotate_left
                        · intro w'
                          go_simp
                          with_reducible rfl
                        rotate_left
                        · simp only [Act.put, List.setIfInBounds_toArray, List.set_cons_zero, List.set_cons_succ, i64_w, i32_w]
                          rfl
                        refine pure_ (i := 6) (N := some 92) (v := ?_) (a' := ?_) #[true, true, true, true, true, true, true, false, false, false, false, false, false, false, false, false, false] rfl rfl (any_of HT_.out (by kernel_rfl)) (fun _ _ _ h => h) (Or.inl ⟨by rfl, ?_⟩) ?_ ?_
                        rotate_left
                        · intro w'
                          go_simp
                          with_reducible rfl
                        rotate_left
                        · simp only [Act.put, List.setIfInBounds_toArray, List.set_cons_zero, List.set_cons_succ, i64_w, i32_w]
                          rfl
                        refine pure_ (i := 7) (N := some 93) (v := ?_) (a' := ?_) #[true, true, true, true, true, true, true, true, false, false, false, false, false, false, false, false, false] rfl rfl (any_of HT_.out (by kernel_rfl)) (fun _ _ _ h => h) (Or.inl ⟨by rfl, ?_⟩) ?_ ?_
                        rotate_left
                        · intro w'
                          go_simp
                          with_reducible rfl
                        rotate_left
                        · simp only [Act.put, List.setIfInBounds_toArray, List.set_cons_zero, List.set_cons_succ, i64_w, i32_w]
                          rfl
                        refine pure_ (i := 8) (N := some 94) (v := ?_) (a' := ?_) #[true, true, true, true, true, true, true, true, true, false, false, false, false, false, false, false, false] rfl rfl (any_of HT_.out (by kernel_rfl)) (fun _ _ _ h => h) (Or.inl ⟨by rfl, ?_⟩) ?_ ?_
                        rotate_left
                        · intro w'
                          go_simp
                          with_reducible rfl
                        rotate_left
                        · simp only [Act.put, List.setIfInBounds_toArray, List.set_cons_zero, List.set_cons_succ, i64_w, i32_w]
                          rfl
                        refine pure_ (i := 10) (N := some 96) (v := ?_) (a' := ?_) #[true, true, true, true, true, true, true, true, true, false, true, false, false, false, false, false, false] rfl rfl (any_of HT_.out (by kernel_rfl)) (fun _ _ _ h => h) (Or.inl ⟨by rfl, ?_⟩) ?_ ?_
                        rotate_left
                        · intro w'
                          go_simp
                          with_reducible rfl
                        rotate_left
                        · simp only [Act.put, List.setIfInBounds_toArray, List.set_cons_zero, List.set_cons_succ, i64_w, i32_w]
                          rfl
                        refine pure_ (i := 11) (N := some 97) (v := ?_) (a' := ?_) #[true, true, true, true, true, true, true, true, true, false, true, true, false, false, false, false, false] rfl rfl (any_of HT_.out (by kernel_rfl)) (fun _ _ _ h => h) (Or.inl ⟨by rfl, ?_⟩) ?_ ?_
                        rotate_left
                        · intro w'
                          go_simp
                          with_reducible rfl
                        rotate_left
                        · simp only [Act.put, List.setIfInBounds_toArray, List.set_cons_zero, List.set_cons_succ, i64_w, i32_w]
                          rfl
                        refine pure_ (i := 12) (N := some 98) (v := ?_) (a' := ?_) #[true, true, true, true, true, true, true, true, true, false, true, true, true, false, false, false, false] rfl rfl (any_of HT_.out (by kernel_rfl)) (fun _ _ _ h => h) (Or.inl ⟨by rfl, ?_⟩) ?_ ?_
                        rotate_left
                        · intro w'
                          go_simp
                          with_reducible rfl
                        rotate_left
                        · simp only [Act.put, List.setIfInBounds_toArray, List.set_cons_zero, List.set_cons_succ, i64_w, i32_w]
                          rfl
                        refine take_ (i := 9) (N := some 95) (v := ?_) (a' := ?_) #[true, true, true, true, true, true, true, true, true, true, true, true, true, false, false, false, false] rfl rfl (take_ofW HT_.out HW_.out (by kernel_rfl)) (fun _ _ _ h => h) (Or.inl ⟨by rfl, ?_⟩) hHeld ?_ ?_
                        rotate_left
                        · rintro w' ⟨s0, s1, s2⟩
                          go_simp
                          with_reducible rfl
                        rotate_left
                        · simp only [Act.put, List.setIfInBounds_toArray, List.set_cons_zero, List.set_cons_succ, i64_w, i32_w]
                          rfl
                        refine take_ (i := 13) (N := some 99) (v := ?_) (a' := ?_) #[true, true, true, true, true, true, true, true, true, true, true, true, true, true, false, false, false] rfl rfl (take_ofW HT_.out HW_.out (by kernel_rfl)) (fun _ _ _ h => h) (Or.inl ⟨by rfl, ?_⟩) hHeld ?_ ?_
                        rotate_left
                        · rintro w' ⟨s0, s1, s2⟩
                          go_simp
                          with_reducible rfl
                        rotate_left
                        · simp only [Act.put, List.setIfInBounds_toArray, List.set_cons_zero, List.set_cons_succ, i64_w, i32_w]
                          rfl
                        refine one_ (i := 14) (N := some 100) #[true, true, true, true, true, true, true, true, true, true, true, true, true, true, true, false, false] rfl rfl (one_of HT_.out (by kernel_rfl)) (by decide) (fun K hK => ?_)
                        refine goes_ Try.func30 (by kernel_rfl) rfl #[.agg #[.string t228, .string t229], .string (rdOf ByteArray.empty t247 x12_2)] (by rfl) rfl rfl (by (try simp only [List.map_toArray, List.map_cons, List.map_nil]); first | done | rfl | (simp only [List.length_drop, List.length_take]; rfl)) ?_
                        with_reducible refine (impl_IntervalHas.calls k2 t228 t229 (rdOf ByteArray.empty t247 x12_2) t261 _ A98.out).mono ?_
                        rintro e w106 ⟨rfl, hb⟩
                        have HS2_ := (hb.cell (World.block_lt_of_cell? _ _ (hHeld.2.2))).trans (hHeld.2.2)
                        refine ⟨_, rfl, ?_⟩
                        have n0_ := Aside0.mk (Kd.R_below (by (with_reducible repeat (first | apply Kd.R_alloc | apply Kd.R_drewN | apply Kd.R_drew)); exact HO_11.out) hb)
                        have n1_ := Aside0.mk (blk_below (g := gb231) (o := .cells #[.string t228, .string t229] 35 (0, 0)) (by (with_reducible repeat (first | refine blk_drewN ?_ _ | refine blk_drew ?_ | refine blk_alloc ?_ _)); exact BK231.out) hb)
                        have n2_ := Aside0.mk (blk_below (g := gb237) (o := .cells #[.string t232, .string t233] 35 (0, 0)) (by (with_reducible repeat (first | refine blk_drewN ?_ _ | refine blk_drew ?_ | refine blk_alloc ?_ _)); exact BK237.out) hb)
                        have n3_ := Aside0.mk (blk_below (g := gb238) (o := .cells #[.string t234, .string t235] 35 (0, 0)) (by (with_reducible repeat (first | refine blk_drewN ?_ _ | refine blk_drew ?_ | refine blk_alloc ?_ _)); exact BK238.out) hb)
                        have n4_ := Aside0.mk (blk_below (g := gb244) (o := .cells #[.string t239, .string t240] 35 (0, 0)) (by (with_reducible repeat (first | refine blk_drewN ?_ _ | refine blk_drew ?_ | refine blk_alloc ?_ _)); exact BK244.out) hb)
                        have n5_ := Aside0.mk (blk_below (g := gb245) (o := .cells #[.string t241, .string t242] 35 (0, 0)) (by (with_reducible repeat (first | refine blk_drewN ?_ _ | refine blk_drew ?_ | refine blk_alloc ?_ _)); exact BK245.out) hb)
                        have n6_ := Aside0.mk (below_step (by repeat (first | (with_reducible first | exact HB.out | apply below_alloc | apply pw_below_drewN | apply below_drew1 | refine below_set ?_ GE231.out | refine below_set ?_ GE237.out | refine below_set ?_ GE238.out | refine below_set ?_ GE244.out | refine below_set ?_ GE245.out) | exact HB.out)) hb)
                        clear HO_11
                        clear BK231
                        clear BK237
                        clear BK238
                        clear BK244
                        clear BK245
                        clear HB
                        have HO_11 := n0_
                        have BK231 := n1_
                        have BK237 := n2_
                        have BK238 := n3_
                        have BK244 := n4_
                        have BK245 := n5_
                        have HB := n6_
                        clear n0_ n1_ n2_ n3_ n4_ n5_ n6_
                        (try clear hb)
                        (try clear hb2)
                        (try clear hk)
                        (try clear hi)
                        refine hK.out _ _ ⟨(blk_cell BK231.out 0).trans rfl, (blk_cell BK231.out 1).trans rfl, HS2_⟩ (fun hHeld => ?_)
                        clear hK K
                        refine norm_ (a' := ?_) ?_ ?_
                        rotate_left
                        · show Act.put _ (some 100) _ = _
                          simp only [Act.put, List.setIfInBounds_toArray, List.set_cons_zero, List.set_cons_succ, i64_w, i32_w]
                          rfl
                        refine pure_ (i := 15) (N := some 101) (v := ?_) (a' := ?_) #[true, true, true, true, true, true, true, true, true, true, true, true, true, true, true, true, false] rfl rfl (any_of HT_.out (by kernel_rfl)) (fun _ _ _ h => h) (Or.inl ⟨by rfl, ?_⟩) ?_ ?_
                        rotate_left
                        · intro w'
                          go_simp
                          with_reducible rfl
                        rotate_left
                        · simp only [Act.put, List.setIfInBounds_toArray, List.set_cons_zero, List.set_cons_succ, i64_w, i32_w]
                          rfl
                        refine pure_ (i := 16) (N := some 102) (v := ?_) (a' := ?_) #[true, true, true, true, true, true, true, true, true, true, true, true, true, true, true, true, true] rfl rfl (any_of HT_.out (by kernel_rfl)) (fun _ _ _ h => h) (Or.inl ⟨by rfl, ?_⟩) ?_ ?_
                        rotate_left
                        · intro w'
                          go_simp
                          with_reducible rfl
                        rotate_left
                        · simp only [Act.put, List.setIfInBounds_toArray, List.set_cons_zero, List.set_cons_succ, i64_w, i32_w]
                          rfl
                        refine done_ (done_of HT_.out (by kernel_rfl)) ?_
                        try go_wp2
                        go_roundg k2
                        case measure => have := HJ5.out; have := HK2.out; omega
                        case rel => exact ⟨(wrap64 (x12_2 + 1)), (by first | rfl | (simp; done) | (simp [bne]; done) | (simp [*]; done)), H', ⟨by have := HJ5.out; have := HK2.out; omega⟩, ⟨by (with_reducible repeat (first | apply Kd.R_alloc | apply Kd.R_drewN | apply Kd.R_drew)); exact HO_11.out⟩, ⟨by (with_reducible repeat (first | refine blk_drewN ?_ _ | refine blk_drew ?_ | refine blk_alloc ?_ _)); exact BK231.out⟩, ⟨by (with_reducible repeat (first | refine blk_drewN ?_ _ | refine blk_drew ?_ | refine blk_alloc ?_ _)); exact BK237.out⟩, ⟨by (with_reducible repeat (first | refine blk_drewN ?_ _ | refine blk_drew ?_ | refine blk_alloc ?_ _)); exact BK238.out⟩, ⟨by (with_reducible repeat (first | refine blk_drewN ?_ _ | refine blk_drew ?_ | refine blk_alloc ?_ _)); exact BK244.out⟩, ⟨by (with_reducible repeat (first | refine blk_drewN ?_ _ | refine blk_drew ?_ | refine blk_alloc ?_ _)); exact BK245.out⟩, ⟨by repeat (first | (with_reducible first | exact HB.out | apply below_alloc | apply pw_below_drewN | apply below_drew1 | refine below_set ?_ GE231.out | refine below_set ?_ GE237.out | refine below_set ?_ GE238.out | refine below_set ?_ GE244.out | refine below_set ?_ GE245.out) | exact HB.out)⟩⟩
                  · rw [if_neg c84] at H
                    exact absurd H (by simp)
                · rw [if_neg c83] at H
                  have c83b0 : decide (x12_2 < (t247.length : Int)) = false := decide_eq_false c83
                  clear c83
                  replace H := Option.bind_eq_some_iff.mp H
                  obtain ⟨⟨t250, t251, t252⟩, A1070, H⟩ := H
                  replace H : (if (t250.toList == t228.toList && (t251.toList == t229.toList)) = true then (some t252) else (none)) = some r := H
                  have A107 := Aside0.mk A1070
                  clear A1070
                  by_cases c108 : (t250.toList == t228.toList && (t251.toList == t229.toList)) = true
                  · rw [if_pos c108] at H
                    have c108b0 : (t250.toList == t228.toList && (t251.toList == t229.toList)) = true := c108
                    (try (have c108b1 : decide (t250.toList = t228.toList && (t251.toList == t229.toList)) = true := by simpa using c108))
                    (try (have c108b2 : (t250.toList == t228.toList && (t251.toList == t229.toList)) = true := by simpa using c108))
                    clear c108
                    obtain rfl := Option.some.inj H
                    obtain ⟨Ao109, co109, eo109⟩ := Kd.R_slice HO_11.out
                    subst eo109
                    have hnb110 := NB237_231.out
                    have hnc110 := NB231_237.out
                    have hnb111 := NB237_238.out
                    have hnc111 := NB238_237.out
                    have hnb112 := NB237_244.out
                    have hnc112 := NB244_237.out
                    have hnb113 := NB237_245.out
                    have hnc113 := NB245_237.out
                    have hcz114_0 : wr.cell? ⟨gb237, 0, none⟩ = some (.string t232) := (blk_cell BK237.out 0).trans rfl
                    have hcz114_1 : wr.cell? ⟨gb237, 1, none⟩ = some (.string t233) := (blk_cell BK237.out 1).trans rfl
                    have hfz114_0 := blk_frozen BK237.out 0
                    have hfz114_1 := blk_frozen BK237.out 1
                    have hnb115 := NB238_231.out
                    have hnc115 := NB231_238.out
                    have hnb116 := NB238_244.out
                    have hnc116 := NB244_238.out
                    have hnb117 := NB238_245.out
                    have hnc117 := NB245_238.out
                    have hcz118_0 : wr.cell? ⟨gb238, 0, none⟩ = some (.string t234) := (blk_cell BK238.out 0).trans rfl
                    have hcz118_1 : wr.cell? ⟨gb238, 1, none⟩ = some (.string t235) := (blk_cell BK238.out 1).trans rfl
                    have hfz118_0 := blk_frozen BK238.out 0
                    have hfz118_1 := blk_frozen BK238.out 1
                    go_wp2_with (first | ((with_reducible refine gate_callee (f := 37) rfl ?_); refine goesL_ (some 106) rfl rfl Try.func37 (by kernel_rfl) rfl #[.agg #[.string t232, .string t233], .agg #[.string t234, .string t235]] rfl (by (try simp only [List.map_toArray, List.map_cons, List.map_nil]); first | done | rfl | (simp only [List.length_drop, List.length_take]; rfl)) ?_; (with_reducible refine (impl_IntervalJoin.calls k2 t232 t233 t234 t235 t250 t251 t252 _ A107.out).mono ?_); rintro e w119 ⟨rfl, hb⟩; refine ⟨_, rfl, ?_⟩; have n0_ := Aside0.mk (Kd.R_below (by (with_reducible repeat (first | apply Kd.R_alloc | apply Kd.R_drewN | apply Kd.R_drew)); exact HO_11.out) hb); have n1_ := Aside0.mk (blk_below (g := gb231) (o := .cells #[.string t228, .string t229] 35 (0, 0)) (by (with_reducible repeat (first | refine blk_drewN ?_ _ | refine blk_drew ?_ | refine blk_alloc ?_ _)); exact BK231.out) hb); have n2_ := Aside0.mk (blk_below (g := gb237) (o := .cells #[.string t232, .string t233] 35 (0, 0)) (by (with_reducible repeat (first | refine blk_drewN ?_ _ | refine blk_drew ?_ | refine blk_alloc ?_ _)); exact BK237.out) hb); have n3_ := Aside0.mk (blk_below (g := gb238) (o := .cells #[.string t234, .string t235] 35 (0, 0)) (by (with_reducible repeat (first | refine blk_drewN ?_ _ | refine blk_drew ?_ | refine blk_alloc ?_ _)); exact BK238.out) hb); have n4_ := Aside0.mk (blk_below (g := gb244) (o := .cells #[.string t239, .string t240] 35 (0, 0)) (by (with_reducible repeat (first | refine blk_drewN ?_ _ | refine blk_drew ?_ | refine blk_alloc ?_ _)); exact BK244.out) hb); have n5_ := Aside0.mk (blk_below (g := gb245) (o := .cells #[.string t241, .string t242] 35 (0, 0)) (by (with_reducible repeat (first | refine blk_drewN ?_ _ | refine blk_drew ?_ | refine blk_alloc ?_ _)); exact BK245.out) hb); have n6_ := Aside0.mk (below_step (by repeat (first | (with_reducible first | exact HB.out | apply below_alloc | apply pw_below_drewN | apply below_drew1 | refine below_set ?_ GE231.out | refine below_set ?_ GE237.out | refine below_set ?_ GE238.out | refine below_set ?_ GE244.out | refine below_set ?_ GE245.out) | exact HB.out)) hb); clear HO_11; clear BK231; clear BK237; clear BK238; clear BK244; clear BK245; clear HB; have HO_11 := n0_; have BK231 := n1_; have BK237 := n2_; have BK238 := n3_; have BK244 := n4_; have BK245 := n5_; have HB := n6_; clear n0_ n1_ n2_ n3_ n4_ n5_ n6_; (try clear hb); (try clear hb2); (try clear hk); (try clear hi)) | ((with_reducible refine gate_dst (N := 15) rfl ?_); refine box_event ?hg (N := 15) ?hd (cs := #[.string (⟨#[]⟩ : ByteArray), .string (⟨#[]⟩ : ByteArray)]) (t := 35) ?hr ?_; (case hd => rfl); (case hg => rfl); (case hr => first | (go_simp; done) | (go_simp; rfl)); intro gb253 hg w120 hbox hb; have n0_ := Aside0.mk (Kd.R_below (by (with_reducible repeat (first | apply Kd.R_alloc | apply Kd.R_drewN | apply Kd.R_drew)); exact HO_11.out) hb); have n1_ := Aside0.mk (blk_below (g := gb231) (o := .cells #[.string t228, .string t229] 35 (0, 0)) (by (with_reducible repeat (first | refine blk_drewN ?_ _ | refine blk_drew ?_ | refine blk_alloc ?_ _)); exact BK231.out) hb); have n2_ := Aside0.mk (blk_below (g := gb237) (o := .cells #[.string t232, .string t233] 35 (0, 0)) (by (with_reducible repeat (first | refine blk_drewN ?_ _ | refine blk_drew ?_ | refine blk_alloc ?_ _)); exact BK237.out) hb); have n3_ := Aside0.mk (blk_below (g := gb238) (o := .cells #[.string t234, .string t235] 35 (0, 0)) (by (with_reducible repeat (first | refine blk_drewN ?_ _ | refine blk_drew ?_ | refine blk_alloc ?_ _)); exact BK238.out) hb); have n4_ := Aside0.mk (blk_below (g := gb244) (o := .cells #[.string t239, .string t240] 35 (0, 0)) (by (with_reducible repeat (first | refine blk_drewN ?_ _ | refine blk_drew ?_ | refine blk_alloc ?_ _)); exact BK244.out) hb); have n5_ := Aside0.mk (blk_below (g := gb245) (o := .cells #[.string t241, .string t242] 35 (0, 0)) (by (with_reducible repeat (first | refine blk_drewN ?_ _ | refine blk_drew ?_ | refine blk_alloc ?_ _)); exact BK245.out) hb); have n6_ := Aside0.mk (below_step (by repeat (first | (with_reducible first | exact HB.out | apply below_alloc | apply pw_below_drewN | apply below_drew1 | refine below_set ?_ GE231.out | refine below_set ?_ GE237.out | refine below_set ?_ GE238.out | refine below_set ?_ GE244.out | refine below_set ?_ GE245.out) | exact HB.out)) hb); have n7_ := Aside0.mk (hbox); have n8_ := Aside0.mk ((by rw [hg]; exact (below_size (by repeat (first | (with_reducible first | exact HB.out | apply below_alloc | apply pw_below_drewN | apply below_drew1 | refine below_set ?_ GE231.out | refine below_set ?_ GE237.out | refine below_set ?_ GE238.out | refine below_set ?_ GE244.out | refine below_set ?_ GE245.out) | exact HB.out))) : w.heap.size ≤ gb253)); have n9_ := Aside0.mk ((by rw [hg]; exact (below_size (by repeat (first | (with_reducible first | exact HB.out | apply below_alloc | apply pw_below_drewN | apply below_drew1 | refine below_set ?_ GE231.out | refine below_set ?_ GE237.out | refine below_set ?_ GE238.out | refine below_set ?_ GE244.out | refine below_set ?_ GE245.out) | exact HB.out))) : w.heap.size ≤ gb253)); have n10_ := Aside0.mk ((by rw [hg]; exact Nat.ne_of_lt (blk_lt (g := gb231) (o := .cells #[.string t228, .string t229] 35 (0, 0)) (by (with_reducible repeat (first | refine blk_drewN ?_ _ | refine blk_drew ?_ | refine blk_alloc ?_ _)); exact BK231.out)) : gb231 ≠ gb253)); have n11_ := Aside0.mk ((by rw [hg]; exact Nat.ne_of_gt (blk_lt (g := gb231) (o := .cells #[.string t228, .string t229] 35 (0, 0)) (by (with_reducible repeat (first | refine blk_drewN ?_ _ | refine blk_drew ?_ | refine blk_alloc ?_ _)); exact BK231.out)) : gb253 ≠ gb231)); have n12_ := Aside0.mk ((by rw [hg]; exact Nat.ne_of_lt (blk_lt (g := gb237) (o := .cells #[.string t232, .string t233] 35 (0, 0)) (by (with_reducible repeat (first | refine blk_drewN ?_ _ | refine blk_drew ?_ | refine blk_alloc ?_ _)); exact BK237.out)) : gb237 ≠ gb253)); have n13_ := Aside0.mk ((by rw [hg]; exact Nat.ne_of_gt (blk_lt (g := gb237) (o := .cells #[.string t232, .string t233] 35 (0, 0)) (by (with_reducible repeat (first | refine blk_drewN ?_ _ | refine blk_drew ?_ | refine blk_alloc ?_ _)); exact BK237.out)) : gb253 ≠ gb237)); have n14_ := Aside0.mk ((by rw [hg]; exact Nat.ne_of_lt (blk_lt (g := gb238) (o := .cells #[.string t234, .string t235] 35 (0, 0)) (by (with_reducible repeat (first | refine blk_drewN ?_ _ | refine blk_drew ?_ | refine blk_alloc ?_ _)); exact BK238.out)) : gb238 ≠ gb253)); have n15_ := Aside0.mk ((by rw [hg]; exact Nat.ne_of_gt (blk_lt (g := gb238) (o := .cells #[.string t234, .string t235] 35 (0, 0)) (by (with_reducible repeat (first | refine blk_drewN ?_ _ | refine blk_drew ?_ | refine blk_alloc ?_ _)); exact BK238.out)) : gb253 ≠ gb238)); have n16_ := Aside0.mk ((by rw [hg]; exact Nat.ne_of_lt (blk_lt (g := gb244) (o := .cells #[.string t239, .string t240] 35 (0, 0)) (by (with_reducible repeat (first | refine blk_drewN ?_ _ | refine blk_drew ?_ | refine blk_alloc ?_ _)); exact BK244.out)) : gb244 ≠ gb253)); have n17_ := Aside0.mk ((by rw [hg]; exact Nat.ne_of_gt (blk_lt (g := gb244) (o := .cells #[.string t239, .string t240] 35 (0, 0)) (by (with_reducible repeat (first | refine blk_drewN ?_ _ | refine blk_drew ?_ | refine blk_alloc ?_ _)); exact BK244.out)) : gb253 ≠ gb244)); have n18_ := Aside0.mk ((by rw [hg]; exact Nat.ne_of_lt (blk_lt (g := gb245) (o := .cells #[.string t241, .string t242] 35 (0, 0)) (by (with_reducible repeat (first | refine blk_drewN ?_ _ | refine blk_drew ?_ | refine blk_alloc ?_ _)); exact BK245.out)) : gb245 ≠ gb253)); have n19_ := Aside0.mk ((by rw [hg]; exact Nat.ne_of_gt (blk_lt (g := gb245) (o := .cells #[.string t241, .string t242] 35 (0, 0)) (by (with_reducible repeat (first | refine blk_drewN ?_ _ | refine blk_drew ?_ | refine blk_alloc ?_ _)); exact BK245.out)) : gb253 ≠ gb245)); clear HO_11; clear BK231; clear BK237; clear BK238; clear BK244; clear BK245; clear HB; have HO_11 := n0_; have BK231 := n1_; have BK237 := n2_; have BK238 := n3_; have BK244 := n4_; have BK245 := n5_; have HB := n6_; have BK253 := n7_; have GW253 := n8_; have GE253 := n9_; have NB231_253 := n10_; have NB253_231 := n11_; have NB237_253 := n12_; have NB253_237 := n13_; have NB238_253 := n14_; have NB253_238 := n15_; have NB244_253 := n16_; have NB253_244 := n17_; have NB245_253 := n18_; have NB253_245 := n19_; clear n0_ n1_ n2_ n3_ n4_ n5_ n6_ n7_ n8_ n9_ n10_ n11_ n12_ n13_ n14_ n15_ n16_ n17_ n18_ n19_; clear hb hbox hg; have hnb121 := NB253_231.out; have hnc121 := NB231_253.out; have hnb122 := NB253_237.out; have hnc122 := NB237_253.out; have hnb123 := NB253_238.out; have hnc123 := NB238_253.out; have hnb124 := NB253_244.out; have hnc124 := NB244_253.out; have hnb125 := NB253_245.out; have hnc125 := NB245_253.out; have hcz126_0 : w120.cell? ⟨gb253, 0, none⟩ = some (.string (⟨#[]⟩ : ByteArray)) := (blk_cell BK253.out 0).trans rfl; have hcz126_1 : w120.cell? ⟨gb253, 1, none⟩ = some (.string (⟨#[]⟩ : ByteArray)) := (blk_cell BK253.out 1).trans rfl; have hfz126_0 := blk_frozen BK253.out 0; have hfz126_1 := blk_frozen BK253.out 1; have hnb127 := NB231_244.out; have hnc127 := NB244_231.out; have hnb128 := NB231_245.out; have hnc128 := NB245_231.out; have hcz129_0 : w120.cell? ⟨gb231, 0, none⟩ = some (.string t228) := (blk_cell BK231.out 0).trans rfl; have hcz129_1 : w120.cell? ⟨gb231, 1, none⟩ = some (.string t229) := (blk_cell BK231.out 1).trans rfl; have hfz129_0 := blk_frozen BK231.out 0; have hfz129_1 := blk_frozen BK231.out 1))
                    go_ret
                    exact ⟨by first | rfl | (simp only [u8_w_, w64_u8_]; done) | (simp only [u8_w_, w64_u8_]; rfl) | (simp [errW_none, errW_some] <;> rfl) | (simp [*, errW_none, errW_some] <;> rfl), by repeat (first | (with_reducible first | exact HB.out | apply below_alloc | apply pw_below_drewN | apply below_drew1 | refine below_set ?_ GE231.out | refine below_set ?_ GE237.out | refine below_set ?_ GE238.out | refine below_set ?_ GE244.out | refine below_set ?_ GE245.out | refine below_set ?_ GE253.out) | exact HB.out)⟩
                  · rw [if_neg c108] at H
                    exact absurd H (by simp)
          · replace c71 := Bool.eq_false_iff.mpr c71
            subst c71
            have H1 : (if (t232.toList == ([] : List UInt8) && (t233.toList == ([] : List UInt8))) = true then (if (t234.toList == ([] : List UInt8) && (t235.toList == ([] : List UInt8))) = true then ((laws_alive.f kj5).bind fun t246 => (some t246)) else (none)) else (none)) = some r := by rw [if_neg (show ¬ (false = true) by decide)] at H; exact H
            clear H
            have H := H1
            clear H1
            by_cases c130 : (t232.toList == ([] : List UInt8) && (t233.toList == ([] : List UInt8))) = true
            · rw [if_pos c130] at H
              have c130b0 : (t232.toList == ([] : List UInt8) && (t233.toList == ([] : List UInt8))) = true := c130
              have c130b3_ : (t232.toList = ([] : List UInt8) ∧ t233.toList = ([] : List UInt8)) := by simpa using c130
              (try (have c130b1 : decide (t232.toList = ([] : List UInt8) && (t233.toList == ([] : List UInt8))) = true := by simpa using c130))
              (try (have c130b2 : (t232.toList == ([] : List UInt8) && (t233.toList == ([] : List UInt8))) = true := by simpa using c130))
              clear c130
              by_cases c131 : (t234.toList == ([] : List UInt8) && (t235.toList == ([] : List UInt8))) = true
              · rw [if_pos c131] at H
                have c131b0 : (t234.toList == ([] : List UInt8) && (t235.toList == ([] : List UInt8))) = true := c131
                have c131b3_ : (t234.toList = ([] : List UInt8) ∧ t235.toList = ([] : List UInt8)) := by simpa using c131
                (try (have c131b1 : decide (t234.toList = ([] : List UInt8) && (t235.toList == ([] : List UInt8))) = true := by simpa using c131))
                (try (have c131b2 : (t234.toList == ([] : List UInt8) && (t235.toList == ([] : List UInt8))) = true := by simpa using c131))
                clear c131
                replace H := Option.bind_eq_some_iff.mp H
                obtain ⟨t246, A1320, H⟩ := H
                replace H : (some t246) = some r := H
                have A132 := Aside0.mk A1320
                clear A1320
                obtain rfl := Option.some.inj H
                have hnb133 := NB237_231.out
                have hnc133 := NB231_237.out
                have hnb134 := NB237_238.out
                have hnc134 := NB238_237.out
                have hnb135 := NB237_244.out
                have hnc135 := NB244_237.out
                have hnb136 := NB237_245.out
                have hnc136 := NB245_237.out
                have hcz137_0 : wc.cell? ⟨gb237, 0, none⟩ = some (.string t232) := (blk_cell BK237.out 0).trans rfl
                have hcz137_1 : wc.cell? ⟨gb237, 1, none⟩ = some (.string t233) := (blk_cell BK237.out 1).trans rfl
                have hfz137_0 := blk_frozen BK237.out 0
                have hfz137_1 := blk_frozen BK237.out 1
                have hnb138 := NB238_231.out
                have hnc138 := NB231_238.out
                have hnb139 := NB238_244.out
                have hnc139 := NB244_238.out
                have hnb140 := NB238_245.out
                have hnc140 := NB245_238.out
                have hcz141_0 : wc.cell? ⟨gb238, 0, none⟩ = some (.string t234) := (blk_cell BK238.out 0).trans rfl
                have hcz141_1 : wc.cell? ⟨gb238, 1, none⟩ = some (.string t235) := (blk_cell BK238.out 1).trans rfl
                have hfz141_0 := blk_frozen BK238.out 0
                have hfz141_1 := blk_frozen BK238.out 1
                go_wp2_with (first | (go_at_call 16; (with_reducible refine (laws_alive.calls kj5  t246 _ A132.out).mono ?_); rintro e w142 ⟨rfl, hb⟩; have n0_ := Aside0.mk (blk_below (g := gb231) (o := .cells #[.string t228, .string t229] 35 (0, 0)) (by (with_reducible repeat (first | refine blk_drewN ?_ _ | refine blk_drew ?_ | refine blk_alloc ?_ _)); exact BK231.out) hb); have n1_ := Aside0.mk (blk_below (g := gb237) (o := .cells #[.string t232, .string t233] 35 (0, 0)) (by (with_reducible repeat (first | refine blk_drewN ?_ _ | refine blk_drew ?_ | refine blk_alloc ?_ _)); exact BK237.out) hb); have n2_ := Aside0.mk (blk_below (g := gb238) (o := .cells #[.string t234, .string t235] 35 (0, 0)) (by (with_reducible repeat (first | refine blk_drewN ?_ _ | refine blk_drew ?_ | refine blk_alloc ?_ _)); exact BK238.out) hb); have n3_ := Aside0.mk (blk_below (g := gb244) (o := .cells #[.string t239, .string t240] 35 (0, 0)) (by (with_reducible repeat (first | refine blk_drewN ?_ _ | refine blk_drew ?_ | refine blk_alloc ?_ _)); exact BK244.out) hb); have n4_ := Aside0.mk (blk_below (g := gb245) (o := .cells #[.string t241, .string t242] 35 (0, 0)) (by (with_reducible repeat (first | refine blk_drewN ?_ _ | refine blk_drew ?_ | refine blk_alloc ?_ _)); exact BK245.out) hb); have n5_ := Aside0.mk (below_step (by repeat (first | (with_reducible first | exact HB.out | apply below_alloc | apply pw_below_drewN | apply below_drew1 | refine below_set ?_ GE231.out | refine below_set ?_ GE237.out | refine below_set ?_ GE238.out | refine below_set ?_ GE244.out | refine below_set ?_ GE245.out) | exact HB.out)) hb); clear BK231; clear BK237; clear BK238; clear BK244; clear BK245; clear HB; have BK231 := n0_; have BK237 := n1_; have BK238 := n2_; have BK244 := n3_; have BK245 := n4_; have HB := n5_; clear n0_ n1_ n2_ n3_ n4_ n5_; (try clear hb); (try clear hb2); (try clear hk); (try clear hi)))
                go_ret
                exact ⟨by first | rfl | (simp only [u8_w_, w64_u8_]; done) | (simp only [u8_w_, w64_u8_]; rfl) | (simp [errW_none, errW_some] <;> rfl) | (simp [*, errW_none, errW_some] <;> rfl), by repeat (first | (with_reducible first | exact HB.out | apply below_alloc | apply pw_below_drewN | apply below_drew1 | refine below_set ?_ GE231.out | refine below_set ?_ GE237.out | refine below_set ?_ GE238.out | refine below_set ?_ GE244.out | refine below_set ?_ GE245.out) | exact HB.out)⟩
                all_goals contradiction
              · rw [if_neg c131] at H
                exact absurd H (by simp)
              all_goals contradiction
            · rw [if_neg c130] at H
              exact absurd H (by simp)

/-- THE ONE PURE STATEMENT of laws_FnIntervalCut: yours. -/
def laws_FnIntervalCut.Pure : Prop := ∀ (l0 : List Int), l0.length ≤ maxLen → l0.length * 1 ≤ 140737488351232 → (∀ x ∈ l0, (Lit.int .u8 x).wf = true) → ∃ k, laws_FnIntervalCut.f k l0 = some true
theorem laws_FnIntervalCut.walk (P : laws_FnIntervalCut.Pure) (a0 : Option Addr) (len0 cap0 : Nat) (z0 : List Int) (w : World) (w0 : (a0 = none ∧ len0 = 0 ∧ cap0 = 0 ∧ z0 = []) ∨ ∃ x, a0 = some x ∧ len0 ≤ cap0 ∧ cap0 ≤ maxLen ∧ z0.length = cap0 ∧ (∀ i, i < z0.length → w.cell? (x.add i) = some (.int .u8 (z0.getD i 0))) ∧ ∀ n ∈ z0, (Lit.int .u8 n).wf = true) (y0 : len0 * 1 ≤ 140737488351232) :
    Calls Try.prog 11 #[.slice a0 len0 cap0] w fun e w' => e = .returned (.bool true) ∧ Below w.heap.size w w' := by
  obtain ⟨l0, rfl, hr0, hm0, hw0, hc0⟩ := ReadsInt.ofRowC w0
  obtain ⟨k, h⟩ := P l0 hm0 y0 hw0
  refine (laws_FnIntervalCut.calls k _ _ l0 true w (Kd.C_of_reads (d := (0 : Int)) (h1 := fun _ => rfl) hr0) hc0 h).mono ?_
  rintro e w' ⟨rfl, hd⟩
  exact ⟨rfl, hd⟩

end Go.Proofs.Ytgpffbijmohfjaa.PFnIntervalCut
