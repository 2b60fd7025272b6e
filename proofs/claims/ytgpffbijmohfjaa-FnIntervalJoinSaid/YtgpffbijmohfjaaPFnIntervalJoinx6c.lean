import Derived.Test.YtgpffbijmohfjaaPFnIntervalJoinx0
import Derived.Test.YtgpffbijmohfjaaPFnIntervalJoinx4
import Derived.Test.YtgpffbijmohfjaaPFnIntervalJoinx5
import Derived.Test.YtgpffbijmohfjaaPFnIntervalJoinx6
import Derived.Test.YtgpffbijmohfjaaWZip
namespace Go.Proofs.Ytgpffbijmohfjaa.PFnIntervalJoin
open Go.RowKit Go.Proofs.YtgpffbijmohfjaaW.PrintWords Go.Proofs.YtgpffbijmohfjaaW.PrintLast Go.Proofs.YtgpffbijmohfjaaW.PrintMore
attribute [local go_sem] max2_int min2_int max_two min_two max_three min_three max_four min_four max2_strs min2_strs   -- for this text's walks alone
set_option linter.unusedVariables false
set_option linter.unusedSimpArgs false
set_option maxHeartbeats 8000000 in
set_option maxRecDepth 100000 in
theorem spec_DrawIntervalJoin.calls2 (k : Nat) (A0 : Option Addr) (c0 : Nat) (l0 : List Int) (r1 : ByteArray) (r2 : ByteArray) (r3 : ByteArray) (r4 : ByteArray) (w : World) (hr0 : Kd.C (Kd.int .u8) w A0 l0.length l0) (hc0 : l0.length ≤ c0) (h : spec_DrawIntervalJoin.f k l0 = some (r1, r2, r3, r4)) (hs : spec_DrawIntervalJoin.sel k l0 = some 2) :
  Calls Try.prog 36 #[.slice A0 l0.length c0] w fun e w' => e = .returned (.tuple #[.agg #[.string r1, .string r2], .agg #[.string r3, .string r4]]) ∧ Below w.heap.size w w' := by
 have hu35 := Try.underlying35
 have HR0 := Aside0.mk hr0
 have HC0 := Aside0.mk hc0
 clear hr0 hc0
 have HB := Aside0.mk (Below.refl w.heap.size w)
 have HS := Aside0.mk hs
 clear hs
 have H : ((spec_l20Open.f l0).bind fun bt188 => ((spec_l20Span.f k bt188.1 bt188.2 12).bind fun bt191 => ((spec_l20Key.f k bt188.1 bt191.2.2 0).bind fun bt195 => ((spec_IntervalCut.f k bt191.1 bt191.2.1 bt195.1).bind fun bt197 => (if bt197.2.2.2.2 = true then ((spec_l20Rd_pick.f k bt188.1 bt195.2 4).bind fun bt204 => (if bt204.1 = 0 then ((spec_l20Span.f k bt188.1 bt204.2 12).bind fun bt206 => (some (bt191.1, bt191.2.1, bt206.1, bt206.2.1))) else (some (bt197.1, bt197.2.1, bt197.2.2.1, bt197.2.2.2.1)))) else ((spec_l20Span.f k bt188.1 bt195.2 12).bind fun bt209 => (some (bt191.1, bt191.2.1, bt209.1, bt209.2.1)))))))) = some (r1, r2, r3, r4) := h
 clear h
 replace H := Option.bind_eq_some_iff.mp H
 obtain ⟨⟨t188, t189⟩, A20, H⟩ := H
 replace H : ((spec_l20Span.f k t188 t189 12).bind fun bt191 => ((spec_l20Key.f k t188 bt191.2.2 0).bind fun bt195 => ((spec_IntervalCut.f k bt191.1 bt191.2.1 bt195.1).bind fun bt197 => (if bt197.2.2.2.2 = true then ((spec_l20Rd_pick.f k t188 bt195.2 4).bind fun bt204 => (if bt204.1 = 0 then ((spec_l20Span.f k t188 bt204.2 12).bind fun bt206 => (some (bt191.1, bt191.2.1, bt206.1, bt206.2.1))) else (some (bt197.1, bt197.2.1, bt197.2.2.1, bt197.2.2.2.1)))) else ((spec_l20Span.f k t188 bt195.2 12).bind fun bt209 => (some (bt191.1, bt191.2.1, bt209.1, bt209.2.1))))))) = some (r1, r2, r3, r4) := H
 have A2 := Aside0.mk A20
 clear A20
 replace H := Option.bind_eq_some_iff.mp H
 obtain ⟨⟨t191, t192, t193⟩, A30, H⟩ := H
 replace H : ((spec_l20Key.f k t188 t193 0).bind fun bt195 => ((spec_IntervalCut.f k t191 t192 bt195.1).bind fun bt197 => (if bt197.2.2.2.2 = true then ((spec_l20Rd_pick.f k t188 bt195.2 4).bind fun bt204 => (if bt204.1 = 0 then ((spec_l20Span.f k t188 bt204.2 12).bind fun bt206 => (some (t191, t192, bt206.1, bt206.2.1))) else (some (bt197.1, bt197.2.1, bt197.2.2.1, bt197.2.2.2.1)))) else ((spec_l20Span.f k t188 bt195.2 12).bind fun bt209 => (some (t191, t192, bt209.1, bt209.2.1)))))) = some (r1, r2, r3, r4) := H
 have A3 := Aside0.mk A30
 clear A30
 replace H := Option.bind_eq_some_iff.mp H
 obtain ⟨⟨t195, t196⟩, A40, H⟩ := H
 replace H : ((spec_IntervalCut.f k t191 t192 t195).bind fun bt197 => (if bt197.2.2.2.2 = true then ((spec_l20Rd_pick.f k t188 t196 4).bind fun bt204 => (if bt204.1 = 0 then ((spec_l20Span.f k t188 bt204.2 12).bind fun bt206 => (some (t191, t192, bt206.1, bt206.2.1))) else (some (bt197.1, bt197.2.1, bt197.2.2.1, bt197.2.2.2.1)))) else ((spec_l20Span.f k t188 t196 12).bind fun bt209 => (some (t191, t192, bt209.1, bt209.2.1))))) = some (r1, r2, r3, r4) := H
 have A4 := Aside0.mk A40
 clear A40
 replace H := Option.bind_eq_some_iff.mp H
 obtain ⟨⟨t197, t198, t199, t200, t201⟩, A50, H⟩ := H
 replace H : (if t201 = true then ((spec_l20Rd_pick.f k t188 t196 4).bind fun bt204 => (if bt204.1 = 0 then ((spec_l20Span.f k t188 bt204.2 12).bind fun bt206 => (some (t191, t192, bt206.1, bt206.2.1))) else (some (t197, t198, t199, t200)))) else ((spec_l20Span.f k t188 t196 12).bind fun bt209 => (some (t191, t192, bt209.1, bt209.2.1)))) = some (r1, r2, r3, r4) := H
 have A5 := Aside0.mk A50
 clear A50
 by_cases c6 : t201 = true
 ·subst c6
  have H1 : ((spec_l20Rd_pick.f k t188 t196 4).bind fun bt204 => (if bt204.1 = 0 then ((spec_l20Span.f k t188 bt204.2 12).bind fun bt206 => (some (t191, t192, bt206.1, bt206.2.1))) else (some (t197, t198, t199, t200)))) = some (r1, r2, r3, r4) := by rw [if_pos rfl] at H; exact H
  clear H
  have H := H1
  clear H1
  replace H := Option.bind_eq_some_iff.mp H
  obtain ⟨⟨t204, t205⟩, A70, H⟩ := H
  replace H : (if t204 = 0 then ((spec_l20Span.f k t188 t205 12).bind fun bt206 => (some (t191, t192, bt206.1, bt206.2.1))) else (some (t197, t198, t199, t200))) = some (r1, r2, r3, r4) := H
  have A7 := Aside0.mk A70
  clear A70
  by_cases c8 : t204 = 0
  ·exact absurd HS.out (by simp [spec_DrawIntervalJoin.sel, A2.out, A3.out, A4.out, A5.out, A7.out, c8])
  ·exact absurd HS.out (by simp [spec_DrawIntervalJoin.sel, A2.out, A3.out, A4.out, A5.out, A7.out, c8])
 ·clear HS
  replace c6 := Bool.eq_false_iff.mpr c6
  subst c6
  have H1 : ((spec_l20Span.f k t188 t196 12).bind fun bt209 => (some (t191, t192, bt209.1, bt209.2.1))) = some (r1, r2, r3, r4) := by rw [if_neg (show ¬ (false = true) by decide)] at H; exact H
  clear H
  have H := H1
  clear H1
  replace H := Option.bind_eq_some_iff.mp H
  obtain ⟨⟨t209, t210, t211⟩, A630, H⟩ := H
  replace H : (some (t191, t192, t209, t210)) = some (r1, r2, r3, r4) := H
  have A63 := Aside0.mk A630
  clear A630
  simp only [Option.some.injEq, Prod.mk.injEq] at H
  obtain ⟨rfl, rfl, rfl, rfl⟩ := H
  go_enter Try.func36, Try.ntmps36
  try go_wp2_with (first | ((with_reducible refine gate_dst (N := 2) rfl ?_); refine box_event ?hg (N := 2) ?hd (cs := #[.string (⟨#[]⟩ : ByteArray), .string (⟨#[]⟩ : ByteArray)]) (t := 35) ?hr ?_; (case hd => rfl); (case hg => rfl); (case hr => first | (go_simp; done) | (go_simp; rfl)); intro gb186 hg w64 hbox hb; have n0_ := Aside0.mk (below_step (by exact hopb HB.out) hb); have n1_ := Aside0.mk (hbox); have n2_ := Aside0.mk ((by rw [hg]; exact (below_size (by exact hopb HB.out)) : w.heap.size ≤ gb186)); have n3_ := n2_; clear HB; have HB := n0_; have BK186 := n1_; have GW186 := n2_; have GE186 := n3_; clear n0_ n1_ n2_ n3_; clear hb hbox hg) | ((with_reducible refine gate_dst (N := 3) rfl ?_); refine box_event ?hg (N := 3) ?hd (cs := #[.string (⟨#[]⟩ : ByteArray), .string (⟨#[]⟩ : ByteArray)]) (t := 35) ?hr ?_; (case hd => rfl); (case hg => rfl); (case hr => first | (go_simp; done) | (go_simp; rfl)); intro gb187 hg w65 hbox hb; have n0_ := Aside0.mk (blk_below (hop BK186.out) hb); have n1_ := Aside0.mk (below_step (by repeat (first | (with_reducible first | exact HB.out | apply bA | apply bN | apply bD | refine bS ?_ GE186.out) | exact HB.out)) hb); have n2_ := Aside0.mk (hbox); have n3_ := Aside0.mk ((by rw [hg]; exact (below_size (by repeat (first | (with_reducible first | exact HB.out | apply bA | apply bN | apply bD | refine bS ?_ GE186.out) | exact HB.out))) : w.heap.size ≤ gb187)); have n4_ := n3_; have n5_ := Aside0.mk ((by rw [hg]; exact Nat.ne_of_lt (blk_lt (hop BK186.out)) : gb186 ≠ gb187)); have n6_ := Aside0.mk ((by rw [hg]; exact Nat.ne_of_gt (blk_lt (hop BK186.out)) : gb187 ≠ gb186)); clear BK186; clear HB; have BK186 := n0_; have HB := n1_; have BK187 := n2_; have GW187 := n3_; have GE187 := n4_; have NB186_187 := n5_; have NB187_186 := n6_; clear n0_ n1_ n2_ n3_ n4_ n5_ n6_; clear hb hbox hg) | ((with_reducible refine gate_callee (f := 46) rfl ?_); refine goesL_ (some 10) rfl rfl Try.func46 (by kernel_rfl) rfl #[.slice A0 l0.length c0] rfl (by (try simp only [List.map_toArray, List.map_cons, List.map_nil]); first | done | rfl | (simp only [List.length_drop, List.length_take]; rfl)) ?_; (with_reducible refine (spec_l20Open.calls _ _ l0 t188 t189 w _ ?side1 ?side2 ?side3 A2.out).mono ?_); (case side1 => repeat (first | (with_reducible first | exact HB.out | apply bA | apply bN | apply bD | refine bS ?_ GE186.out | refine bS ?_ GE187.out) | exact HB.out)); (case side2 => exact HR0.out); (case side3 => exact HC0.out); rintro e w66 ⟨g190, rfl, hi, hb, hb2⟩; refine ⟨_, rfl, ?_⟩; have n0_ := Aside0.mk (blk_below (hop BK186.out) hb2); have n1_ := Aside0.mk (blk_below (hop BK187.out) hb2); have n2_ := Aside0.mk (hb); have n3_ := Aside0.mk (hi); have n4_ := Aside0.mk (IsS62.ne_blk hi (blk_below (hop BK186.out) hb2) (by decide)); have n5_ := Aside0.mk (Ne.symm (IsS62.ne_blk hi (blk_below (hop BK186.out) hb2) (by decide))); have n6_ := Aside0.mk (IsS62.ne_blk hi (blk_below (hop BK187.out) hb2) (by decide)); have n7_ := Aside0.mk (Ne.symm (IsS62.ne_blk hi (blk_below (hop BK187.out) hb2) (by decide))); clear BK186; clear BK187; clear HB; have BK186 := n0_; have BK187 := n1_; have HB := n2_; have HI190 := n3_; have NB190_186 := n4_; have NB186_190 := n5_; have NB190_187 := n6_; have NB187_190 := n7_; clear n0_ n1_ n2_ n3_ n4_ n5_ n6_ n7_; (try clear hb); (try clear hb2); (try clear hk); (try clear hi)) | ((with_reducible refine gate_callee (f := 55) rfl ?_); refine goesL_ (some 12) rfl rfl Try.func55 (by kernel_rfl) rfl #[.pointer (some ⟨g190, 0, none⟩), .int .i64 12] rfl (by (try simp only [List.map_toArray, List.map_cons, List.map_nil]); first | done | rfl | (simp only [List.length_drop, List.length_take]; rfl)) ?_; (with_reducible refine (spec_l20Span.calls k g190 t188 t189 12 t191 t192 t193 w _ ?side1 ?side2 A3.out).mono ?_); (case side1 => repeat (first | (with_reducible first | exact HI190.out | apply IsS62.alloc | apply IsS62.drewN | apply IsS62.drew | apply IsS62.set_1 | refine IsS62.far ?_ NB190_186.out _ | refine IsS62.far ?_ NB190_187.out _) | exact HI190.out)); (case side2 => repeat (first | (with_reducible first | exact HB.out | apply bA | apply bN | apply bD | refine bS ?_ (IsS62.ge HI190.out) | refine bS ?_ GE186.out | refine bS ?_ GE187.out) | exact HB.out)); rintro e w67 ⟨rfl, hi, hb, hk⟩; refine ⟨_, rfl, ?_⟩; have n0_ := Aside0.mk (KeepBut.blk hk (g' := gb186) (o := .cells #[.string (⟨#[]⟩ : ByteArray), .string (⟨#[]⟩ : ByteArray)] 35 (0, 0)) (by exact hop BK186.out) NB186_190.out (by simp)); have n1_ := Aside0.mk (KeepBut.blk hk (g' := gb187) (o := .cells #[.string (⟨#[]⟩ : ByteArray), .string (⟨#[]⟩ : ByteArray)] 35 (0, 0)) (by exact hop BK187.out) NB187_190.out (by simp)); have n2_ := Aside0.mk (hb); have n3_ := Aside0.mk (hi); clear BK186; clear BK187; clear HB; clear HI190; have BK186 := n0_; have BK187 := n1_; have HB := n2_; have HI190 := n3_; clear n0_ n1_ n2_ n3_; (try clear hb); (try clear hb2); (try clear hk); (try clear hi)) | ((with_reducible refine gate_dst (N := 5) rfl ?_); refine box_event ?hg (N := 5) ?hd (cs := #[.string (⟨#[]⟩ : ByteArray), .string (⟨#[]⟩ : ByteArray)]) (t := 35) ?hr ?_; (case hd => rfl); (case hg => rfl); (case hr => first | (go_simp; done) | (go_simp; rfl)); intro gb194 hg w68 hbox hb; have n0_ := Aside0.mk (blk_below (hop BK186.out) hb); have n1_ := Aside0.mk (blk_below (hop BK187.out) hb); have n2_ := Aside0.mk (IsS62.below (by repeat (first | (with_reducible first | exact HI190.out | apply IsS62.alloc | apply IsS62.drewN | apply IsS62.drew | apply IsS62.set_1 | refine IsS62.far ?_ NB190_186.out _ | refine IsS62.far ?_ NB190_187.out _) | exact HI190.out)) hb); have n3_ := Aside0.mk (below_step (by repeat (first | (with_reducible first | exact HB.out | apply bA | apply bN | apply bD | refine bS ?_ (IsS62.ge HI190.out) | refine bS ?_ GE186.out | refine bS ?_ GE187.out) | exact HB.out)) hb); have n4_ := Aside0.mk (hbox); have n5_ := Aside0.mk ((by rw [hg]; exact (below_size (by repeat (first | (with_reducible first | exact HB.out | apply bA | apply bN | apply bD | refine bS ?_ (IsS62.ge HI190.out) | refine bS ?_ GE186.out | refine bS ?_ GE187.out) | exact HB.out))) : w.heap.size ≤ gb194)); have n6_ := n5_; have n7_ := Aside0.mk ((by rw [hg]; exact Nat.ne_of_lt (blk_lt (hop BK186.out)) : gb186 ≠ gb194)); have n8_ := Aside0.mk ((by rw [hg]; exact Nat.ne_of_gt (blk_lt (hop BK186.out)) : gb194 ≠ gb186)); have n9_ := Aside0.mk ((by rw [hg]; exact Nat.ne_of_lt (blk_lt (hop BK187.out)) : gb187 ≠ gb194)); have n10_ := Aside0.mk ((by rw [hg]; exact Nat.ne_of_gt (blk_lt (hop BK187.out)) : gb194 ≠ gb187)); have n11_ := Aside0.mk ((by rw [hg]; exact Nat.ne_of_lt (IsS62.lt (show IsS62 w _ g190 t188 t193 from by repeat (first | (with_reducible first | exact HI190.out | apply IsS62.alloc | apply IsS62.drewN | apply IsS62.drew | apply IsS62.set_1 | refine IsS62.far ?_ NB190_186.out _ | refine IsS62.far ?_ NB190_187.out _) | exact HI190.out))) : g190 ≠ gb194)); have n12_ := Aside0.mk ((by rw [hg]; exact Nat.ne_of_gt (IsS62.lt (show IsS62 w _ g190 t188 t193 from by repeat (first | (with_reducible first | exact HI190.out | apply IsS62.alloc | apply IsS62.drewN | apply IsS62.drew | apply IsS62.set_1 | refine IsS62.far ?_ NB190_186.out _ | refine IsS62.far ?_ NB190_187.out _) | exact HI190.out))) : gb194 ≠ g190)); clear BK186; clear BK187; clear HI190; clear HB; have BK186 := n0_; have BK187 := n1_; have HI190 := n2_; have HB := n3_; have BK194 := n4_; have GW194 := n5_; have GE194 := n6_; have NB186_194 := n7_; have NB194_186 := n8_; have NB187_194 := n9_; have NB194_187 := n10_; have NB190_194 := n11_; have NB194_190 := n12_; clear n0_ n1_ n2_ n3_ n4_ n5_ n6_ n7_ n8_ n9_ n10_ n11_ n12_; clear hb hbox hg; have hnb69 := NB194_186.out; have hnc69 := NB186_194.out; have hnb70 := NB194_187.out; have hnc70 := NB187_194.out; have hnb71 := NB194_190.out; have hnc71 := NB190_194.out; have hcz72_0 : w68.cell? ⟨gb194, 0, none⟩ = some (.string (⟨#[]⟩ : ByteArray)) := (blk_cell BK194.out 0).trans rfl; have hcz72_1 : w68.cell? ⟨gb194, 1, none⟩ = some (.string (⟨#[]⟩ : ByteArray)) := (blk_cell BK194.out 1).trans rfl; have hfz72_0 := blk_frozen BK194.out 0; have hfz72_1 := blk_frozen BK194.out 1))
  have n0_ : Aside0 (((w68.setCell ⟨gb194, 0, none⟩ (.string t191)).setCell ⟨gb194, 1, none⟩ (.string t192)).heap[gb186]? = some (.cells #[.string (⟨#[]⟩ : ByteArray), .string (⟨#[]⟩ : ByteArray)] 35 (0, 0))) := ⟨by (with_reducible repeat (first | refine kN ?_ _ | refine kD ?_ | refine kA ?_ _)); refine blk_far ?_ NB186_194.out _; (with_reducible repeat (first | refine kN ?_ _ | refine kD ?_ | refine kA ?_ _)); refine blk_far ?_ NB186_194.out _; exact hop BK186.out⟩
  have n1_ : Aside0 (((w68.setCell ⟨gb194, 0, none⟩ (.string t191)).setCell ⟨gb194, 1, none⟩ (.string t192)).heap[gb187]? = some (.cells #[.string (⟨#[]⟩ : ByteArray), .string (⟨#[]⟩ : ByteArray)] 35 (0, 0))) := ⟨by (with_reducible repeat (first | refine kN ?_ _ | refine kD ?_ | refine kA ?_ _)); refine blk_far ?_ NB187_194.out _; (with_reducible repeat (first | refine kN ?_ _ | refine kD ?_ | refine kA ?_ _)); refine blk_far ?_ NB187_194.out _; exact hop BK187.out⟩
  have n2_ : Aside0 (((w68.setCell ⟨gb194, 0, none⟩ (.string t191)).setCell ⟨gb194, 1, none⟩ (.string t192)).heap[gb194]? = some (.cells #[.string t191, .string t192] 35 (0, 0))) := ⟨by (with_reducible repeat (first | refine kN ?_ _ | refine kD ?_ | refine kA ?_ _)); refine blk_put (cs := #[.string t191, .string (⟨#[]⟩ : ByteArray)]) ?_ 1 _ rfl; (with_reducible repeat (first | refine kN ?_ _ | refine kD ?_ | refine kA ?_ _)); refine blk_put (cs := #[.string (⟨#[]⟩ : ByteArray), .string (⟨#[]⟩ : ByteArray)]) ?_ 0 _ rfl; exact hop BK194.out⟩
  have n3_ : Aside0 (IsS62 w ((w68.setCell ⟨gb194, 0, none⟩ (.string t191)).setCell ⟨gb194, 1, none⟩ (.string t192)) g190 t188 t193) := ⟨by repeat (first | (with_reducible first | exact HI190.out | apply IsS62.alloc | apply IsS62.drewN | apply IsS62.drew | apply IsS62.set_1 | refine IsS62.far ?_ NB190_186.out _ | refine IsS62.far ?_ NB190_187.out _ | refine IsS62.far ?_ NB190_194.out _) | exact HI190.out)⟩
  have n4_ : Aside0 (Below w.heap.size w ((w68.setCell ⟨gb194, 0, none⟩ (.string t191)).setCell ⟨gb194, 1, none⟩ (.string t192))) := ⟨by repeat (first | (with_reducible first | exact HB.out | apply bA | apply bN | apply bD | refine bS ?_ (IsS62.ge HI190.out) | refine bS ?_ GE186.out | refine bS ?_ GE187.out | refine bS ?_ GE194.out) | exact HB.out)⟩
  (try clear BK186)
  (try clear BK187)
  (try clear BK194)
  (try clear HI190)
  (try clear HB)
  generalize ((w68.setCell ⟨gb194, 0, none⟩ (.string t191)).setCell ⟨gb194, 1, none⟩ (.string t192)) = w73 at n0_ n1_ n2_ n3_ n4_ ⊢
  have BK186 := n0_
  have BK187 := n1_
  have BK194 := n2_
  have HI190 := n3_
  have HB := n4_
  clear n0_ n1_ n2_ n3_ n4_
  have n0_ := Aside0.mk (blk_drew BK186.out)
  have n1_ := Aside0.mk (blk_drew BK187.out)
  have n2_ := Aside0.mk (blk_drew BK194.out)
  have n3_ := Aside0.mk (IsS62.drew HI190.out)
  have n4_ := Aside0.mk (below_drew1 HB.out)
  clear BK186
  clear BK187
  clear BK194
  clear HI190
  clear HB
  have BK186 := n0_
  have BK187 := n1_
  have BK194 := n2_
  have HI190 := n3_
  have HB := n4_
  clear n0_ n1_ n2_ n3_ n4_
  refine start_ (n := 13) (S := fun w' => w'.cell? ⟨gb194, 0, none⟩ = some (.string t191) ∧ w'.cell? ⟨gb194, 1, none⟩ = some (.string t192)) (ds := []) #[false, false, false, false, false, false, false, false, false, false, false, false, false] (by kernel_rfl) rfl rfl ⟨(blk_cell BK194.out 0).trans rfl, (blk_cell BK194.out 1).trans rfl⟩ (fun hHeld => ?_); refine with_tabW spec_DrawIntervalJoin.tab3 spec_DrawIntervalJoin.bits3 (fun HT_ HW_ => ?_)
  generalize w73.drew = w74 at BK186 BK187 BK194 HI190 HB hHeld ⊢
  refine pure_ (i := 1) (N := some 15) (v := ?_) (a' := ?_) #[false, true, false, false, false, false, false, false, false, false, false, false, false] rfl rfl (any_of HT_.out (by kernel_rfl)) (fun _ _ _ h => h) (Or.inl ⟨by rfl, ?_⟩) ?_ ?_
  rotate_left
  ·intro w'
   go_simp
   with_reducible rfl
  rotate_left
  ·simp only [Act.put, lT, lZ, lS, i64_w, i32_w]
   rfl
  refine take_ (i := 0) (N := some 14) (v := ?_) (a' := ?_) #[true, true, false, false, false, false, false, false, false, false, false, false, false] rfl rfl (take_ofW HT_.out HW_.out (by kernel_rfl)) (fun _ _ _ h => h) (Or.inl ⟨by rfl, ?_⟩) hHeld ?_ ?_
  rotate_left
  ·rintro w' ⟨s0, s1⟩
   go_simp
   with_reducible rfl
  rotate_left
  ·simp only [Act.put, lT, lZ, lS, i64_w, i32_w]
   rfl
  refine join_ (σ := Nat × Nat) 3 #[true, true, true, true, true, true, true, true, true, true, false, false, false] (fun s_ => [(16, .string t195), (17, .tuple #[.agg #[.string t197, .string t198], .agg #[.string t199, .string t200], .bool false]), (6, .pointer (some ⟨s_.1, 0, none⟩)), (7, .pointer (some ⟨s_.2, 0, none⟩)), (13, .tuple #[.agg #[.string t197, .string t198], .agg #[.string t199, .string t200], .bool false]), (18, .agg #[.string t197, .string t198]), (19, .agg #[.string t199, .string t200]), (20, .bool false)]) (fun s_ w' => (w'.cell? ⟨gb194, 0, none⟩ = some (.string t191) ∧ w'.cell? ⟨gb194, 1, none⟩ = some (.string t192)) ∧ (w'.heap[gb186]? = some (.cells #[.string (⟨#[]⟩ : ByteArray), .string (⟨#[]⟩ : ByteArray)] 35 (0, 0))) ∧ (w'.heap[gb187]? = some (.cells #[.string (⟨#[]⟩ : ByteArray), .string (⟨#[]⟩ : ByteArray)] 35 (0, 0))) ∧ (w'.heap[gb194]? = some (.cells #[.string t191, .string t192] 35 (0, 0))) ∧ (w'.heap[s_.1]? = some (.cells #[.string (⟨#[]⟩ : ByteArray), .string (⟨#[]⟩ : ByteArray)] 35 (0, 0))) ∧ (w'.heap[s_.2]? = some (.cells #[.string (⟨#[]⟩ : ByteArray), .string (⟨#[]⟩ : ByteArray)] 35 (0, 0))) ∧ (w.heap.size ≤ s_.1) ∧ (w.heap.size ≤ s_.1) ∧ (g190 ≠ s_.1) ∧ (s_.1 ≠ g190) ∧ (gb186 ≠ s_.1) ∧ (s_.1 ≠ gb186) ∧ (gb187 ≠ s_.1) ∧ (s_.1 ≠ gb187) ∧ (gb194 ≠ s_.1) ∧ (s_.1 ≠ gb194) ∧ (s_.2 ≠ s_.1) ∧ (s_.1 ≠ s_.2) ∧ (w.heap.size ≤ s_.2) ∧ (w.heap.size ≤ s_.2) ∧ (g190 ≠ s_.2) ∧ (s_.2 ≠ g190) ∧ (gb186 ≠ s_.2) ∧ (s_.2 ≠ gb186) ∧ (gb187 ≠ s_.2) ∧ (s_.2 ≠ gb187) ∧ (gb194 ≠ s_.2) ∧ (s_.2 ≠ gb194) ∧ (IsS62 w w' g190 t188 t196) ∧ (Below w.heap.size w w')) ?_ ?_
  rotate_left
  ·intro hJ2_3_8_9
   refine join_ (σ := Nat) 4 #[true, true, true, true, true, true, true, true, true, false, false, false, false] (fun s_ => [(16, .string t195), (17, .tuple #[.agg #[.string t197, .string t198], .agg #[.string t199, .string t200], .bool false]), (6, .pointer (some ⟨s_, 0, none⟩)), (13, .tuple #[.agg #[.string t197, .string t198], .agg #[.string t199, .string t200], .bool false]), (18, .agg #[.string t197, .string t198]), (19, .agg #[.string t199, .string t200]), (20, .bool false)]) (fun s_ w' => (w'.cell? ⟨gb194, 0, none⟩ = some (.string t191) ∧ w'.cell? ⟨gb194, 1, none⟩ = some (.string t192)) ∧ (w'.heap[gb186]? = some (.cells #[.string (⟨#[]⟩ : ByteArray), .string (⟨#[]⟩ : ByteArray)] 35 (0, 0))) ∧ (w'.heap[gb187]? = some (.cells #[.string (⟨#[]⟩ : ByteArray), .string (⟨#[]⟩ : ByteArray)] 35 (0, 0))) ∧ (w'.heap[gb194]? = some (.cells #[.string t191, .string t192] 35 (0, 0))) ∧ (w'.heap[s_]? = some (.cells #[.string (⟨#[]⟩ : ByteArray), .string (⟨#[]⟩ : ByteArray)] 35 (0, 0))) ∧ (w.heap.size ≤ s_) ∧ (w.heap.size ≤ s_) ∧ (g190 ≠ s_) ∧ (s_ ≠ g190) ∧ (gb186 ≠ s_) ∧ (s_ ≠ gb186) ∧ (gb187 ≠ s_) ∧ (s_ ≠ gb187) ∧ (gb194 ≠ s_) ∧ (s_ ≠ gb194) ∧ (IsS62 w w' g190 t188 t196) ∧ (Below w.heap.size w w')) ?_ ?_
   rotate_left
   ·intro hJ2_3_8
    refine join_ (σ := Nat) 4 #[true, true, true, true, true, true, true, true, false, true, false, false, false] (fun s_ => [(16, .string t195), (17, .tuple #[.agg #[.string t197, .string t198], .agg #[.string t199, .string t200], .bool false]), (7, .pointer (some ⟨s_, 0, none⟩)), (13, .tuple #[.agg #[.string t197, .string t198], .agg #[.string t199, .string t200], .bool false]), (18, .agg #[.string t197, .string t198]), (19, .agg #[.string t199, .string t200]), (20, .bool false)]) (fun s_ w' => (w'.cell? ⟨gb194, 0, none⟩ = some (.string t191) ∧ w'.cell? ⟨gb194, 1, none⟩ = some (.string t192)) ∧ (w'.heap[gb186]? = some (.cells #[.string (⟨#[]⟩ : ByteArray), .string (⟨#[]⟩ : ByteArray)] 35 (0, 0))) ∧ (w'.heap[gb187]? = some (.cells #[.string (⟨#[]⟩ : ByteArray), .string (⟨#[]⟩ : ByteArray)] 35 (0, 0))) ∧ (w'.heap[gb194]? = some (.cells #[.string t191, .string t192] 35 (0, 0))) ∧ (w'.heap[s_]? = some (.cells #[.string (⟨#[]⟩ : ByteArray), .string (⟨#[]⟩ : ByteArray)] 35 (0, 0))) ∧ (w.heap.size ≤ s_) ∧ (w.heap.size ≤ s_) ∧ (g190 ≠ s_) ∧ (s_ ≠ g190) ∧ (gb186 ≠ s_) ∧ (s_ ≠ gb186) ∧ (gb187 ≠ s_) ∧ (s_ ≠ gb187) ∧ (gb194 ≠ s_) ∧ (s_ ≠ gb194) ∧ (IsS62 w w' g190 t188 t196) ∧ (Below w.heap.size w w')) ?_ ?_
    rotate_left
    ·intro hJ2_3_9
     refine join_ (σ := Nat × Nat) 8 #[true, true, true, false, false, false, false, false, true, true, false, false, false] (fun s_ => [(16, .string t195), (6, .pointer (some ⟨s_.1, 0, none⟩)), (7, .pointer (some ⟨s_.2, 0, none⟩))]) (fun s_ w' => (w'.cell? ⟨gb194, 0, none⟩ = some (.string t191) ∧ w'.cell? ⟨gb194, 1, none⟩ = some (.string t192)) ∧ (w'.heap[gb186]? = some (.cells #[.string (⟨#[]⟩ : ByteArray), .string (⟨#[]⟩ : ByteArray)] 35 (0, 0))) ∧ (w'.heap[gb187]? = some (.cells #[.string (⟨#[]⟩ : ByteArray), .string (⟨#[]⟩ : ByteArray)] 35 (0, 0))) ∧ (w'.heap[gb194]? = some (.cells #[.string t191, .string t192] 35 (0, 0))) ∧ (w'.heap[s_.1]? = some (.cells #[.string (⟨#[]⟩ : ByteArray), .string (⟨#[]⟩ : ByteArray)] 35 (0, 0))) ∧ (w'.heap[s_.2]? = some (.cells #[.string (⟨#[]⟩ : ByteArray), .string (⟨#[]⟩ : ByteArray)] 35 (0, 0))) ∧ (w.heap.size ≤ s_.1) ∧ (w.heap.size ≤ s_.1) ∧ (g190 ≠ s_.1) ∧ (s_.1 ≠ g190) ∧ (gb186 ≠ s_.1) ∧ (s_.1 ≠ gb186) ∧ (gb187 ≠ s_.1) ∧ (s_.1 ≠ gb187) ∧ (gb194 ≠ s_.1) ∧ (s_.1 ≠ gb194) ∧ (s_.2 ≠ s_.1) ∧ (s_.1 ≠ s_.2) ∧ (w.heap.size ≤ s_.2) ∧ (w.heap.size ≤ s_.2) ∧ (g190 ≠ s_.2) ∧ (s_.2 ≠ g190) ∧ (gb186 ≠ s_.2) ∧ (s_.2 ≠ gb186) ∧ (gb187 ≠ s_.2) ∧ (s_.2 ≠ gb187) ∧ (gb194 ≠ s_.2) ∧ (s_.2 ≠ gb194) ∧ (IsS62 w w' g190 t188 t196) ∧ (Below w.heap.size w w')) ?_ ?_
     rotate_left
     ·intro hJ2_8_9
      refine join_ (σ := Unit) 5 #[true, true, true, true, true, true, true, true, false, false, false, false, false] (fun s_ => [(16, .string t195), (17, .tuple #[.agg #[.string t197, .string t198], .agg #[.string t199, .string t200], .bool false]), (13, .tuple #[.agg #[.string t197, .string t198], .agg #[.string t199, .string t200], .bool false]), (18, .agg #[.string t197, .string t198]), (19, .agg #[.string t199, .string t200]), (20, .bool false)]) (fun s_ w' => (w'.cell? ⟨gb194, 0, none⟩ = some (.string t191) ∧ w'.cell? ⟨gb194, 1, none⟩ = some (.string t192)) ∧ (w'.heap[gb186]? = some (.cells #[.string (⟨#[]⟩ : ByteArray), .string (⟨#[]⟩ : ByteArray)] 35 (0, 0))) ∧ (w'.heap[gb187]? = some (.cells #[.string (⟨#[]⟩ : ByteArray), .string (⟨#[]⟩ : ByteArray)] 35 (0, 0))) ∧ (w'.heap[gb194]? = some (.cells #[.string t191, .string t192] 35 (0, 0))) ∧ (IsS62 w w' g190 t188 t196) ∧ (Below w.heap.size w w')) ?_ ?_
      rotate_left
      ·intro hJ2_3
       refine join_ (σ := Nat) 9 #[true, true, true, false, false, false, false, false, true, false, false, false, false] (fun s_ => [(16, .string t195), (6, .pointer (some ⟨s_, 0, none⟩))]) (fun s_ w' => (w'.cell? ⟨gb194, 0, none⟩ = some (.string t191) ∧ w'.cell? ⟨gb194, 1, none⟩ = some (.string t192)) ∧ (w'.heap[gb186]? = some (.cells #[.string (⟨#[]⟩ : ByteArray), .string (⟨#[]⟩ : ByteArray)] 35 (0, 0))) ∧ (w'.heap[gb187]? = some (.cells #[.string (⟨#[]⟩ : ByteArray), .string (⟨#[]⟩ : ByteArray)] 35 (0, 0))) ∧ (w'.heap[gb194]? = some (.cells #[.string t191, .string t192] 35 (0, 0))) ∧ (w'.heap[s_]? = some (.cells #[.string (⟨#[]⟩ : ByteArray), .string (⟨#[]⟩ : ByteArray)] 35 (0, 0))) ∧ (w.heap.size ≤ s_) ∧ (w.heap.size ≤ s_) ∧ (g190 ≠ s_) ∧ (s_ ≠ g190) ∧ (gb186 ≠ s_) ∧ (s_ ≠ gb186) ∧ (gb187 ≠ s_) ∧ (s_ ≠ gb187) ∧ (gb194 ≠ s_) ∧ (s_ ≠ gb194) ∧ (IsS62 w w' g190 t188 t196) ∧ (Below w.heap.size w w')) ?_ ?_
       rotate_left
       ·intro hJ2_8
        refine join_ (σ := Nat) 9 #[true, true, true, false, false, false, false, false, false, true, false, false, false] (fun s_ => [(16, .string t195), (7, .pointer (some ⟨s_, 0, none⟩))]) (fun s_ w' => (w'.cell? ⟨gb194, 0, none⟩ = some (.string t191) ∧ w'.cell? ⟨gb194, 1, none⟩ = some (.string t192)) ∧ (w'.heap[gb186]? = some (.cells #[.string (⟨#[]⟩ : ByteArray), .string (⟨#[]⟩ : ByteArray)] 35 (0, 0))) ∧ (w'.heap[gb187]? = some (.cells #[.string (⟨#[]⟩ : ByteArray), .string (⟨#[]⟩ : ByteArray)] 35 (0, 0))) ∧ (w'.heap[gb194]? = some (.cells #[.string t191, .string t192] 35 (0, 0))) ∧ (w'.heap[s_]? = some (.cells #[.string (⟨#[]⟩ : ByteArray), .string (⟨#[]⟩ : ByteArray)] 35 (0, 0))) ∧ (w.heap.size ≤ s_) ∧ (w.heap.size ≤ s_) ∧ (g190 ≠ s_) ∧ (s_ ≠ g190) ∧ (gb186 ≠ s_) ∧ (s_ ≠ gb186) ∧ (gb187 ≠ s_) ∧ (s_ ≠ gb187) ∧ (gb194 ≠ s_) ∧ (s_ ≠ gb194) ∧ (IsS62 w w' g190 t188 t196) ∧ (Below w.heap.size w w')) ?_ ?_
        rotate_left
        ·intro hJ2_9
         refine join_ (σ := Nat × Nat) 9 #[true, true, false, false, false, false, false, false, true, true, false, false, false] (fun s_ => [(6, .pointer (some ⟨s_.1, 0, none⟩)), (7, .pointer (some ⟨s_.2, 0, none⟩))]) (fun s_ w' => (w'.cell? ⟨gb194, 0, none⟩ = some (.string t191) ∧ w'.cell? ⟨gb194, 1, none⟩ = some (.string t192)) ∧ (w'.heap[gb186]? = some (.cells #[.string (⟨#[]⟩ : ByteArray), .string (⟨#[]⟩ : ByteArray)] 35 (0, 0))) ∧ (w'.heap[gb187]? = some (.cells #[.string (⟨#[]⟩ : ByteArray), .string (⟨#[]⟩ : ByteArray)] 35 (0, 0))) ∧ (w'.heap[gb194]? = some (.cells #[.string t191, .string t192] 35 (0, 0))) ∧ (w'.heap[s_.1]? = some (.cells #[.string (⟨#[]⟩ : ByteArray), .string (⟨#[]⟩ : ByteArray)] 35 (0, 0))) ∧ (w'.heap[s_.2]? = some (.cells #[.string (⟨#[]⟩ : ByteArray), .string (⟨#[]⟩ : ByteArray)] 35 (0, 0))) ∧ (w.heap.size ≤ s_.1) ∧ (w.heap.size ≤ s_.1) ∧ (g190 ≠ s_.1) ∧ (s_.1 ≠ g190) ∧ (gb186 ≠ s_.1) ∧ (s_.1 ≠ gb186) ∧ (gb187 ≠ s_.1) ∧ (s_.1 ≠ gb187) ∧ (gb194 ≠ s_.1) ∧ (s_.1 ≠ gb194) ∧ (s_.2 ≠ s_.1) ∧ (s_.1 ≠ s_.2) ∧ (w.heap.size ≤ s_.2) ∧ (w.heap.size ≤ s_.2) ∧ (g190 ≠ s_.2) ∧ (s_.2 ≠ g190) ∧ (gb186 ≠ s_.2) ∧ (s_.2 ≠ gb186) ∧ (gb187 ≠ s_.2) ∧ (s_.2 ≠ gb187) ∧ (gb194 ≠ s_.2) ∧ (s_.2 ≠ gb194) ∧ (IsS62 w w' g190 t188 t193) ∧ (Below w.heap.size w w')) ?_ ?_
         rotate_left
         ·intro hJ8_9
          refine join_ (σ := Unit) 10 #[true, true, true, false, false, false, false, false, false, false, false, false, false] (fun s_ => [(16, .string t195)]) (fun s_ w' => (w'.cell? ⟨gb194, 0, none⟩ = some (.string t191) ∧ w'.cell? ⟨gb194, 1, none⟩ = some (.string t192)) ∧ (w'.heap[gb186]? = some (.cells #[.string (⟨#[]⟩ : ByteArray), .string (⟨#[]⟩ : ByteArray)] 35 (0, 0))) ∧ (w'.heap[gb187]? = some (.cells #[.string (⟨#[]⟩ : ByteArray), .string (⟨#[]⟩ : ByteArray)] 35 (0, 0))) ∧ (w'.heap[gb194]? = some (.cells #[.string t191, .string t192] 35 (0, 0))) ∧ (IsS62 w w' g190 t188 t196) ∧ (Below w.heap.size w w')) ?_ ?_
          rotate_left
          ·intro hJ2
           refine join_ (σ := Nat) 10 #[true, true, false, false, false, false, false, false, true, false, false, false, false] (fun s_ => [(6, .pointer (some ⟨s_, 0, none⟩))]) (fun s_ w' => (w'.cell? ⟨gb194, 0, none⟩ = some (.string t191) ∧ w'.cell? ⟨gb194, 1, none⟩ = some (.string t192)) ∧ (w'.heap[gb186]? = some (.cells #[.string (⟨#[]⟩ : ByteArray), .string (⟨#[]⟩ : ByteArray)] 35 (0, 0))) ∧ (w'.heap[gb187]? = some (.cells #[.string (⟨#[]⟩ : ByteArray), .string (⟨#[]⟩ : ByteArray)] 35 (0, 0))) ∧ (w'.heap[gb194]? = some (.cells #[.string t191, .string t192] 35 (0, 0))) ∧ (w'.heap[s_]? = some (.cells #[.string (⟨#[]⟩ : ByteArray), .string (⟨#[]⟩ : ByteArray)] 35 (0, 0))) ∧ (w.heap.size ≤ s_) ∧ (w.heap.size ≤ s_) ∧ (g190 ≠ s_) ∧ (s_ ≠ g190) ∧ (gb186 ≠ s_) ∧ (s_ ≠ gb186) ∧ (gb187 ≠ s_) ∧ (s_ ≠ gb187) ∧ (gb194 ≠ s_) ∧ (s_ ≠ gb194) ∧ (IsS62 w w' g190 t188 t193) ∧ (Below w.heap.size w w')) ?_ ?_
           rotate_left
           ·intro hJ8
            refine join_ (σ := Nat) 10 #[true, true, false, false, false, false, false, false, false, true, false, false, false] (fun s_ => [(7, .pointer (some ⟨s_, 0, none⟩))]) (fun s_ w' => (w'.cell? ⟨gb194, 0, none⟩ = some (.string t191) ∧ w'.cell? ⟨gb194, 1, none⟩ = some (.string t192)) ∧ (w'.heap[gb186]? = some (.cells #[.string (⟨#[]⟩ : ByteArray), .string (⟨#[]⟩ : ByteArray)] 35 (0, 0))) ∧ (w'.heap[gb187]? = some (.cells #[.string (⟨#[]⟩ : ByteArray), .string (⟨#[]⟩ : ByteArray)] 35 (0, 0))) ∧ (w'.heap[gb194]? = some (.cells #[.string t191, .string t192] 35 (0, 0))) ∧ (w'.heap[s_]? = some (.cells #[.string (⟨#[]⟩ : ByteArray), .string (⟨#[]⟩ : ByteArray)] 35 (0, 0))) ∧ (w.heap.size ≤ s_) ∧ (w.heap.size ≤ s_) ∧ (g190 ≠ s_) ∧ (s_ ≠ g190) ∧ (gb186 ≠ s_) ∧ (s_ ≠ gb186) ∧ (gb187 ≠ s_) ∧ (s_ ≠ gb187) ∧ (gb194 ≠ s_) ∧ (s_ ≠ gb194) ∧ (IsS62 w w' g190 t188 t193) ∧ (Below w.heap.size w w')) ?_ ?_
            rotate_left
            ·intro hJ9
             refine three_ (i := 2) (j := 8) (k := 9) (Ni := some 16) (Nj := some 6) (Nk := some 7) #[true, true, true, false, false, false, false, false, false, false, false, false, false] #[true, true, false, false, false, false, false, false, true, false, false, false, false] #[true, true, false, false, false, false, false, false, false, true, false, false, false] rfl rfl rfl rfl rfl rfl (three_of HT_.out (by kernel_rfl)) (by decide) (by decide) (by decide) (fun K hK => ?_) (fun K hK => ?_) (fun K hK => ?_)
             ·skip
              refine goes_ Try.func45 (by kernel_rfl) rfl #[.pointer (some ⟨g190, 0, none⟩), .int .i64 0] (by rfl) rfl rfl (by (try simp only [List.map_toArray, List.map_cons, List.map_nil]); first | done | rfl | (simp only [List.length_drop, List.length_take]; rfl)) ?_
              with_reducible refine (spec_l20Key.calls k g190 t188 t193 0 t195 t196 w _ ?side1 ?side2 A4.out).mono ?_
              (case side1 => repeat (first | (with_reducible first | exact HI190.out | apply IsS62.alloc | apply IsS62.drewN | apply IsS62.drew | apply IsS62.set_1 | refine IsS62.far ?_ NB190_186.out _ | refine IsS62.far ?_ NB190_187.out _ | refine IsS62.far ?_ NB190_194.out _) | exact HI190.out))
              (case side2 => repeat (first | (with_reducible first | exact HB.out | apply bA | apply bN | apply bD | refine bS ?_ (IsS62.ge HI190.out) | refine bS ?_ GE186.out | refine bS ?_ GE187.out | refine bS ?_ GE194.out) | exact HB.out))
              rintro e w75 ⟨rfl, hi, hb, hk⟩
              refine ⟨_, rfl, ?_⟩
              have n0_ := Aside0.mk (KeepBut.blk hk (g' := gb186) (o := .cells #[.string (⟨#[]⟩ : ByteArray), .string (⟨#[]⟩ : ByteArray)] 35 (0, 0)) (by exact hop BK186.out) NB186_190.out (by simp))
              have n1_ := Aside0.mk (KeepBut.blk hk (g' := gb187) (o := .cells #[.string (⟨#[]⟩ : ByteArray), .string (⟨#[]⟩ : ByteArray)] 35 (0, 0)) (by exact hop BK187.out) NB187_190.out (by simp))
              have n2_ := Aside0.mk (KeepBut.blk hk (g' := gb194) (o := .cells #[.string t191, .string t192] 35 (0, 0)) (by exact hop BK194.out) NB194_190.out (by simp))
              have n3_ := Aside0.mk (hb)
              have n4_ := Aside0.mk (hi)
              clear BK186
              clear BK187
              clear BK194
              clear HB
              clear HI190
              have BK186 := n0_
              have BK187 := n1_
              have BK194 := n2_
              have HB := n3_
              have HI190 := n4_
              clear n0_ n1_ n2_ n3_ n4_
              (try clear hb)
              (try clear hb2)
              (try clear hk)
              (try clear hi)
              refine hK.out _ _ ⟨(blk_cell BK194.out 0).trans rfl, (blk_cell BK194.out 1).trans rfl⟩ (fun hHeld => ?_)
              clear hK K
              refine norm_ (a' := ?_) ?_ ?_
              rotate_left
              ·show Act.put _ (some 16) _ = _
               simp only [Act.put, lT, lZ, lS, i64_w, i32_w]
               rfl
              exact norm_ (by simp only [putAll, Act.put, lT, lZ, lS] <;> rfl) (hJ2 () _ ⟨hHeld, (by exact hop BK186.out), (by exact hop BK187.out), (by exact hop BK194.out), (by repeat (first | (with_reducible first | exact HI190.out | apply IsS62.alloc | apply IsS62.drewN | apply IsS62.drew | apply IsS62.set_1 | refine IsS62.far ?_ NB190_186.out _ | refine IsS62.far ?_ NB190_187.out _ | refine IsS62.far ?_ NB190_194.out _) | exact HI190.out)), (by repeat (first | (with_reducible first | exact HB.out | apply bA | apply bN | apply bD | refine bS ?_ (IsS62.ge HI190.out) | refine bS ?_ GE186.out | refine bS ?_ GE187.out | refine bS ?_ GE194.out) | exact HB.out))⟩)
             ·skip
              refine box_step ?hg (N := 6) ?hd (cs := #[.string (⟨#[]⟩ : ByteArray), .string (⟨#[]⟩ : ByteArray)]) (t := 35) ?hr ?_; (case hd => rfl); (case hg => rfl); (case hr => first | (go_simp; done) | (go_simp; rfl))
              intro gb202 hg w75 hbox hb
              have n0_ := Aside0.mk (blk_below (hop BK186.out) hb)
              have n1_ := Aside0.mk (blk_below (hop BK187.out) hb)
              have n2_ := Aside0.mk (IsS62.below (by repeat (first | (with_reducible first | exact HI190.out | apply IsS62.alloc | apply IsS62.drewN | apply IsS62.drew | apply IsS62.set_1 | refine IsS62.far ?_ NB190_186.out _ | refine IsS62.far ?_ NB190_187.out _ | refine IsS62.far ?_ NB190_194.out _) | exact HI190.out)) hb)
              have n3_ := Aside0.mk (blk_below (hop BK194.out) hb)
              have n4_ := Aside0.mk (below_step (by repeat (first | (with_reducible first | exact HB.out | apply bA | apply bN | apply bD | refine bS ?_ (IsS62.ge HI190.out) | refine bS ?_ GE186.out | refine bS ?_ GE187.out | refine bS ?_ GE194.out) | exact HB.out)) hb)
              have n5_ := Aside0.mk (hbox)
              have n6_ := Aside0.mk ((by rw [hg]; exact (below_size (by repeat (first | (with_reducible first | exact HB.out | apply bA | apply bN | apply bD | refine bS ?_ (IsS62.ge HI190.out) | refine bS ?_ GE186.out | refine bS ?_ GE187.out | refine bS ?_ GE194.out) | exact HB.out))) : w.heap.size ≤ gb202))
              have n7_ := n6_
              have n8_ := Aside0.mk ((by rw [hg]; exact Nat.ne_of_lt (blk_lt (hop BK186.out)) : gb186 ≠ gb202))
              have n9_ := Aside0.mk ((by rw [hg]; exact Nat.ne_of_gt (blk_lt (hop BK186.out)) : gb202 ≠ gb186))
              have n10_ := Aside0.mk ((by rw [hg]; exact Nat.ne_of_lt (blk_lt (hop BK187.out)) : gb187 ≠ gb202))
              have n11_ := Aside0.mk ((by rw [hg]; exact Nat.ne_of_gt (blk_lt (hop BK187.out)) : gb202 ≠ gb187))
              have n12_ := Aside0.mk ((by rw [hg]; exact Nat.ne_of_lt (blk_lt (hop BK194.out)) : gb194 ≠ gb202))
              have n13_ := Aside0.mk ((by rw [hg]; exact Nat.ne_of_gt (blk_lt (hop BK194.out)) : gb202 ≠ gb194))
              have n14_ := Aside0.mk ((by rw [hg]; exact Nat.ne_of_lt (IsS62.lt (show IsS62 w _ g190 t188 t193 from by repeat (first | (with_reducible first | exact HI190.out | apply IsS62.alloc | apply IsS62.drewN | apply IsS62.drew | apply IsS62.set_1 | refine IsS62.far ?_ NB190_186.out _ | refine IsS62.far ?_ NB190_187.out _ | refine IsS62.far ?_ NB190_194.out _) | exact HI190.out))) : g190 ≠ gb202))
              have n15_ := Aside0.mk ((by rw [hg]; exact Nat.ne_of_gt (IsS62.lt (show IsS62 w _ g190 t188 t193 from by repeat (first | (with_reducible first | exact HI190.out | apply IsS62.alloc | apply IsS62.drewN | apply IsS62.drew | apply IsS62.set_1 | refine IsS62.far ?_ NB190_186.out _ | refine IsS62.far ?_ NB190_187.out _ | refine IsS62.far ?_ NB190_194.out _) | exact HI190.out))) : gb202 ≠ g190))
              clear BK186
              clear BK187
              clear HI190
              clear BK194
              clear HB
              have BK186 := n0_
              have BK187 := n1_
              have HI190 := n2_
              have BK194 := n3_
              have HB := n4_
              have BK202 := n5_
              have GW202 := n6_
              have GE202 := n7_
              have NB186_202 := n8_
              have NB202_186 := n9_
              have NB187_202 := n10_
              have NB202_187 := n11_
              have NB194_202 := n12_
              have NB202_194 := n13_
              have NB190_202 := n14_
              have NB202_190 := n15_
              clear n0_ n1_ n2_ n3_ n4_ n5_ n6_ n7_ n8_ n9_ n10_ n11_ n12_ n13_ n14_ n15_
              clear hb hbox hg
              refine hK.out _ _ ⟨(blk_cell BK194.out 0).trans rfl, (blk_cell BK194.out 1).trans rfl⟩ (fun hHeld => ?_)
              clear hK K
              refine norm_ (a' := ?_) ?_ ?_
              rotate_left
              ·show Act.put _ (some 6) _ = _
               simp only [Act.put, lT, lZ, lS, i64_w, i32_w]
               rfl
              exact norm_ (by simp only [putAll, Act.put, lT, lZ, lS] <;> rfl) (hJ8 (gb202) _ ⟨hHeld, (by exact hop BK186.out), (by exact hop BK187.out), (by exact hop BK194.out), (by exact hop BK202.out), GW202.out, GE202.out, NB190_202.out, NB202_190.out, NB186_202.out, NB202_186.out, NB187_202.out, NB202_187.out, NB194_202.out, NB202_194.out, (by repeat (first | (with_reducible first | exact HI190.out | apply IsS62.alloc | apply IsS62.drewN | apply IsS62.drew | apply IsS62.set_1 | refine IsS62.far ?_ NB190_186.out _ | refine IsS62.far ?_ NB190_187.out _ | refine IsS62.far ?_ NB190_194.out _ | refine IsS62.far ?_ NB190_202.out _) | exact HI190.out)), (by repeat (first | (with_reducible first | exact HB.out | apply bA | apply bN | apply bD | refine bS ?_ (IsS62.ge HI190.out) | refine bS ?_ GE186.out | refine bS ?_ GE187.out | refine bS ?_ GE194.out | refine bS ?_ GE202.out) | exact HB.out))⟩)
             ·skip
              refine box_step ?hg (N := 7) ?hd (cs := #[.string (⟨#[]⟩ : ByteArray), .string (⟨#[]⟩ : ByteArray)]) (t := 35) ?hr ?_; (case hd => rfl); (case hg => rfl); (case hr => first | (go_simp; done) | (go_simp; rfl))
              intro gb203 hg w75 hbox hb
              have n0_ := Aside0.mk (blk_below (hop BK186.out) hb)
              have n1_ := Aside0.mk (blk_below (hop BK187.out) hb)
              have n2_ := Aside0.mk (IsS62.below (by repeat (first | (with_reducible first | exact HI190.out | apply IsS62.alloc | apply IsS62.drewN | apply IsS62.drew | apply IsS62.set_1 | refine IsS62.far ?_ NB190_186.out _ | refine IsS62.far ?_ NB190_187.out _ | refine IsS62.far ?_ NB190_194.out _) | exact HI190.out)) hb)
              have n3_ := Aside0.mk (blk_below (hop BK194.out) hb)
              have n4_ := Aside0.mk (below_step (by repeat (first | (with_reducible first | exact HB.out | apply bA | apply bN | apply bD | refine bS ?_ (IsS62.ge HI190.out) | refine bS ?_ GE186.out | refine bS ?_ GE187.out | refine bS ?_ GE194.out) | exact HB.out)) hb)
              have n5_ := Aside0.mk (hbox)
              have n6_ := Aside0.mk ((by rw [hg]; exact (below_size (by repeat (first | (with_reducible first | exact HB.out | apply bA | apply bN | apply bD | refine bS ?_ (IsS62.ge HI190.out) | refine bS ?_ GE186.out | refine bS ?_ GE187.out | refine bS ?_ GE194.out) | exact HB.out))) : w.heap.size ≤ gb203))
              have n7_ := n6_
              have n8_ := Aside0.mk ((by rw [hg]; exact Nat.ne_of_lt (blk_lt (hop BK186.out)) : gb186 ≠ gb203))
              have n9_ := Aside0.mk ((by rw [hg]; exact Nat.ne_of_gt (blk_lt (hop BK186.out)) : gb203 ≠ gb186))
              have n10_ := Aside0.mk ((by rw [hg]; exact Nat.ne_of_lt (blk_lt (hop BK187.out)) : gb187 ≠ gb203))
              have n11_ := Aside0.mk ((by rw [hg]; exact Nat.ne_of_gt (blk_lt (hop BK187.out)) : gb203 ≠ gb187))
              have n12_ := Aside0.mk ((by rw [hg]; exact Nat.ne_of_lt (blk_lt (hop BK194.out)) : gb194 ≠ gb203))
              have n13_ := Aside0.mk ((by rw [hg]; exact Nat.ne_of_gt (blk_lt (hop BK194.out)) : gb203 ≠ gb194))
              have n14_ := Aside0.mk ((by rw [hg]; exact Nat.ne_of_lt (IsS62.lt (show IsS62 w _ g190 t188 t193 from by repeat (first | (with_reducible first | exact HI190.out | apply IsS62.alloc | apply IsS62.drewN | apply IsS62.drew | apply IsS62.set_1 | refine IsS62.far ?_ NB190_186.out _ | refine IsS62.far ?_ NB190_187.out _ | refine IsS62.far ?_ NB190_194.out _) | exact HI190.out))) : g190 ≠ gb203))
              have n15_ := Aside0.mk ((by rw [hg]; exact Nat.ne_of_gt (IsS62.lt (show IsS62 w _ g190 t188 t193 from by repeat (first | (with_reducible first | exact HI190.out | apply IsS62.alloc | apply IsS62.drewN | apply IsS62.drew | apply IsS62.set_1 | refine IsS62.far ?_ NB190_186.out _ | refine IsS62.far ?_ NB190_187.out _ | refine IsS62.far ?_ NB190_194.out _) | exact HI190.out))) : gb203 ≠ g190))
              clear BK186
              clear BK187
              clear HI190
              clear BK194
              clear HB
              have BK186 := n0_
              have BK187 := n1_
              have HI190 := n2_
              have BK194 := n3_
              have HB := n4_
              have BK203 := n5_
              have GW203 := n6_
              have GE203 := n7_
              have NB186_203 := n8_
              have NB203_186 := n9_
              have NB187_203 := n10_
              have NB203_187 := n11_
              have NB194_203 := n12_
              have NB203_194 := n13_
              have NB190_203 := n14_
              have NB203_190 := n15_
              clear n0_ n1_ n2_ n3_ n4_ n5_ n6_ n7_ n8_ n9_ n10_ n11_ n12_ n13_ n14_ n15_
              clear hb hbox hg
              refine hK.out _ _ ⟨(blk_cell BK194.out 0).trans rfl, (blk_cell BK194.out 1).trans rfl⟩ (fun hHeld => ?_)
              clear hK K
              refine norm_ (a' := ?_) ?_ ?_
              rotate_left
              ·show Act.put _ (some 7) _ = _
               simp only [Act.put, lT, lZ, lS, i64_w, i32_w]
               rfl
              exact norm_ (by simp only [putAll, Act.put, lT, lZ, lS] <;> rfl) (hJ9 (gb203) _ ⟨hHeld, (by exact hop BK186.out), (by exact hop BK187.out), (by exact hop BK194.out), (by exact hop BK203.out), GW203.out, GE203.out, NB190_203.out, NB203_190.out, NB186_203.out, NB203_186.out, NB187_203.out, NB203_187.out, NB194_203.out, NB203_194.out, (by repeat (first | (with_reducible first | exact HI190.out | apply IsS62.alloc | apply IsS62.drewN | apply IsS62.drew | apply IsS62.set_1 | refine IsS62.far ?_ NB190_186.out _ | refine IsS62.far ?_ NB190_187.out _ | refine IsS62.far ?_ NB190_194.out _ | refine IsS62.far ?_ NB190_203.out _) | exact HI190.out)), (by repeat (first | (with_reducible first | exact HB.out | apply bA | apply bN | apply bD | refine bS ?_ (IsS62.ge HI190.out) | refine bS ?_ GE186.out | refine bS ?_ GE187.out | refine bS ?_ GE194.out | refine bS ?_ GE203.out) | exact HB.out))⟩)
            ·skip
             rintro gb203 w76 ⟨hS_, h0_, h1_, h2_, h3_, h4_, h5_, h6_, h7_, h8_, h9_, h10_, h11_, h12_, h13_, h14_, h15_⟩
             have n0_ : Aside0 (w76.heap[gb186]? = some (.cells #[.string (⟨#[]⟩ : ByteArray), .string (⟨#[]⟩ : ByteArray)] 35 (0, 0))) := ⟨h0_⟩
             have n1_ : Aside0 (w76.heap[gb187]? = some (.cells #[.string (⟨#[]⟩ : ByteArray), .string (⟨#[]⟩ : ByteArray)] 35 (0, 0))) := ⟨h1_⟩
             have n2_ : Aside0 (w76.heap[gb194]? = some (.cells #[.string t191, .string t192] 35 (0, 0))) := ⟨h2_⟩
             have n3_ : Aside0 (w76.heap[gb203]? = some (.cells #[.string (⟨#[]⟩ : ByteArray), .string (⟨#[]⟩ : ByteArray)] 35 (0, 0))) := ⟨h3_⟩
             have n4_ : Aside0 (w.heap.size ≤ gb203) := ⟨h4_⟩
             have n5_ : Aside0 (w.heap.size ≤ gb203) := ⟨h5_⟩
             have n6_ : Aside0 (g190 ≠ gb203) := ⟨h6_⟩
             have n7_ : Aside0 (gb203 ≠ g190) := ⟨h7_⟩
             have n8_ : Aside0 (gb186 ≠ gb203) := ⟨h8_⟩
             have n9_ : Aside0 (gb203 ≠ gb186) := ⟨h9_⟩
             have n10_ : Aside0 (gb187 ≠ gb203) := ⟨h10_⟩
             have n11_ : Aside0 (gb203 ≠ gb187) := ⟨h11_⟩
             have n12_ : Aside0 (gb194 ≠ gb203) := ⟨h12_⟩
             have n13_ : Aside0 (gb203 ≠ gb194) := ⟨h13_⟩
             have n14_ : Aside0 (IsS62 w w76 g190 t188 t193) := ⟨h14_⟩
             have n15_ : Aside0 (Below w.heap.size w w76) := ⟨h15_⟩
             clear BK186
             clear BK187
             clear BK194
             clear HI190
             clear HB
             clear h0_ h1_ h2_ h3_ h4_ h5_ h6_ h7_ h8_ h9_ h10_ h11_ h12_ h13_ h14_ h15_
             have BK186 := n0_
             have BK187 := n1_
             have BK194 := n2_
             have BK203 := n3_
             have GW203 := n4_
             have GE203 := n5_
             have NB190_203 := n6_
             have NB203_190 := n7_
             have NB186_203 := n8_
             have NB203_186 := n9_
             have NB187_203 := n10_
             have NB203_187 := n11_
             have NB194_203 := n12_
             have NB203_194 := n13_
             have HI190 := n14_
             have HB := n15_
             clear n0_ n1_ n2_ n3_ n4_ n5_ n6_ n7_ n8_ n9_ n10_ n11_ n12_ n13_ n14_ n15_
             have hHeld : w76.cell? ⟨gb194, 0, none⟩ = some (.string t191) ∧ w76.cell? ⟨gb194, 1, none⟩ = some (.string t192) := hS_
             refine norm_ (a' := ?_) ?_ ?_
             rotate_left
             ·simp only [putAll, Act.put, lT, lZ, lS]
              rfl
             refine two_ (i := 2) (j := 8) (Ni := some 16) (Nj := some 6) #[true, true, true, false, false, false, false, false, false, true, false, false, false] #[true, true, false, false, false, false, false, false, true, true, false, false, false] rfl rfl rfl rfl (two_of HT_.out (by kernel_rfl)) (by decide) (by decide) (fun K hK => ?_) (fun K hK => ?_)
             ·skip
              refine goes_ Try.func45 (by kernel_rfl) rfl #[.pointer (some ⟨g190, 0, none⟩), .int .i64 0] (by rfl) rfl rfl (by (try simp only [List.map_toArray, List.map_cons, List.map_nil]); first | done | rfl | (simp only [List.length_drop, List.length_take]; rfl)) ?_
              with_reducible refine (spec_l20Key.calls k g190 t188 t193 0 t195 t196 w _ ?side1 ?side2 A4.out).mono ?_
              (case side1 => repeat (first | (with_reducible first | exact HI190.out | apply IsS62.alloc | apply IsS62.drewN | apply IsS62.drew | apply IsS62.set_1 | refine IsS62.far ?_ NB190_186.out _ | refine IsS62.far ?_ NB190_187.out _ | refine IsS62.far ?_ NB190_194.out _ | refine IsS62.far ?_ NB190_203.out _) | exact HI190.out))
              (case side2 => repeat (first | (with_reducible first | exact HB.out | apply bA | apply bN | apply bD | refine bS ?_ (IsS62.ge HI190.out) | refine bS ?_ GE186.out | refine bS ?_ GE187.out | refine bS ?_ GE194.out | refine bS ?_ GE203.out) | exact HB.out))
              rintro e w77 ⟨rfl, hi, hb, hk⟩
              refine ⟨_, rfl, ?_⟩
              have n0_ := Aside0.mk (KeepBut.blk hk (g' := gb186) (o := .cells #[.string (⟨#[]⟩ : ByteArray), .string (⟨#[]⟩ : ByteArray)] 35 (0, 0)) (by exact hop BK186.out) NB186_190.out (by simp))
              have n1_ := Aside0.mk (KeepBut.blk hk (g' := gb187) (o := .cells #[.string (⟨#[]⟩ : ByteArray), .string (⟨#[]⟩ : ByteArray)] 35 (0, 0)) (by exact hop BK187.out) NB187_190.out (by simp))
              have n2_ := Aside0.mk (KeepBut.blk hk (g' := gb194) (o := .cells #[.string t191, .string t192] 35 (0, 0)) (by exact hop BK194.out) NB194_190.out (by simp))
              have n3_ := Aside0.mk (KeepBut.blk hk (g' := gb203) (o := .cells #[.string (⟨#[]⟩ : ByteArray), .string (⟨#[]⟩ : ByteArray)] 35 (0, 0)) (by exact hop BK203.out) NB203_190.out (by simp))
              have n4_ := Aside0.mk (hb)
              have n5_ := Aside0.mk (hi)
              clear BK186
              clear BK187
              clear BK194
              clear BK203
              clear HB
              clear HI190
              have BK186 := n0_
              have BK187 := n1_
              have BK194 := n2_
              have BK203 := n3_
              have HB := n4_
              have HI190 := n5_
              clear n0_ n1_ n2_ n3_ n4_ n5_
              (try clear hb)
              (try clear hb2)
              (try clear hk)
              (try clear hi)
              refine hK.out _ _ ⟨(blk_cell BK194.out 0).trans rfl, (blk_cell BK194.out 1).trans rfl⟩ (fun hHeld => ?_)
              clear hK K
              refine norm_ (a' := ?_) ?_ ?_
              rotate_left
              ·show Act.put _ (some 16) _ = _
               simp only [Act.put, lT, lZ, lS, i64_w, i32_w]
               rfl
              exact norm_ (by simp only [putAll, Act.put, lT, lZ, lS] <;> rfl) (hJ2_9 (gb203) _ ⟨hHeld, (by exact hop BK186.out), (by exact hop BK187.out), (by exact hop BK194.out), (by exact hop BK203.out), GW203.out, GE203.out, NB190_203.out, NB203_190.out, NB186_203.out, NB203_186.out, NB187_203.out, NB203_187.out, NB194_203.out, NB203_194.out, (by repeat (first | (with_reducible first | exact HI190.out | apply IsS62.alloc | apply IsS62.drewN | apply IsS62.drew | apply IsS62.set_1 | refine IsS62.far ?_ NB190_186.out _ | refine IsS62.far ?_ NB190_187.out _ | refine IsS62.far ?_ NB190_194.out _ | refine IsS62.far ?_ NB190_203.out _) | exact HI190.out)), (by repeat (first | (with_reducible first | exact HB.out | apply bA | apply bN | apply bD | refine bS ?_ (IsS62.ge HI190.out) | refine bS ?_ GE186.out | refine bS ?_ GE187.out | refine bS ?_ GE194.out | refine bS ?_ GE203.out) | exact HB.out))⟩)
             ·skip
              refine box_step ?hg (N := 6) ?hd (cs := #[.string (⟨#[]⟩ : ByteArray), .string (⟨#[]⟩ : ByteArray)]) (t := 35) ?hr ?_; (case hd => rfl); (case hg => rfl); (case hr => first | (go_simp; done) | (go_simp; rfl))
              intro gb202 hg w77 hbox hb
              have n0_ := Aside0.mk (blk_below (hop BK186.out) hb)
              have n1_ := Aside0.mk (blk_below (hop BK187.out) hb)
              have n2_ := Aside0.mk (IsS62.below (by repeat (first | (with_reducible first | exact HI190.out | apply IsS62.alloc | apply IsS62.drewN | apply IsS62.drew | apply IsS62.set_1 | refine IsS62.far ?_ NB190_186.out _ | refine IsS62.far ?_ NB190_187.out _ | refine IsS62.far ?_ NB190_194.out _ | refine IsS62.far ?_ NB190_203.out _) | exact HI190.out)) hb)
              have n3_ := Aside0.mk (blk_below (hop BK194.out) hb)
              have n4_ := Aside0.mk (blk_below (hop BK203.out) hb)
              have n5_ := Aside0.mk (below_step (by repeat (first | (with_reducible first | exact HB.out | apply bA | apply bN | apply bD | refine bS ?_ (IsS62.ge HI190.out) | refine bS ?_ GE186.out | refine bS ?_ GE187.out | refine bS ?_ GE194.out | refine bS ?_ GE203.out) | exact HB.out)) hb)
              have n6_ := Aside0.mk (hbox)
              have n7_ := Aside0.mk ((by rw [hg]; exact (below_size (by repeat (first | (with_reducible first | exact HB.out | apply bA | apply bN | apply bD | refine bS ?_ (IsS62.ge HI190.out) | refine bS ?_ GE186.out | refine bS ?_ GE187.out | refine bS ?_ GE194.out | refine bS ?_ GE203.out) | exact HB.out))) : w.heap.size ≤ gb202))
              have n8_ := n7_
              have n9_ := Aside0.mk ((by rw [hg]; exact Nat.ne_of_lt (blk_lt (hop BK186.out)) : gb186 ≠ gb202))
              have n10_ := Aside0.mk ((by rw [hg]; exact Nat.ne_of_gt (blk_lt (hop BK186.out)) : gb202 ≠ gb186))
              have n11_ := Aside0.mk ((by rw [hg]; exact Nat.ne_of_lt (blk_lt (hop BK187.out)) : gb187 ≠ gb202))
              have n12_ := Aside0.mk ((by rw [hg]; exact Nat.ne_of_gt (blk_lt (hop BK187.out)) : gb202 ≠ gb187))
              have n13_ := Aside0.mk ((by rw [hg]; exact Nat.ne_of_lt (blk_lt (hop BK194.out)) : gb194 ≠ gb202))
              have n14_ := Aside0.mk ((by rw [hg]; exact Nat.ne_of_gt (blk_lt (hop BK194.out)) : gb202 ≠ gb194))
              have n15_ := Aside0.mk ((by rw [hg]; exact Nat.ne_of_lt (blk_lt (hop BK203.out)) : gb203 ≠ gb202))
              have n16_ := Aside0.mk ((by rw [hg]; exact Nat.ne_of_gt (blk_lt (hop BK203.out)) : gb202 ≠ gb203))
              have n17_ := Aside0.mk ((by rw [hg]; exact Nat.ne_of_lt (IsS62.lt (show IsS62 w _ g190 t188 t193 from by repeat (first | (with_reducible first | exact HI190.out | apply IsS62.alloc | apply IsS62.drewN | apply IsS62.drew | apply IsS62.set_1 | refine IsS62.far ?_ NB190_186.out _ | refine IsS62.far ?_ NB190_187.out _ | refine IsS62.far ?_ NB190_194.out _ | refine IsS62.far ?_ NB190_203.out _) | exact HI190.out))) : g190 ≠ gb202))
              have n18_ := Aside0.mk ((by rw [hg]; exact Nat.ne_of_gt (IsS62.lt (show IsS62 w _ g190 t188 t193 from by repeat (first | (with_reducible first | exact HI190.out | apply IsS62.alloc | apply IsS62.drewN | apply IsS62.drew | apply IsS62.set_1 | refine IsS62.far ?_ NB190_186.out _ | refine IsS62.far ?_ NB190_187.out _ | refine IsS62.far ?_ NB190_194.out _ | refine IsS62.far ?_ NB190_203.out _) | exact HI190.out))) : gb202 ≠ g190))
              clear BK186
              clear BK187
              clear HI190
              clear BK194
              clear BK203
              clear HB
              have BK186 := n0_
              have BK187 := n1_
              have HI190 := n2_
              have BK194 := n3_
              have BK203 := n4_
              have HB := n5_
              have BK202 := n6_
              have GW202 := n7_
              have GE202 := n8_
              have NB186_202 := n9_
              have NB202_186 := n10_
              have NB187_202 := n11_
              have NB202_187 := n12_
              have NB194_202 := n13_
              have NB202_194 := n14_
              have NB203_202 := n15_
              have NB202_203 := n16_
              have NB190_202 := n17_
              have NB202_190 := n18_
              clear n0_ n1_ n2_ n3_ n4_ n5_ n6_ n7_ n8_ n9_ n10_ n11_ n12_ n13_ n14_ n15_ n16_ n17_ n18_
              clear hb hbox hg
              refine hK.out _ _ ⟨(blk_cell BK194.out 0).trans rfl, (blk_cell BK194.out 1).trans rfl⟩ (fun hHeld => ?_)
              clear hK K
              refine norm_ (a' := ?_) ?_ ?_
              rotate_left
              ·show Act.put _ (some 6) _ = _
               simp only [Act.put, lT, lZ, lS, i64_w, i32_w]
               rfl
              exact norm_ (by simp only [putAll, Act.put, lT, lZ, lS] <;> rfl) (hJ8_9 (gb202, gb203) _ ⟨hHeld, (by exact hop BK186.out), (by exact hop BK187.out), (by exact hop BK194.out), (by exact hop BK202.out), (by exact hop BK203.out), GW202.out, GE202.out, NB190_202.out, NB202_190.out, NB186_202.out, NB202_186.out, NB187_202.out, NB202_187.out, NB194_202.out, NB202_194.out, NB203_202.out, NB202_203.out, GW203.out, GE203.out, NB190_203.out, NB203_190.out, NB186_203.out, NB203_186.out, NB187_203.out, NB203_187.out, NB194_203.out, NB203_194.out, (by repeat (first | (with_reducible first | exact HI190.out | apply IsS62.alloc | apply IsS62.drewN | apply IsS62.drew | apply IsS62.set_1 | refine IsS62.far ?_ NB190_186.out _ | refine IsS62.far ?_ NB190_187.out _ | refine IsS62.far ?_ NB190_194.out _ | refine IsS62.far ?_ NB190_203.out _ | refine IsS62.far ?_ NB190_202.out _) | exact HI190.out)), (by repeat (first | (with_reducible first | exact HB.out | apply bA | apply bN | apply bD | refine bS ?_ (IsS62.ge HI190.out) | refine bS ?_ GE186.out | refine bS ?_ GE187.out | refine bS ?_ GE194.out | refine bS ?_ GE203.out | refine bS ?_ GE202.out) | exact HB.out))⟩)
           ·skip
            rintro gb202 w76 ⟨hS_, h0_, h1_, h2_, h3_, h4_, h5_, h6_, h7_, h8_, h9_, h10_, h11_, h12_, h13_, h14_, h15_⟩
            have n0_ : Aside0 (w76.heap[gb186]? = some (.cells #[.string (⟨#[]⟩ : ByteArray), .string (⟨#[]⟩ : ByteArray)] 35 (0, 0))) := ⟨h0_⟩
            have n1_ : Aside0 (w76.heap[gb187]? = some (.cells #[.string (⟨#[]⟩ : ByteArray), .string (⟨#[]⟩ : ByteArray)] 35 (0, 0))) := ⟨h1_⟩
            have n2_ : Aside0 (w76.heap[gb194]? = some (.cells #[.string t191, .string t192] 35 (0, 0))) := ⟨h2_⟩
            have n3_ : Aside0 (w76.heap[gb202]? = some (.cells #[.string (⟨#[]⟩ : ByteArray), .string (⟨#[]⟩ : ByteArray)] 35 (0, 0))) := ⟨h3_⟩
            have n4_ : Aside0 (w.heap.size ≤ gb202) := ⟨h4_⟩
            have n5_ : Aside0 (w.heap.size ≤ gb202) := ⟨h5_⟩
            have n6_ : Aside0 (g190 ≠ gb202) := ⟨h6_⟩
            have n7_ : Aside0 (gb202 ≠ g190) := ⟨h7_⟩
            have n8_ : Aside0 (gb186 ≠ gb202) := ⟨h8_⟩
            have n9_ : Aside0 (gb202 ≠ gb186) := ⟨h9_⟩
            have n10_ : Aside0 (gb187 ≠ gb202) := ⟨h10_⟩
            have n11_ : Aside0 (gb202 ≠ gb187) := ⟨h11_⟩
            have n12_ : Aside0 (gb194 ≠ gb202) := ⟨h12_⟩
            have n13_ : Aside0 (gb202 ≠ gb194) := ⟨h13_⟩
            have n14_ : Aside0 (IsS62 w w76 g190 t188 t193) := ⟨h14_⟩
            have n15_ : Aside0 (Below w.heap.size w w76) := ⟨h15_⟩
            clear BK186
            clear BK187
            clear BK194
            clear HI190
            clear HB
            clear h0_ h1_ h2_ h3_ h4_ h5_ h6_ h7_ h8_ h9_ h10_ h11_ h12_ h13_ h14_ h15_
            have BK186 := n0_
            have BK187 := n1_
            have BK194 := n2_
            have BK202 := n3_
            have GW202 := n4_
            have GE202 := n5_
            have NB190_202 := n6_
            have NB202_190 := n7_
            have NB186_202 := n8_
            have NB202_186 := n9_
            have NB187_202 := n10_
            have NB202_187 := n11_
            have NB194_202 := n12_
            have NB202_194 := n13_
            have HI190 := n14_
            have HB := n15_
            clear n0_ n1_ n2_ n3_ n4_ n5_ n6_ n7_ n8_ n9_ n10_ n11_ n12_ n13_ n14_ n15_
            have hHeld : w76.cell? ⟨gb194, 0, none⟩ = some (.string t191) ∧ w76.cell? ⟨gb194, 1, none⟩ = some (.string t192) := hS_
            refine norm_ (a' := ?_) ?_ ?_
            rotate_left
            ·simp only [putAll, Act.put, lT, lZ, lS]
             rfl
            refine two_ (i := 2) (j := 9) (Ni := some 16) (Nj := some 7) #[true, true, true, false, false, false, false, false, true, false, false, false, false] #[true, true, false, false, false, false, false, false, true, true, false, false, false] rfl rfl rfl rfl (two_of HT_.out (by kernel_rfl)) (by decide) (by decide) (fun K hK => ?_) (fun K hK => ?_)
            ·skip
             refine goes_ Try.func45 (by kernel_rfl) rfl #[.pointer (some ⟨g190, 0, none⟩), .int .i64 0] (by rfl) rfl rfl (by (try simp only [List.map_toArray, List.map_cons, List.map_nil]); first | done | rfl | (simp only [List.length_drop, List.length_take]; rfl)) ?_
             with_reducible refine (spec_l20Key.calls k g190 t188 t193 0 t195 t196 w _ ?side1 ?side2 A4.out).mono ?_
             (case side1 => repeat (first | (with_reducible first | exact HI190.out | apply IsS62.alloc | apply IsS62.drewN | apply IsS62.drew | apply IsS62.set_1 | refine IsS62.far ?_ NB190_186.out _ | refine IsS62.far ?_ NB190_187.out _ | refine IsS62.far ?_ NB190_194.out _ | refine IsS62.far ?_ NB190_202.out _) | exact HI190.out))
             (case side2 => repeat (first | (with_reducible first | exact HB.out | apply bA | apply bN | apply bD | refine bS ?_ (IsS62.ge HI190.out) | refine bS ?_ GE186.out | refine bS ?_ GE187.out | refine bS ?_ GE194.out | refine bS ?_ GE202.out) | exact HB.out))
             rintro e w77 ⟨rfl, hi, hb, hk⟩
             refine ⟨_, rfl, ?_⟩
             have n0_ := Aside0.mk (KeepBut.blk hk (g' := gb186) (o := .cells #[.string (⟨#[]⟩ : ByteArray), .string (⟨#[]⟩ : ByteArray)] 35 (0, 0)) (by exact hop BK186.out) NB186_190.out (by simp))
             have n1_ := Aside0.mk (KeepBut.blk hk (g' := gb187) (o := .cells #[.string (⟨#[]⟩ : ByteArray), .string (⟨#[]⟩ : ByteArray)] 35 (0, 0)) (by exact hop BK187.out) NB187_190.out (by simp))
             have n2_ := Aside0.mk (KeepBut.blk hk (g' := gb194) (o := .cells #[.string t191, .string t192] 35 (0, 0)) (by exact hop BK194.out) NB194_190.out (by simp))
             have n3_ := Aside0.mk (KeepBut.blk hk (g' := gb202) (o := .cells #[.string (⟨#[]⟩ : ByteArray), .string (⟨#[]⟩ : ByteArray)] 35 (0, 0)) (by exact hop BK202.out) NB202_190.out (by simp))
             have n4_ := Aside0.mk (hb)
             have n5_ := Aside0.mk (hi)
             clear BK186
             clear BK187
             clear BK194
             clear BK202
             clear HB
             clear HI190
             have BK186 := n0_
             have BK187 := n1_
             have BK194 := n2_
             have BK202 := n3_
             have HB := n4_
             have HI190 := n5_
             clear n0_ n1_ n2_ n3_ n4_ n5_
             (try clear hb)
             (try clear hb2)
             (try clear hk)
             (try clear hi)
             refine hK.out _ _ ⟨(blk_cell BK194.out 0).trans rfl, (blk_cell BK194.out 1).trans rfl⟩ (fun hHeld => ?_)
             clear hK K
             refine norm_ (a' := ?_) ?_ ?_
             rotate_left
             ·show Act.put _ (some 16) _ = _
              simp only [Act.put, lT, lZ, lS, i64_w, i32_w]
              rfl
             exact norm_ (by simp only [putAll, Act.put, lT, lZ, lS] <;> rfl) (hJ2_8 (gb202) _ ⟨hHeld, (by exact hop BK186.out), (by exact hop BK187.out), (by exact hop BK194.out), (by exact hop BK202.out), GW202.out, GE202.out, NB190_202.out, NB202_190.out, NB186_202.out, NB202_186.out, NB187_202.out, NB202_187.out, NB194_202.out, NB202_194.out, (by repeat (first | (with_reducible first | exact HI190.out | apply IsS62.alloc | apply IsS62.drewN | apply IsS62.drew | apply IsS62.set_1 | refine IsS62.far ?_ NB190_186.out _ | refine IsS62.far ?_ NB190_187.out _ | refine IsS62.far ?_ NB190_194.out _ | refine IsS62.far ?_ NB190_202.out _) | exact HI190.out)), (by repeat (first | (with_reducible first | exact HB.out | apply bA | apply bN | apply bD | refine bS ?_ (IsS62.ge HI190.out) | refine bS ?_ GE186.out | refine bS ?_ GE187.out | refine bS ?_ GE194.out | refine bS ?_ GE202.out) | exact HB.out))⟩)
            ·skip
             refine box_step ?hg (N := 7) ?hd (cs := #[.string (⟨#[]⟩ : ByteArray), .string (⟨#[]⟩ : ByteArray)]) (t := 35) ?hr ?_; (case hd => rfl); (case hg => rfl); (case hr => first | (go_simp; done) | (go_simp; rfl))
             intro gb203 hg w77 hbox hb
             have n0_ := Aside0.mk (blk_below (hop BK186.out) hb)
             have n1_ := Aside0.mk (blk_below (hop BK187.out) hb)
             have n2_ := Aside0.mk (IsS62.below (by repeat (first | (with_reducible first | exact HI190.out | apply IsS62.alloc | apply IsS62.drewN | apply IsS62.drew | apply IsS62.set_1 | refine IsS62.far ?_ NB190_186.out _ | refine IsS62.far ?_ NB190_187.out _ | refine IsS62.far ?_ NB190_194.out _ | refine IsS62.far ?_ NB190_202.out _) | exact HI190.out)) hb)
             have n3_ := Aside0.mk (blk_below (hop BK194.out) hb)
             have n4_ := Aside0.mk (blk_below (hop BK202.out) hb)
             have n5_ := Aside0.mk (below_step (by repeat (first | (with_reducible first | exact HB.out | apply bA | apply bN | apply bD | refine bS ?_ (IsS62.ge HI190.out) | refine bS ?_ GE186.out | refine bS ?_ GE187.out | refine bS ?_ GE194.out | refine bS ?_ GE202.out) | exact HB.out)) hb)
             have n6_ := Aside0.mk (hbox)
             have n7_ := Aside0.mk ((by rw [hg]; exact (below_size (by repeat (first | (with_reducible first | exact HB.out | apply bA | apply bN | apply bD | refine bS ?_ (IsS62.ge HI190.out) | refine bS ?_ GE186.out | refine bS ?_ GE187.out | refine bS ?_ GE194.out | refine bS ?_ GE202.out) | exact HB.out))) : w.heap.size ≤ gb203))
             have n8_ := n7_
             have n9_ := Aside0.mk ((by rw [hg]; exact Nat.ne_of_lt (blk_lt (hop BK186.out)) : gb186 ≠ gb203))
             have n10_ := Aside0.mk ((by rw [hg]; exact Nat.ne_of_gt (blk_lt (hop BK186.out)) : gb203 ≠ gb186))
             have n11_ := Aside0.mk ((by rw [hg]; exact Nat.ne_of_lt (blk_lt (hop BK187.out)) : gb187 ≠ gb203))
             have n12_ := Aside0.mk ((by rw [hg]; exact Nat.ne_of_gt (blk_lt (hop BK187.out)) : gb203 ≠ gb187))
             have n13_ := Aside0.mk ((by rw [hg]; exact Nat.ne_of_lt (blk_lt (hop BK194.out)) : gb194 ≠ gb203))
             have n14_ := Aside0.mk ((by rw [hg]; exact Nat.ne_of_gt (blk_lt (hop BK194.out)) : gb203 ≠ gb194))
             have n15_ := Aside0.mk ((by rw [hg]; exact Nat.ne_of_lt (blk_lt (hop BK202.out)) : gb202 ≠ gb203))
             have n16_ := Aside0.mk ((by rw [hg]; exact Nat.ne_of_gt (blk_lt (hop BK202.out)) : gb203 ≠ gb202))
             have n17_ := Aside0.mk ((by rw [hg]; exact Nat.ne_of_lt (IsS62.lt (show IsS62 w _ g190 t188 t193 from by repeat (first | (with_reducible first | exact HI190.out | apply IsS62.alloc | apply IsS62.drewN | apply IsS62.drew | apply IsS62.set_1 | refine IsS62.far ?_ NB190_186.out _ | refine IsS62.far ?_ NB190_187.out _ | refine IsS62.far ?_ NB190_194.out _ | refine IsS62.far ?_ NB190_202.out _) | exact HI190.out))) : g190 ≠ gb203))
             have n18_ := Aside0.mk ((by rw [hg]; exact Nat.ne_of_gt (IsS62.lt (show IsS62 w _ g190 t188 t193 from by repeat (first | (with_reducible first | exact HI190.out | apply IsS62.alloc | apply IsS62.drewN | apply IsS62.drew | apply IsS62.set_1 | refine IsS62.far ?_ NB190_186.out _ | refine IsS62.far ?_ NB190_187.out _ | refine IsS62.far ?_ NB190_194.out _ | refine IsS62.far ?_ NB190_202.out _) | exact HI190.out))) : gb203 ≠ g190))
             clear BK186
             clear BK187
             clear HI190
             clear BK194
             clear BK202
             clear HB
             have BK186 := n0_
             have BK187 := n1_
             have HI190 := n2_
             have BK194 := n3_
             have BK202 := n4_
             have HB := n5_
             have BK203 := n6_
             have GW203 := n7_
             have GE203 := n8_
             have NB186_203 := n9_
             have NB203_186 := n10_
             have NB187_203 := n11_
             have NB203_187 := n12_
             have NB194_203 := n13_
             have NB203_194 := n14_
             have NB202_203 := n15_
             have NB203_202 := n16_
             have NB190_203 := n17_
             have NB203_190 := n18_
             clear n0_ n1_ n2_ n3_ n4_ n5_ n6_ n7_ n8_ n9_ n10_ n11_ n12_ n13_ n14_ n15_ n16_ n17_ n18_
             clear hb hbox hg
             refine hK.out _ _ ⟨(blk_cell BK194.out 0).trans rfl, (blk_cell BK194.out 1).trans rfl⟩ (fun hHeld => ?_)
             clear hK K
             refine norm_ (a' := ?_) ?_ ?_
             rotate_left
             ·show Act.put _ (some 7) _ = _
              simp only [Act.put, lT, lZ, lS, i64_w, i32_w]
              rfl
             exact norm_ (by simp only [putAll, Act.put, lT, lZ, lS] <;> rfl) (hJ8_9 (gb202, gb203) _ ⟨hHeld, (by exact hop BK186.out), (by exact hop BK187.out), (by exact hop BK194.out), (by exact hop BK202.out), (by exact hop BK203.out), GW202.out, GE202.out, NB190_202.out, NB202_190.out, NB186_202.out, NB202_186.out, NB187_202.out, NB202_187.out, NB194_202.out, NB202_194.out, NB203_202.out, NB202_203.out, GW203.out, GE203.out, NB190_203.out, NB203_190.out, NB186_203.out, NB203_186.out, NB187_203.out, NB203_187.out, NB194_203.out, NB203_194.out, (by repeat (first | (with_reducible first | exact HI190.out | apply IsS62.alloc | apply IsS62.drewN | apply IsS62.drew | apply IsS62.set_1 | refine IsS62.far ?_ NB190_186.out _ | refine IsS62.far ?_ NB190_187.out _ | refine IsS62.far ?_ NB190_194.out _ | refine IsS62.far ?_ NB190_202.out _ | refine IsS62.far ?_ NB190_203.out _) | exact HI190.out)), (by repeat (first | (with_reducible first | exact HB.out | apply bA | apply bN | apply bD | refine bS ?_ (IsS62.ge HI190.out) | refine bS ?_ GE186.out | refine bS ?_ GE187.out | refine bS ?_ GE194.out | refine bS ?_ GE202.out | refine bS ?_ GE203.out) | exact HB.out))⟩)
          ·skip
           rintro _ w76 ⟨hS_, h0_, h1_, h2_, h3_, h4_⟩
           have n0_ : Aside0 (w76.heap[gb186]? = some (.cells #[.string (⟨#[]⟩ : ByteArray), .string (⟨#[]⟩ : ByteArray)] 35 (0, 0))) := ⟨h0_⟩
           have n1_ : Aside0 (w76.heap[gb187]? = some (.cells #[.string (⟨#[]⟩ : ByteArray), .string (⟨#[]⟩ : ByteArray)] 35 (0, 0))) := ⟨h1_⟩
           have n2_ : Aside0 (w76.heap[gb194]? = some (.cells #[.string t191, .string t192] 35 (0, 0))) := ⟨h2_⟩
           have n3_ : Aside0 (IsS62 w w76 g190 t188 t196) := ⟨h3_⟩
           have n4_ : Aside0 (Below w.heap.size w w76) := ⟨h4_⟩
           clear BK186
           clear BK187
           clear BK194
           clear HI190
           clear HB
           clear h0_ h1_ h2_ h3_ h4_
           have BK186 := n0_
           have BK187 := n1_
           have BK194 := n2_
           have HI190 := n3_
           have HB := n4_
           clear n0_ n1_ n2_ n3_ n4_
           have hHeld : w76.cell? ⟨gb194, 0, none⟩ = some (.string t191) ∧ w76.cell? ⟨gb194, 1, none⟩ = some (.string t192) := hS_
           refine norm_ (a' := ?_) ?_ ?_
           rotate_left
           ·simp only [putAll, Act.put, lT, lZ, lS]
            rfl
           refine three_ (i := 3) (j := 8) (k := 9) (Ni := some 17) (Nj := some 6) (Nk := some 7) #[true, true, true, true, false, false, false, false, false, false, false, false, false] #[true, true, true, false, false, false, false, false, true, false, false, false, false] #[true, true, true, false, false, false, false, false, false, true, false, false, false] rfl rfl rfl rfl rfl rfl (three_of HT_.out (by kernel_rfl)) (by decide) (by decide) (by decide) (fun K hK => ?_) (fun K hK => ?_) (fun K hK => ?_)
           ·skip
            refine goes_ Try.func40 (by kernel_rfl) rfl #[.agg #[.string t191, .string t192], .string t195] (by rfl) rfl rfl (by (try simp only [List.map_toArray, List.map_cons, List.map_nil]); first | done | rfl | (simp only [List.length_drop, List.length_take]; rfl)) ?_
            with_reducible refine (spec_IntervalCut.calls k t191 t192 t195 t197 t198 t199 t200 false _ A5.out).mono ?_
            rintro e w77 ⟨rfl, hb⟩
            refine ⟨_, rfl, ?_⟩
            have n0_ := Aside0.mk (blk_below (hop BK186.out) hb)
            have n1_ := Aside0.mk (blk_below (hop BK187.out) hb)
            have n2_ := Aside0.mk (IsS62.below (by repeat (first | (with_reducible first | exact HI190.out | apply IsS62.alloc | apply IsS62.drewN | apply IsS62.drew | apply IsS62.set_1 | refine IsS62.far ?_ NB190_186.out _ | refine IsS62.far ?_ NB190_187.out _ | refine IsS62.far ?_ NB190_194.out _) | exact HI190.out)) hb)
            have n3_ := Aside0.mk (blk_below (hop BK194.out) hb)
            have n4_ := Aside0.mk (below_step (by repeat (first | (with_reducible first | exact HB.out | apply bA | apply bN | apply bD | refine bS ?_ (IsS62.ge HI190.out) | refine bS ?_ GE186.out | refine bS ?_ GE187.out | refine bS ?_ GE194.out) | exact HB.out)) hb)
            clear BK186
            clear BK187
            clear HI190
            clear BK194
            clear HB
            have BK186 := n0_
            have BK187 := n1_
            have HI190 := n2_
            have BK194 := n3_
            have HB := n4_
            clear n0_ n1_ n2_ n3_ n4_
            (try clear hb)
            (try clear hb2)
            (try clear hk)
            (try clear hi)
            refine hK.out _ _ ⟨(blk_cell BK194.out 0).trans rfl, (blk_cell BK194.out 1).trans rfl⟩ (fun hHeld => ?_)
            clear hK K
            refine norm_ (a' := ?_) ?_ ?_
            rotate_left
            ·show Act.put _ (some 17) _ = _
             simp only [Act.put, lT, lZ, lS, i64_w, i32_w]
             rfl
            refine pure_ (i := 4) (N := some 13) (v := ?_) (a' := ?_) #[true, true, true, true, true, false, false, false, false, false, false, false, false] rfl rfl (any_of HT_.out (by kernel_rfl)) (fun _ _ _ h => h) (Or.inl ⟨by rfl, ?_⟩) ?_ ?_
            rotate_left
            ·intro w'
             go_simp
             with_reducible rfl
            rotate_left
            ·simp only [Act.put, lT, lZ, lS, i64_w, i32_w]
             rfl
            refine pure_ (i := 5) (N := some 18) (v := ?_) (a' := ?_) #[true, true, true, true, true, true, false, false, false, false, false, false, false] rfl rfl (any_of HT_.out (by kernel_rfl)) (fun _ _ _ h => h) (Or.inl ⟨by rfl, ?_⟩) ?_ ?_
            rotate_left
            ·intro w'
             go_simp
             with_reducible rfl
            rotate_left
            ·simp only [Act.put, lT, lZ, lS, i64_w, i32_w]
             rfl
            refine pure_ (i := 6) (N := some 19) (v := ?_) (a' := ?_) #[true, true, true, true, true, true, true, false, false, false, false, false, false] rfl rfl (any_of HT_.out (by kernel_rfl)) (fun _ _ _ h => h) (Or.inl ⟨by rfl, ?_⟩) ?_ ?_
            rotate_left
            ·intro w'
             go_simp
             with_reducible rfl
            rotate_left
            ·simp only [Act.put, lT, lZ, lS, i64_w, i32_w]
             rfl
            refine pure_ (i := 7) (N := some 20) (v := ?_) (a' := ?_) #[true, true, true, true, true, true, true, true, false, false, false, false, false] rfl rfl (any_of HT_.out (by kernel_rfl)) (fun _ _ _ h => h) (Or.inl ⟨by rfl, ?_⟩) ?_ ?_
            rotate_left
            ·intro w'
             go_simp
             with_reducible rfl
            rotate_left
            ·simp only [Act.put, lT, lZ, lS, i64_w, i32_w]
             rfl
            exact norm_ (by simp only [putAll, Act.put, lT, lZ, lS] <;> rfl) (hJ2_3 () _ ⟨hHeld, (by exact hop BK186.out), (by exact hop BK187.out), (by exact hop BK194.out), (by repeat (first | (with_reducible first | exact HI190.out | apply IsS62.alloc | apply IsS62.drewN | apply IsS62.drew | apply IsS62.set_1 | refine IsS62.far ?_ NB190_186.out _ | refine IsS62.far ?_ NB190_187.out _ | refine IsS62.far ?_ NB190_194.out _) | exact HI190.out)), (by repeat (first | (with_reducible first | exact HB.out | apply bA | apply bN | apply bD | refine bS ?_ (IsS62.ge HI190.out) | refine bS ?_ GE186.out | refine bS ?_ GE187.out | refine bS ?_ GE194.out) | exact HB.out))⟩)
           ·skip
            refine box_step ?hg (N := 6) ?hd (cs := #[.string (⟨#[]⟩ : ByteArray), .string (⟨#[]⟩ : ByteArray)]) (t := 35) ?hr ?_; (case hd => rfl); (case hg => rfl); (case hr => first | (go_simp; done) | (go_simp; rfl))
            intro gb202 hg w77 hbox hb
            have n0_ := Aside0.mk (blk_below (hop BK186.out) hb)
            have n1_ := Aside0.mk (blk_below (hop BK187.out) hb)
            have n2_ := Aside0.mk (IsS62.below (by repeat (first | (with_reducible first | exact HI190.out | apply IsS62.alloc | apply IsS62.drewN | apply IsS62.drew | apply IsS62.set_1 | refine IsS62.far ?_ NB190_186.out _ | refine IsS62.far ?_ NB190_187.out _ | refine IsS62.far ?_ NB190_194.out _) | exact HI190.out)) hb)
            have n3_ := Aside0.mk (blk_below (hop BK194.out) hb)
            have n4_ := Aside0.mk (below_step (by repeat (first | (with_reducible first | exact HB.out | apply bA | apply bN | apply bD | refine bS ?_ (IsS62.ge HI190.out) | refine bS ?_ GE186.out | refine bS ?_ GE187.out | refine bS ?_ GE194.out) | exact HB.out)) hb)
            have n5_ := Aside0.mk (hbox)
            have n6_ := Aside0.mk ((by rw [hg]; exact (below_size (by repeat (first | (with_reducible first | exact HB.out | apply bA | apply bN | apply bD | refine bS ?_ (IsS62.ge HI190.out) | refine bS ?_ GE186.out | refine bS ?_ GE187.out | refine bS ?_ GE194.out) | exact HB.out))) : w.heap.size ≤ gb202))
            have n7_ := n6_
            have n8_ := Aside0.mk ((by rw [hg]; exact Nat.ne_of_lt (blk_lt (hop BK186.out)) : gb186 ≠ gb202))
            have n9_ := Aside0.mk ((by rw [hg]; exact Nat.ne_of_gt (blk_lt (hop BK186.out)) : gb202 ≠ gb186))
            have n10_ := Aside0.mk ((by rw [hg]; exact Nat.ne_of_lt (blk_lt (hop BK187.out)) : gb187 ≠ gb202))
            have n11_ := Aside0.mk ((by rw [hg]; exact Nat.ne_of_gt (blk_lt (hop BK187.out)) : gb202 ≠ gb187))
            have n12_ := Aside0.mk ((by rw [hg]; exact Nat.ne_of_lt (blk_lt (hop BK194.out)) : gb194 ≠ gb202))
            have n13_ := Aside0.mk ((by rw [hg]; exact Nat.ne_of_gt (blk_lt (hop BK194.out)) : gb202 ≠ gb194))
            have n14_ := Aside0.mk ((by rw [hg]; exact Nat.ne_of_lt (IsS62.lt (show IsS62 w _ g190 t188 t196 from by repeat (first | (with_reducible first | exact HI190.out | apply IsS62.alloc | apply IsS62.drewN | apply IsS62.drew | apply IsS62.set_1 | refine IsS62.far ?_ NB190_186.out _ | refine IsS62.far ?_ NB190_187.out _ | refine IsS62.far ?_ NB190_194.out _) | exact HI190.out))) : g190 ≠ gb202))
            have n15_ := Aside0.mk ((by rw [hg]; exact Nat.ne_of_gt (IsS62.lt (show IsS62 w _ g190 t188 t196 from by repeat (first | (with_reducible first | exact HI190.out | apply IsS62.alloc | apply IsS62.drewN | apply IsS62.drew | apply IsS62.set_1 | refine IsS62.far ?_ NB190_186.out _ | refine IsS62.far ?_ NB190_187.out _ | refine IsS62.far ?_ NB190_194.out _) | exact HI190.out))) : gb202 ≠ g190))
            clear BK186
            clear BK187
            clear HI190
            clear BK194
            clear HB
            have BK186 := n0_
            have BK187 := n1_
            have HI190 := n2_
            have BK194 := n3_
            have HB := n4_
            have BK202 := n5_
            have GW202 := n6_
            have GE202 := n7_
            have NB186_202 := n8_
            have NB202_186 := n9_
            have NB187_202 := n10_
            have NB202_187 := n11_
            have NB194_202 := n12_
            have NB202_194 := n13_
            have NB190_202 := n14_
            have NB202_190 := n15_
            clear n0_ n1_ n2_ n3_ n4_ n5_ n6_ n7_ n8_ n9_ n10_ n11_ n12_ n13_ n14_ n15_
            clear hb hbox hg
            refine hK.out _ _ ⟨(blk_cell BK194.out 0).trans rfl, (blk_cell BK194.out 1).trans rfl⟩ (fun hHeld => ?_)
            clear hK K
            refine norm_ (a' := ?_) ?_ ?_
            rotate_left
            ·show Act.put _ (some 6) _ = _
             simp only [Act.put, lT, lZ, lS, i64_w, i32_w]
             rfl
            exact norm_ (by simp only [putAll, Act.put, lT, lZ, lS] <;> rfl) (hJ2_8 (gb202) _ ⟨hHeld, (by exact hop BK186.out), (by exact hop BK187.out), (by exact hop BK194.out), (by exact hop BK202.out), GW202.out, GE202.out, NB190_202.out, NB202_190.out, NB186_202.out, NB202_186.out, NB187_202.out, NB202_187.out, NB194_202.out, NB202_194.out, (by repeat (first | (with_reducible first | exact HI190.out | apply IsS62.alloc | apply IsS62.drewN | apply IsS62.drew | apply IsS62.set_1 | refine IsS62.far ?_ NB190_186.out _ | refine IsS62.far ?_ NB190_187.out _ | refine IsS62.far ?_ NB190_194.out _ | refine IsS62.far ?_ NB190_202.out _) | exact HI190.out)), (by repeat (first | (with_reducible first | exact HB.out | apply bA | apply bN | apply bD | refine bS ?_ (IsS62.ge HI190.out) | refine bS ?_ GE186.out | refine bS ?_ GE187.out | refine bS ?_ GE194.out | refine bS ?_ GE202.out) | exact HB.out))⟩)
           ·skip
            refine box_step ?hg (N := 7) ?hd (cs := #[.string (⟨#[]⟩ : ByteArray), .string (⟨#[]⟩ : ByteArray)]) (t := 35) ?hr ?_; (case hd => rfl); (case hg => rfl); (case hr => first | (go_simp; done) | (go_simp; rfl))
            intro gb203 hg w77 hbox hb
            have n0_ := Aside0.mk (blk_below (hop BK186.out) hb)
            have n1_ := Aside0.mk (blk_below (hop BK187.out) hb)
            have n2_ := Aside0.mk (IsS62.below (by repeat (first | (with_reducible first | exact HI190.out | apply IsS62.alloc | apply IsS62.drewN | apply IsS62.drew | apply IsS62.set_1 | refine IsS62.far ?_ NB190_186.out _ | refine IsS62.far ?_ NB190_187.out _ | refine IsS62.far ?_ NB190_194.out _) | exact HI190.out)) hb)
            have n3_ := Aside0.mk (blk_below (hop BK194.out) hb)
            have n4_ := Aside0.mk (below_step (by repeat (first | (with_reducible first | exact HB.out | apply bA | apply bN | apply bD | refine bS ?_ (IsS62.ge HI190.out) | refine bS ?_ GE186.out | refine bS ?_ GE187.out | refine bS ?_ GE194.out) | exact HB.out)) hb)
            have n5_ := Aside0.mk (hbox)
            have n6_ := Aside0.mk ((by rw [hg]; exact (below_size (by repeat (first | (with_reducible first | exact HB.out | apply bA | apply bN | apply bD | refine bS ?_ (IsS62.ge HI190.out) | refine bS ?_ GE186.out | refine bS ?_ GE187.out | refine bS ?_ GE194.out) | exact HB.out))) : w.heap.size ≤ gb203))
            have n7_ := n6_
            have n8_ := Aside0.mk ((by rw [hg]; exact Nat.ne_of_lt (blk_lt (hop BK186.out)) : gb186 ≠ gb203))
            have n9_ := Aside0.mk ((by rw [hg]; exact Nat.ne_of_gt (blk_lt (hop BK186.out)) : gb203 ≠ gb186))
            have n10_ := Aside0.mk ((by rw [hg]; exact Nat.ne_of_lt (blk_lt (hop BK187.out)) : gb187 ≠ gb203))
            have n11_ := Aside0.mk ((by rw [hg]; exact Nat.ne_of_gt (blk_lt (hop BK187.out)) : gb203 ≠ gb187))
            have n12_ := Aside0.mk ((by rw [hg]; exact Nat.ne_of_lt (blk_lt (hop BK194.out)) : gb194 ≠ gb203))
            have n13_ := Aside0.mk ((by rw [hg]; exact Nat.ne_of_gt (blk_lt (hop BK194.out)) : gb203 ≠ gb194))
            have n14_ := Aside0.mk ((by rw [hg]; exact Nat.ne_of_lt (IsS62.lt (show IsS62 w _ g190 t188 t196 from by repeat (first | (with_reducible first | exact HI190.out | apply IsS62.alloc | apply IsS62.drewN | apply IsS62.drew | apply IsS62.set_1 | refine IsS62.far ?_ NB190_186.out _ | refine IsS62.far ?_ NB190_187.out _ | refine IsS62.far ?_ NB190_194.out _) | exact HI190.out))) : g190 ≠ gb203))
            have n15_ := Aside0.mk ((by rw [hg]; exact Nat.ne_of_gt (IsS62.lt (show IsS62 w _ g190 t188 t196 from by repeat (first | (with_reducible first | exact HI190.out | apply IsS62.alloc | apply IsS62.drewN | apply IsS62.drew | apply IsS62.set_1 | refine IsS62.far ?_ NB190_186.out _ | refine IsS62.far ?_ NB190_187.out _ | refine IsS62.far ?_ NB190_194.out _) | exact HI190.out))) : gb203 ≠ g190))
            clear BK186
            clear BK187
            clear HI190
            clear BK194
            clear HB
            have BK186 := n0_
            have BK187 := n1_
            have HI190 := n2_
            have BK194 := n3_
            have HB := n4_
            have BK203 := n5_
            have GW203 := n6_
            have GE203 := n7_
            have NB186_203 := n8_
            have NB203_186 := n9_
            have NB187_203 := n10_
            have NB203_187 := n11_
            have NB194_203 := n12_
            have NB203_194 := n13_
            have NB190_203 := n14_
            have NB203_190 := n15_
            clear n0_ n1_ n2_ n3_ n4_ n5_ n6_ n7_ n8_ n9_ n10_ n11_ n12_ n13_ n14_ n15_
            clear hb hbox hg
            refine hK.out _ _ ⟨(blk_cell BK194.out 0).trans rfl, (blk_cell BK194.out 1).trans rfl⟩ (fun hHeld => ?_)
            clear hK K
            refine norm_ (a' := ?_) ?_ ?_
            rotate_left
            ·show Act.put _ (some 7) _ = _
             simp only [Act.put, lT, lZ, lS, i64_w, i32_w]
             rfl
            exact norm_ (by simp only [putAll, Act.put, lT, lZ, lS] <;> rfl) (hJ2_9 (gb203) _ ⟨hHeld, (by exact hop BK186.out), (by exact hop BK187.out), (by exact hop BK194.out), (by exact hop BK203.out), GW203.out, GE203.out, NB190_203.out, NB203_190.out, NB186_203.out, NB203_186.out, NB187_203.out, NB203_187.out, NB194_203.out, NB203_194.out, (by repeat (first | (with_reducible first | exact HI190.out | apply IsS62.alloc | apply IsS62.drewN | apply IsS62.drew | apply IsS62.set_1 | refine IsS62.far ?_ NB190_186.out _ | refine IsS62.far ?_ NB190_187.out _ | refine IsS62.far ?_ NB190_194.out _ | refine IsS62.far ?_ NB190_203.out _) | exact HI190.out)), (by repeat (first | (with_reducible first | exact HB.out | apply bA | apply bN | apply bD | refine bS ?_ (IsS62.ge HI190.out) | refine bS ?_ GE186.out | refine bS ?_ GE187.out | refine bS ?_ GE194.out | refine bS ?_ GE203.out) | exact HB.out))⟩)
         ·skip
          rintro ⟨gb202, gb203⟩ w77 ⟨hS_, h0_, h1_, h2_, h3_, h4_, h5_, h6_, h7_, h8_, h9_, h10_, h11_, h12_, h13_, h14_, h15_, h16_, h17_, h18_, h19_, h20_, h21_, h22_, h23_, h24_, h25_, h26_, h27_, h28_⟩
          have n0_ : Aside0 (w77.heap[gb186]? = some (.cells #[.string (⟨#[]⟩ : ByteArray), .string (⟨#[]⟩ : ByteArray)] 35 (0, 0))) := ⟨h0_⟩
          have n1_ : Aside0 (w77.heap[gb187]? = some (.cells #[.string (⟨#[]⟩ : ByteArray), .string (⟨#[]⟩ : ByteArray)] 35 (0, 0))) := ⟨h1_⟩
          have n2_ : Aside0 (w77.heap[gb194]? = some (.cells #[.string t191, .string t192] 35 (0, 0))) := ⟨h2_⟩
          have n3_ : Aside0 (w77.heap[gb202]? = some (.cells #[.string (⟨#[]⟩ : ByteArray), .string (⟨#[]⟩ : ByteArray)] 35 (0, 0))) := ⟨h3_⟩
          have n4_ : Aside0 (w77.heap[gb203]? = some (.cells #[.string (⟨#[]⟩ : ByteArray), .string (⟨#[]⟩ : ByteArray)] 35 (0, 0))) := ⟨h4_⟩
          have n5_ : Aside0 (w.heap.size ≤ gb202) := ⟨h5_⟩
          have n6_ : Aside0 (w.heap.size ≤ gb202) := ⟨h6_⟩
          have n7_ : Aside0 (g190 ≠ gb202) := ⟨h7_⟩
          have n8_ : Aside0 (gb202 ≠ g190) := ⟨h8_⟩
          have n9_ : Aside0 (gb186 ≠ gb202) := ⟨h9_⟩
          have n10_ : Aside0 (gb202 ≠ gb186) := ⟨h10_⟩
          have n11_ : Aside0 (gb187 ≠ gb202) := ⟨h11_⟩
          have n12_ : Aside0 (gb202 ≠ gb187) := ⟨h12_⟩
          have n13_ : Aside0 (gb194 ≠ gb202) := ⟨h13_⟩
          have n14_ : Aside0 (gb202 ≠ gb194) := ⟨h14_⟩
          have n15_ : Aside0 (gb203 ≠ gb202) := ⟨h15_⟩
          have n16_ : Aside0 (gb202 ≠ gb203) := ⟨h16_⟩
          have n17_ : Aside0 (w.heap.size ≤ gb203) := ⟨h17_⟩
          have n18_ : Aside0 (w.heap.size ≤ gb203) := ⟨h18_⟩
          have n19_ : Aside0 (g190 ≠ gb203) := ⟨h19_⟩
          have n20_ : Aside0 (gb203 ≠ g190) := ⟨h20_⟩
          have n21_ : Aside0 (gb186 ≠ gb203) := ⟨h21_⟩
          have n22_ : Aside0 (gb203 ≠ gb186) := ⟨h22_⟩
          have n23_ : Aside0 (gb187 ≠ gb203) := ⟨h23_⟩
          have n24_ : Aside0 (gb203 ≠ gb187) := ⟨h24_⟩
          have n25_ : Aside0 (gb194 ≠ gb203) := ⟨h25_⟩
          have n26_ : Aside0 (gb203 ≠ gb194) := ⟨h26_⟩
          have n27_ : Aside0 (IsS62 w w77 g190 t188 t193) := ⟨h27_⟩
          have n28_ : Aside0 (Below w.heap.size w w77) := ⟨h28_⟩
          clear BK186
          clear BK187
          clear BK194
          clear HI190
          clear HB
          clear h0_ h1_ h2_ h3_ h4_ h5_ h6_ h7_ h8_ h9_ h10_ h11_ h12_ h13_ h14_ h15_ h16_ h17_ h18_ h19_ h20_ h21_ h22_ h23_ h24_ h25_ h26_ h27_ h28_
          have BK186 := n0_
          have BK187 := n1_
          have BK194 := n2_
          have BK202 := n3_
          have BK203 := n4_
          have GW202 := n5_
          have GE202 := n6_
          have NB190_202 := n7_
          have NB202_190 := n8_
          have NB186_202 := n9_
          have NB202_186 := n10_
          have NB187_202 := n11_
          have NB202_187 := n12_
          have NB194_202 := n13_
          have NB202_194 := n14_
          have NB203_202 := n15_
          have NB202_203 := n16_
          have GW203 := n17_
          have GE203 := n18_
          have NB190_203 := n19_
          have NB203_190 := n20_
          have NB186_203 := n21_
          have NB203_186 := n22_
          have NB187_203 := n23_
          have NB203_187 := n24_
          have NB194_203 := n25_
          have NB203_194 := n26_
          have HI190 := n27_
          have HB := n28_
          clear n0_ n1_ n2_ n3_ n4_ n5_ n6_ n7_ n8_ n9_ n10_ n11_ n12_ n13_ n14_ n15_ n16_ n17_ n18_ n19_ n20_ n21_ n22_ n23_ n24_ n25_ n26_ n27_ n28_
          have hHeld : w77.cell? ⟨gb194, 0, none⟩ = some (.string t191) ∧ w77.cell? ⟨gb194, 1, none⟩ = some (.string t192) := hS_
          refine norm_ (a' := ?_) ?_ ?_
          rotate_left
          ·simp only [putAll, Act.put, lT, lZ, lS]
           rfl
          refine one_ (i := 2) (N := some 16) #[true, true, true, false, false, false, false, false, true, true, false, false, false] rfl rfl (one_of HT_.out (by kernel_rfl)) (by decide) (fun K hK => ?_)
          refine goes_ Try.func45 (by kernel_rfl) rfl #[.pointer (some ⟨g190, 0, none⟩), .int .i64 0] (by rfl) rfl rfl (by (try simp only [List.map_toArray, List.map_cons, List.map_nil]); first | done | rfl | (simp only [List.length_drop, List.length_take]; rfl)) ?_
          with_reducible refine (spec_l20Key.calls k g190 t188 t193 0 t195 t196 w _ ?side1 ?side2 A4.out).mono ?_
          (case side1 => repeat (first | (with_reducible first | exact HI190.out | apply IsS62.alloc | apply IsS62.drewN | apply IsS62.drew | apply IsS62.set_1 | refine IsS62.far ?_ NB190_186.out _ | refine IsS62.far ?_ NB190_187.out _ | refine IsS62.far ?_ NB190_194.out _ | refine IsS62.far ?_ NB190_202.out _ | refine IsS62.far ?_ NB190_203.out _) | exact HI190.out))
          (case side2 => repeat (first | (with_reducible first | exact HB.out | apply bA | apply bN | apply bD | refine bS ?_ (IsS62.ge HI190.out) | refine bS ?_ GE186.out | refine bS ?_ GE187.out | refine bS ?_ GE194.out | refine bS ?_ GE202.out | refine bS ?_ GE203.out) | exact HB.out))
          rintro e w78 ⟨rfl, hi, hb, hk⟩
          refine ⟨_, rfl, ?_⟩
          have n0_ := Aside0.mk (KeepBut.blk hk (g' := gb186) (o := .cells #[.string (⟨#[]⟩ : ByteArray), .string (⟨#[]⟩ : ByteArray)] 35 (0, 0)) (by exact hop BK186.out) NB186_190.out (by simp))
          have n1_ := Aside0.mk (KeepBut.blk hk (g' := gb187) (o := .cells #[.string (⟨#[]⟩ : ByteArray), .string (⟨#[]⟩ : ByteArray)] 35 (0, 0)) (by exact hop BK187.out) NB187_190.out (by simp))
          have n2_ := Aside0.mk (KeepBut.blk hk (g' := gb194) (o := .cells #[.string t191, .string t192] 35 (0, 0)) (by exact hop BK194.out) NB194_190.out (by simp))
          have n3_ := Aside0.mk (KeepBut.blk hk (g' := gb202) (o := .cells #[.string (⟨#[]⟩ : ByteArray), .string (⟨#[]⟩ : ByteArray)] 35 (0, 0)) (by exact hop BK202.out) NB202_190.out (by simp))
          have n4_ := Aside0.mk (KeepBut.blk hk (g' := gb203) (o := .cells #[.string (⟨#[]⟩ : ByteArray), .string (⟨#[]⟩ : ByteArray)] 35 (0, 0)) (by exact hop BK203.out) NB203_190.out (by simp))
          have n5_ := Aside0.mk (hb)
          have n6_ := Aside0.mk (hi)
          clear BK186
          clear BK187
          clear BK194
          clear BK202
          clear BK203
          clear HB
          clear HI190
          have BK186 := n0_
          have BK187 := n1_
          have BK194 := n2_
          have BK202 := n3_
          have BK203 := n4_
          have HB := n5_
          have HI190 := n6_
          clear n0_ n1_ n2_ n3_ n4_ n5_ n6_
          (try clear hb)
          (try clear hb2)
          (try clear hk)
          (try clear hi)
          refine hK.out _ _ ⟨(blk_cell BK194.out 0).trans rfl, (blk_cell BK194.out 1).trans rfl⟩ (fun hHeld => ?_)
          clear hK K
          refine norm_ (a' := ?_) ?_ ?_
          rotate_left
          ·show Act.put _ (some 16) _ = _
           simp only [Act.put, lT, lZ, lS, i64_w, i32_w]
           rfl
          exact norm_ (by simp only [putAll, Act.put, lT, lZ, lS] <;> rfl) (hJ2_8_9 (gb202, gb203) _ ⟨hHeld, (by exact hop BK186.out), (by exact hop BK187.out), (by exact hop BK194.out), (by exact hop BK202.out), (by exact hop BK203.out), GW202.out, GE202.out, NB190_202.out, NB202_190.out, NB186_202.out, NB202_186.out, NB187_202.out, NB202_187.out, NB194_202.out, NB202_194.out, NB203_202.out, NB202_203.out, GW203.out, GE203.out, NB190_203.out, NB203_190.out, NB186_203.out, NB203_186.out, NB187_203.out, NB203_187.out, NB194_203.out, NB203_194.out, (by repeat (first | (with_reducible first | exact HI190.out | apply IsS62.alloc | apply IsS62.drewN | apply IsS62.drew | apply IsS62.set_1 | refine IsS62.far ?_ NB190_186.out _ | refine IsS62.far ?_ NB190_187.out _ | refine IsS62.far ?_ NB190_194.out _ | refine IsS62.far ?_ NB190_202.out _ | refine IsS62.far ?_ NB190_203.out _) | exact HI190.out)), (by repeat (first | (with_reducible first | exact HB.out | apply bA | apply bN | apply bD | refine bS ?_ (IsS62.ge HI190.out) | refine bS ?_ GE186.out | refine bS ?_ GE187.out | refine bS ?_ GE194.out | refine bS ?_ GE202.out | refine bS ?_ GE203.out) | exact HB.out))⟩)
        ·skip
         rintro gb203 w77 ⟨hS_, h0_, h1_, h2_, h3_, h4_, h5_, h6_, h7_, h8_, h9_, h10_, h11_, h12_, h13_, h14_, h15_⟩
         have n0_ : Aside0 (w77.heap[gb186]? = some (.cells #[.string (⟨#[]⟩ : ByteArray), .string (⟨#[]⟩ : ByteArray)] 35 (0, 0))) := ⟨h0_⟩
         have n1_ : Aside0 (w77.heap[gb187]? = some (.cells #[.string (⟨#[]⟩ : ByteArray), .string (⟨#[]⟩ : ByteArray)] 35 (0, 0))) := ⟨h1_⟩
         have n2_ : Aside0 (w77.heap[gb194]? = some (.cells #[.string t191, .string t192] 35 (0, 0))) := ⟨h2_⟩
         have n3_ : Aside0 (w77.heap[gb203]? = some (.cells #[.string (⟨#[]⟩ : ByteArray), .string (⟨#[]⟩ : ByteArray)] 35 (0, 0))) := ⟨h3_⟩
         have n4_ : Aside0 (w.heap.size ≤ gb203) := ⟨h4_⟩
         have n5_ : Aside0 (w.heap.size ≤ gb203) := ⟨h5_⟩
         have n6_ : Aside0 (g190 ≠ gb203) := ⟨h6_⟩
         have n7_ : Aside0 (gb203 ≠ g190) := ⟨h7_⟩
         have n8_ : Aside0 (gb186 ≠ gb203) := ⟨h8_⟩
         have n9_ : Aside0 (gb203 ≠ gb186) := ⟨h9_⟩
         have n10_ : Aside0 (gb187 ≠ gb203) := ⟨h10_⟩
         have n11_ : Aside0 (gb203 ≠ gb187) := ⟨h11_⟩
         have n12_ : Aside0 (gb194 ≠ gb203) := ⟨h12_⟩
         have n13_ : Aside0 (gb203 ≠ gb194) := ⟨h13_⟩
         have n14_ : Aside0 (IsS62 w w77 g190 t188 t196) := ⟨h14_⟩
         have n15_ : Aside0 (Below w.heap.size w w77) := ⟨h15_⟩
         clear BK186
         clear BK187
         clear BK194
         clear HI190
         clear HB
         clear h0_ h1_ h2_ h3_ h4_ h5_ h6_ h7_ h8_ h9_ h10_ h11_ h12_ h13_ h14_ h15_
         have BK186 := n0_
         have BK187 := n1_
         have BK194 := n2_
         have BK203 := n3_
         have GW203 := n4_
         have GE203 := n5_
         have NB190_203 := n6_
         have NB203_190 := n7_
         have NB186_203 := n8_
         have NB203_186 := n9_
         have NB187_203 := n10_
         have NB203_187 := n11_
         have NB194_203 := n12_
         have NB203_194 := n13_
         have HI190 := n14_
         have HB := n15_
         clear n0_ n1_ n2_ n3_ n4_ n5_ n6_ n7_ n8_ n9_ n10_ n11_ n12_ n13_ n14_ n15_
         have hHeld : w77.cell? ⟨gb194, 0, none⟩ = some (.string t191) ∧ w77.cell? ⟨gb194, 1, none⟩ = some (.string t192) := hS_
         refine norm_ (a' := ?_) ?_ ?_
         rotate_left
         ·simp only [putAll, Act.put, lT, lZ, lS]
          rfl
         refine two_ (i := 3) (j := 8) (Ni := some 17) (Nj := some 6) #[true, true, true, true, false, false, false, false, false, true, false, false, false] #[true, true, true, false, false, false, false, false, true, true, false, false, false] rfl rfl rfl rfl (two_of HT_.out (by kernel_rfl)) (by decide) (by decide) (fun K hK => ?_) (fun K hK => ?_)
         ·skip
          refine goes_ Try.func40 (by kernel_rfl) rfl #[.agg #[.string t191, .string t192], .string t195] (by rfl) rfl rfl (by (try simp only [List.map_toArray, List.map_cons, List.map_nil]); first | done | rfl | (simp only [List.length_drop, List.length_take]; rfl)) ?_
          with_reducible refine (spec_IntervalCut.calls k t191 t192 t195 t197 t198 t199 t200 false _ A5.out).mono ?_
          rintro e w78 ⟨rfl, hb⟩
          refine ⟨_, rfl, ?_⟩
          have n0_ := Aside0.mk (blk_below (hop BK186.out) hb)
          have n1_ := Aside0.mk (blk_below (hop BK187.out) hb)
          have n2_ := Aside0.mk (IsS62.below (by repeat (first | (with_reducible first | exact HI190.out | apply IsS62.alloc | apply IsS62.drewN | apply IsS62.drew | apply IsS62.set_1 | refine IsS62.far ?_ NB190_186.out _ | refine IsS62.far ?_ NB190_187.out _ | refine IsS62.far ?_ NB190_194.out _ | refine IsS62.far ?_ NB190_203.out _) | exact HI190.out)) hb)
          have n3_ := Aside0.mk (blk_below (hop BK194.out) hb)
          have n4_ := Aside0.mk (blk_below (hop BK203.out) hb)
          have n5_ := Aside0.mk (below_step (by repeat (first | (with_reducible first | exact HB.out | apply bA | apply bN | apply bD | refine bS ?_ (IsS62.ge HI190.out) | refine bS ?_ GE186.out | refine bS ?_ GE187.out | refine bS ?_ GE194.out | refine bS ?_ GE203.out) | exact HB.out)) hb)
          clear BK186
          clear BK187
          clear HI190
          clear BK194
          clear BK203
          clear HB
          have BK186 := n0_
          have BK187 := n1_
          have HI190 := n2_
          have BK194 := n3_
          have BK203 := n4_
          have HB := n5_
          clear n0_ n1_ n2_ n3_ n4_ n5_
          (try clear hb)
          (try clear hb2)
          (try clear hk)
          (try clear hi)
          refine hK.out _ _ ⟨(blk_cell BK194.out 0).trans rfl, (blk_cell BK194.out 1).trans rfl⟩ (fun hHeld => ?_)
          clear hK K
          refine norm_ (a' := ?_) ?_ ?_
          rotate_left
          ·show Act.put _ (some 17) _ = _
           simp only [Act.put, lT, lZ, lS, i64_w, i32_w]
           rfl
          refine pure_ (i := 4) (N := some 13) (v := ?_) (a' := ?_) #[true, true, true, true, true, false, false, false, false, true, false, false, false] rfl rfl (any_of HT_.out (by kernel_rfl)) (fun _ _ _ h => h) (Or.inl ⟨by rfl, ?_⟩) ?_ ?_
          rotate_left
          ·intro w'
           go_simp
           with_reducible rfl
          rotate_left
          ·simp only [Act.put, lT, lZ, lS, i64_w, i32_w]
           rfl
          refine pure_ (i := 5) (N := some 18) (v := ?_) (a' := ?_) #[true, true, true, true, true, true, false, false, false, true, false, false, false] rfl rfl (any_of HT_.out (by kernel_rfl)) (fun _ _ _ h => h) (Or.inl ⟨by rfl, ?_⟩) ?_ ?_
          rotate_left
          ·intro w'
           go_simp
           with_reducible rfl
          rotate_left
          ·simp only [Act.put, lT, lZ, lS, i64_w, i32_w]
           rfl
          refine pure_ (i := 6) (N := some 19) (v := ?_) (a' := ?_) #[true, true, true, true, true, true, true, false, false, true, false, false, false] rfl rfl (any_of HT_.out (by kernel_rfl)) (fun _ _ _ h => h) (Or.inl ⟨by rfl, ?_⟩) ?_ ?_
          rotate_left
          ·intro w'
           go_simp
           with_reducible rfl
          rotate_left
          ·simp only [Act.put, lT, lZ, lS, i64_w, i32_w]
           rfl
          refine pure_ (i := 7) (N := some 20) (v := ?_) (a' := ?_) #[true, true, true, true, true, true, true, true, false, true, false, false, false] rfl rfl (any_of HT_.out (by kernel_rfl)) (fun _ _ _ h => h) (Or.inl ⟨by rfl, ?_⟩) ?_ ?_
          rotate_left
          ·intro w'
           go_simp
           with_reducible rfl
          rotate_left
          ·simp only [Act.put, lT, lZ, lS, i64_w, i32_w]
           rfl
          exact norm_ (by simp only [putAll, Act.put, lT, lZ, lS] <;> rfl) (hJ2_3_9 (gb203) _ ⟨hHeld, (by exact hop BK186.out), (by exact hop BK187.out), (by exact hop BK194.out), (by exact hop BK203.out), GW203.out, GE203.out, NB190_203.out, NB203_190.out, NB186_203.out, NB203_186.out, NB187_203.out, NB203_187.out, NB194_203.out, NB203_194.out, (by repeat (first | (with_reducible first | exact HI190.out | apply IsS62.alloc | apply IsS62.drewN | apply IsS62.drew | apply IsS62.set_1 | refine IsS62.far ?_ NB190_186.out _ | refine IsS62.far ?_ NB190_187.out _ | refine IsS62.far ?_ NB190_194.out _ | refine IsS62.far ?_ NB190_203.out _) | exact HI190.out)), (by repeat (first | (with_reducible first | exact HB.out | apply bA | apply bN | apply bD | refine bS ?_ (IsS62.ge HI190.out) | refine bS ?_ GE186.out | refine bS ?_ GE187.out | refine bS ?_ GE194.out | refine bS ?_ GE203.out) | exact HB.out))⟩)
         ·skip
          refine box_step ?hg (N := 6) ?hd (cs := #[.string (⟨#[]⟩ : ByteArray), .string (⟨#[]⟩ : ByteArray)]) (t := 35) ?hr ?_; (case hd => rfl); (case hg => rfl); (case hr => first | (go_simp; done) | (go_simp; rfl))
          intro gb202 hg w78 hbox hb
          have n0_ := Aside0.mk (blk_below (hop BK186.out) hb)
          have n1_ := Aside0.mk (blk_below (hop BK187.out) hb)
          have n2_ := Aside0.mk (IsS62.below (by repeat (first | (with_reducible first | exact HI190.out | apply IsS62.alloc | apply IsS62.drewN | apply IsS62.drew | apply IsS62.set_1 | refine IsS62.far ?_ NB190_186.out _ | refine IsS62.far ?_ NB190_187.out _ | refine IsS62.far ?_ NB190_194.out _ | refine IsS62.far ?_ NB190_203.out _) | exact HI190.out)) hb)
          have n3_ := Aside0.mk (blk_below (hop BK194.out) hb)
          have n4_ := Aside0.mk (blk_below (hop BK203.out) hb)
          have n5_ := Aside0.mk (below_step (by repeat (first | (with_reducible first | exact HB.out | apply bA | apply bN | apply bD | refine bS ?_ (IsS62.ge HI190.out) | refine bS ?_ GE186.out | refine bS ?_ GE187.out | refine bS ?_ GE194.out | refine bS ?_ GE203.out) | exact HB.out)) hb)
          have n6_ := Aside0.mk (hbox)
          have n7_ := Aside0.mk ((by rw [hg]; exact (below_size (by repeat (first | (with_reducible first | exact HB.out | apply bA | apply bN | apply bD | refine bS ?_ (IsS62.ge HI190.out) | refine bS ?_ GE186.out | refine bS ?_ GE187.out | refine bS ?_ GE194.out | refine bS ?_ GE203.out) | exact HB.out))) : w.heap.size ≤ gb202))
          have n8_ := n7_
          have n9_ := Aside0.mk ((by rw [hg]; exact Nat.ne_of_lt (blk_lt (hop BK186.out)) : gb186 ≠ gb202))
          have n10_ := Aside0.mk ((by rw [hg]; exact Nat.ne_of_gt (blk_lt (hop BK186.out)) : gb202 ≠ gb186))
          have n11_ := Aside0.mk ((by rw [hg]; exact Nat.ne_of_lt (blk_lt (hop BK187.out)) : gb187 ≠ gb202))
          have n12_ := Aside0.mk ((by rw [hg]; exact Nat.ne_of_gt (blk_lt (hop BK187.out)) : gb202 ≠ gb187))
          have n13_ := Aside0.mk ((by rw [hg]; exact Nat.ne_of_lt (blk_lt (hop BK194.out)) : gb194 ≠ gb202))
          have n14_ := Aside0.mk ((by rw [hg]; exact Nat.ne_of_gt (blk_lt (hop BK194.out)) : gb202 ≠ gb194))
          have n15_ := Aside0.mk ((by rw [hg]; exact Nat.ne_of_lt (blk_lt (hop BK203.out)) : gb203 ≠ gb202))
          have n16_ := Aside0.mk ((by rw [hg]; exact Nat.ne_of_gt (blk_lt (hop BK203.out)) : gb202 ≠ gb203))
          have n17_ := Aside0.mk ((by rw [hg]; exact Nat.ne_of_lt (IsS62.lt (show IsS62 w _ g190 t188 t196 from by repeat (first | (with_reducible first | exact HI190.out | apply IsS62.alloc | apply IsS62.drewN | apply IsS62.drew | apply IsS62.set_1 | refine IsS62.far ?_ NB190_186.out _ | refine IsS62.far ?_ NB190_187.out _ | refine IsS62.far ?_ NB190_194.out _ | refine IsS62.far ?_ NB190_203.out _) | exact HI190.out))) : g190 ≠ gb202))
          have n18_ := Aside0.mk ((by rw [hg]; exact Nat.ne_of_gt (IsS62.lt (show IsS62 w _ g190 t188 t196 from by repeat (first | (with_reducible first | exact HI190.out | apply IsS62.alloc | apply IsS62.drewN | apply IsS62.drew | apply IsS62.set_1 | refine IsS62.far ?_ NB190_186.out _ | refine IsS62.far ?_ NB190_187.out _ | refine IsS62.far ?_ NB190_194.out _ | refine IsS62.far ?_ NB190_203.out _) | exact HI190.out))) : gb202 ≠ g190))
          clear BK186
          clear BK187
          clear HI190
          clear BK194
          clear BK203
          clear HB
          have BK186 := n0_
          have BK187 := n1_
          have HI190 := n2_
          have BK194 := n3_
          have BK203 := n4_
          have HB := n5_
          have BK202 := n6_
          have GW202 := n7_
          have GE202 := n8_
          have NB186_202 := n9_
          have NB202_186 := n10_
          have NB187_202 := n11_
          have NB202_187 := n12_
          have NB194_202 := n13_
          have NB202_194 := n14_
          have NB203_202 := n15_
          have NB202_203 := n16_
          have NB190_202 := n17_
          have NB202_190 := n18_
          clear n0_ n1_ n2_ n3_ n4_ n5_ n6_ n7_ n8_ n9_ n10_ n11_ n12_ n13_ n14_ n15_ n16_ n17_ n18_
          clear hb hbox hg
          refine hK.out _ _ ⟨(blk_cell BK194.out 0).trans rfl, (blk_cell BK194.out 1).trans rfl⟩ (fun hHeld => ?_)
          clear hK K
          refine norm_ (a' := ?_) ?_ ?_
          rotate_left
          ·show Act.put _ (some 6) _ = _
           simp only [Act.put, lT, lZ, lS, i64_w, i32_w]
           rfl
          exact norm_ (by simp only [putAll, Act.put, lT, lZ, lS] <;> rfl) (hJ2_8_9 (gb202, gb203) _ ⟨hHeld, (by exact hop BK186.out), (by exact hop BK187.out), (by exact hop BK194.out), (by exact hop BK202.out), (by exact hop BK203.out), GW202.out, GE202.out, NB190_202.out, NB202_190.out, NB186_202.out, NB202_186.out, NB187_202.out, NB202_187.out, NB194_202.out, NB202_194.out, NB203_202.out, NB202_203.out, GW203.out, GE203.out, NB190_203.out, NB203_190.out, NB186_203.out, NB203_186.out, NB187_203.out, NB203_187.out, NB194_203.out, NB203_194.out, (by repeat (first | (with_reducible first | exact HI190.out | apply IsS62.alloc | apply IsS62.drewN | apply IsS62.drew | apply IsS62.set_1 | refine IsS62.far ?_ NB190_186.out _ | refine IsS62.far ?_ NB190_187.out _ | refine IsS62.far ?_ NB190_194.out _ | refine IsS62.far ?_ NB190_203.out _ | refine IsS62.far ?_ NB190_202.out _) | exact HI190.out)), (by repeat (first | (with_reducible first | exact HB.out | apply bA | apply bN | apply bD | refine bS ?_ (IsS62.ge HI190.out) | refine bS ?_ GE186.out | refine bS ?_ GE187.out | refine bS ?_ GE194.out | refine bS ?_ GE203.out | refine bS ?_ GE202.out) | exact HB.out))⟩)
       ·skip
        rintro gb202 w77 ⟨hS_, h0_, h1_, h2_, h3_, h4_, h5_, h6_, h7_, h8_, h9_, h10_, h11_, h12_, h13_, h14_, h15_⟩
        have n0_ : Aside0 (w77.heap[gb186]? = some (.cells #[.string (⟨#[]⟩ : ByteArray), .string (⟨#[]⟩ : ByteArray)] 35 (0, 0))) := ⟨h0_⟩
        have n1_ : Aside0 (w77.heap[gb187]? = some (.cells #[.string (⟨#[]⟩ : ByteArray), .string (⟨#[]⟩ : ByteArray)] 35 (0, 0))) := ⟨h1_⟩
        have n2_ : Aside0 (w77.heap[gb194]? = some (.cells #[.string t191, .string t192] 35 (0, 0))) := ⟨h2_⟩
        have n3_ : Aside0 (w77.heap[gb202]? = some (.cells #[.string (⟨#[]⟩ : ByteArray), .string (⟨#[]⟩ : ByteArray)] 35 (0, 0))) := ⟨h3_⟩
        have n4_ : Aside0 (w.heap.size ≤ gb202) := ⟨h4_⟩
        have n5_ : Aside0 (w.heap.size ≤ gb202) := ⟨h5_⟩
        have n6_ : Aside0 (g190 ≠ gb202) := ⟨h6_⟩
        have n7_ : Aside0 (gb202 ≠ g190) := ⟨h7_⟩
        have n8_ : Aside0 (gb186 ≠ gb202) := ⟨h8_⟩
        have n9_ : Aside0 (gb202 ≠ gb186) := ⟨h9_⟩
        have n10_ : Aside0 (gb187 ≠ gb202) := ⟨h10_⟩
        have n11_ : Aside0 (gb202 ≠ gb187) := ⟨h11_⟩
        have n12_ : Aside0 (gb194 ≠ gb202) := ⟨h12_⟩
        have n13_ : Aside0 (gb202 ≠ gb194) := ⟨h13_⟩
        have n14_ : Aside0 (IsS62 w w77 g190 t188 t196) := ⟨h14_⟩
        have n15_ : Aside0 (Below w.heap.size w w77) := ⟨h15_⟩
        clear BK186
        clear BK187
        clear BK194
        clear HI190
        clear HB
        clear h0_ h1_ h2_ h3_ h4_ h5_ h6_ h7_ h8_ h9_ h10_ h11_ h12_ h13_ h14_ h15_
        have BK186 := n0_
        have BK187 := n1_
        have BK194 := n2_
        have BK202 := n3_
        have GW202 := n4_
        have GE202 := n5_
        have NB190_202 := n6_
        have NB202_190 := n7_
        have NB186_202 := n8_
        have NB202_186 := n9_
        have NB187_202 := n10_
        have NB202_187 := n11_
        have NB194_202 := n12_
        have NB202_194 := n13_
        have HI190 := n14_
        have HB := n15_
        clear n0_ n1_ n2_ n3_ n4_ n5_ n6_ n7_ n8_ n9_ n10_ n11_ n12_ n13_ n14_ n15_
        have hHeld : w77.cell? ⟨gb194, 0, none⟩ = some (.string t191) ∧ w77.cell? ⟨gb194, 1, none⟩ = some (.string t192) := hS_
        refine norm_ (a' := ?_) ?_ ?_
        rotate_left
        ·simp only [putAll, Act.put, lT, lZ, lS]
         rfl
        refine two_ (i := 3) (j := 9) (Ni := some 17) (Nj := some 7) #[true, true, true, true, false, false, false, false, true, false, false, false, false] #[true, true, true, false, false, false, false, false, true, true, false, false, false] rfl rfl rfl rfl (two_of HT_.out (by kernel_rfl)) (by decide) (by decide) (fun K hK => ?_) (fun K hK => ?_)
        ·skip
         refine goes_ Try.func40 (by kernel_rfl) rfl #[.agg #[.string t191, .string t192], .string t195] (by rfl) rfl rfl (by (try simp only [List.map_toArray, List.map_cons, List.map_nil]); first | done | rfl | (simp only [List.length_drop, List.length_take]; rfl)) ?_
         with_reducible refine (spec_IntervalCut.calls k t191 t192 t195 t197 t198 t199 t200 false _ A5.out).mono ?_
         rintro e w78 ⟨rfl, hb⟩
         refine ⟨_, rfl, ?_⟩
         have n0_ := Aside0.mk (blk_below (hop BK186.out) hb)
         have n1_ := Aside0.mk (blk_below (hop BK187.out) hb)
         have n2_ := Aside0.mk (IsS62.below (by repeat (first | (with_reducible first | exact HI190.out | apply IsS62.alloc | apply IsS62.drewN | apply IsS62.drew | apply IsS62.set_1 | refine IsS62.far ?_ NB190_186.out _ | refine IsS62.far ?_ NB190_187.out _ | refine IsS62.far ?_ NB190_194.out _ | refine IsS62.far ?_ NB190_202.out _) | exact HI190.out)) hb)
         have n3_ := Aside0.mk (blk_below (hop BK194.out) hb)
         have n4_ := Aside0.mk (blk_below (hop BK202.out) hb)
         have n5_ := Aside0.mk (below_step (by repeat (first | (with_reducible first | exact HB.out | apply bA | apply bN | apply bD | refine bS ?_ (IsS62.ge HI190.out) | refine bS ?_ GE186.out | refine bS ?_ GE187.out | refine bS ?_ GE194.out | refine bS ?_ GE202.out) | exact HB.out)) hb)
         clear BK186
         clear BK187
         clear HI190
         clear BK194
         clear BK202
         clear HB
         have BK186 := n0_
         have BK187 := n1_
         have HI190 := n2_
         have BK194 := n3_
         have BK202 := n4_
         have HB := n5_
         clear n0_ n1_ n2_ n3_ n4_ n5_
         (try clear hb)
         (try clear hb2)
         (try clear hk)
         (try clear hi)
         refine hK.out _ _ ⟨(blk_cell BK194.out 0).trans rfl, (blk_cell BK194.out 1).trans rfl⟩ (fun hHeld => ?_)
         clear hK K
         refine norm_ (a' := ?_) ?_ ?_
         rotate_left
         ·show Act.put _ (some 17) _ = _
          simp only [Act.put, lT, lZ, lS, i64_w, i32_w]
          rfl
         refine pure_ (i := 4) (N := some 13) (v := ?_) (a' := ?_) #[true, true, true, true, true, false, false, false, true, false, false, false, false] rfl rfl (any_of HT_.out (by kernel_rfl)) (fun _ _ _ h => h) (Or.inl ⟨by rfl, ?_⟩) ?_ ?_
         rotate_left
         ·intro w'
          go_simp
          with_reducible rfl
         rotate_left
         ·simp only [Act.put, lT, lZ, lS, i64_w, i32_w]
          rfl
         refine pure_ (i := 5) (N := some 18) (v := ?_) (a' := ?_) #[true, true, true, true, true, true, false, false, true, false, false, false, false] rfl rfl (any_of HT_.out (by kernel_rfl)) (fun _ _ _ h => h) (Or.inl ⟨by rfl, ?_⟩) ?_ ?_
         rotate_left
         ·intro w'
          go_simp
          with_reducible rfl
         rotate_left
         ·simp only [Act.put, lT, lZ, lS, i64_w, i32_w]
          rfl
         refine pure_ (i := 6) (N := some 19) (v := ?_) (a' := ?_) #[true, true, true, true, true, true, true, false, true, false, false, false, false] rfl rfl (any_of HT_.out (by kernel_rfl)) (fun _ _ _ h => h) (Or.inl ⟨by rfl, ?_⟩) ?_ ?_
         rotate_left
         ·intro w'
          go_simp
          with_reducible rfl
         rotate_left
         ·simp only [Act.put, lT, lZ, lS, i64_w, i32_w]
          rfl
         refine pure_ (i := 7) (N := some 20) (v := ?_) (a' := ?_) #[true, true, true, true, true, true, true, true, true, false, false, false, false] rfl rfl (any_of HT_.out (by kernel_rfl)) (fun _ _ _ h => h) (Or.inl ⟨by rfl, ?_⟩) ?_ ?_
         rotate_left
         ·intro w'
          go_simp
          with_reducible rfl
         rotate_left
         ·simp only [Act.put, lT, lZ, lS, i64_w, i32_w]
          rfl
         exact norm_ (by simp only [putAll, Act.put, lT, lZ, lS] <;> rfl) (hJ2_3_8 (gb202) _ ⟨hHeld, (by exact hop BK186.out), (by exact hop BK187.out), (by exact hop BK194.out), (by exact hop BK202.out), GW202.out, GE202.out, NB190_202.out, NB202_190.out, NB186_202.out, NB202_186.out, NB187_202.out, NB202_187.out, NB194_202.out, NB202_194.out, (by repeat (first | (with_reducible first | exact HI190.out | apply IsS62.alloc | apply IsS62.drewN | apply IsS62.drew | apply IsS62.set_1 | refine IsS62.far ?_ NB190_186.out _ | refine IsS62.far ?_ NB190_187.out _ | refine IsS62.far ?_ NB190_194.out _ | refine IsS62.far ?_ NB190_202.out _) | exact HI190.out)), (by repeat (first | (with_reducible first | exact HB.out | apply bA | apply bN | apply bD | refine bS ?_ (IsS62.ge HI190.out) | refine bS ?_ GE186.out | refine bS ?_ GE187.out | refine bS ?_ GE194.out | refine bS ?_ GE202.out) | exact HB.out))⟩)
        ·skip
         refine box_step ?hg (N := 7) ?hd (cs := #[.string (⟨#[]⟩ : ByteArray), .string (⟨#[]⟩ : ByteArray)]) (t := 35) ?hr ?_; (case hd => rfl); (case hg => rfl); (case hr => first | (go_simp; done) | (go_simp; rfl))
         intro gb203 hg w78 hbox hb
         have n0_ := Aside0.mk (blk_below (hop BK186.out) hb)
         have n1_ := Aside0.mk (blk_below (hop BK187.out) hb)
         have n2_ := Aside0.mk (IsS62.below (by repeat (first | (with_reducible first | exact HI190.out | apply IsS62.alloc | apply IsS62.drewN | apply IsS62.drew | apply IsS62.set_1 | refine IsS62.far ?_ NB190_186.out _ | refine IsS62.far ?_ NB190_187.out _ | refine IsS62.far ?_ NB190_194.out _ | refine IsS62.far ?_ NB190_202.out _) | exact HI190.out)) hb)
         have n3_ := Aside0.mk (blk_below (hop BK194.out) hb)
         have n4_ := Aside0.mk (blk_below (hop BK202.out) hb)
         have n5_ := Aside0.mk (below_step (by repeat (first | (with_reducible first | exact HB.out | apply bA | apply bN | apply bD | refine bS ?_ (IsS62.ge HI190.out) | refine bS ?_ GE186.out | refine bS ?_ GE187.out | refine bS ?_ GE194.out | refine bS ?_ GE202.out) | exact HB.out)) hb)
         have n6_ := Aside0.mk (hbox)
         have n7_ := Aside0.mk ((by rw [hg]; exact (below_size (by repeat (first | (with_reducible first | exact HB.out | apply bA | apply bN | apply bD | refine bS ?_ (IsS62.ge HI190.out) | refine bS ?_ GE186.out | refine bS ?_ GE187.out | refine bS ?_ GE194.out | refine bS ?_ GE202.out) | exact HB.out))) : w.heap.size ≤ gb203))
         have n8_ := n7_
         have n9_ := Aside0.mk ((by rw [hg]; exact Nat.ne_of_lt (blk_lt (hop BK186.out)) : gb186 ≠ gb203))
         have n10_ := Aside0.mk ((by rw [hg]; exact Nat.ne_of_gt (blk_lt (hop BK186.out)) : gb203 ≠ gb186))
         have n11_ := Aside0.mk ((by rw [hg]; exact Nat.ne_of_lt (blk_lt (hop BK187.out)) : gb187 ≠ gb203))
         have n12_ := Aside0.mk ((by rw [hg]; exact Nat.ne_of_gt (blk_lt (hop BK187.out)) : gb203 ≠ gb187))
         have n13_ := Aside0.mk ((by rw [hg]; exact Nat.ne_of_lt (blk_lt (hop BK194.out)) : gb194 ≠ gb203))
         have n14_ := Aside0.mk ((by rw [hg]; exact Nat.ne_of_gt (blk_lt (hop BK194.out)) : gb203 ≠ gb194))
         have n15_ := Aside0.mk ((by rw [hg]; exact Nat.ne_of_lt (blk_lt (hop BK202.out)) : gb202 ≠ gb203))
         have n16_ := Aside0.mk ((by rw [hg]; exact Nat.ne_of_gt (blk_lt (hop BK202.out)) : gb203 ≠ gb202))
         have n17_ := Aside0.mk ((by rw [hg]; exact Nat.ne_of_lt (IsS62.lt (show IsS62 w _ g190 t188 t196 from by repeat (first | (with_reducible first | exact HI190.out | apply IsS62.alloc | apply IsS62.drewN | apply IsS62.drew | apply IsS62.set_1 | refine IsS62.far ?_ NB190_186.out _ | refine IsS62.far ?_ NB190_187.out _ | refine IsS62.far ?_ NB190_194.out _ | refine IsS62.far ?_ NB190_202.out _) | exact HI190.out))) : g190 ≠ gb203))
         have n18_ := Aside0.mk ((by rw [hg]; exact Nat.ne_of_gt (IsS62.lt (show IsS62 w _ g190 t188 t196 from by repeat (first | (with_reducible first | exact HI190.out | apply IsS62.alloc | apply IsS62.drewN | apply IsS62.drew | apply IsS62.set_1 | refine IsS62.far ?_ NB190_186.out _ | refine IsS62.far ?_ NB190_187.out _ | refine IsS62.far ?_ NB190_194.out _ | refine IsS62.far ?_ NB190_202.out _) | exact HI190.out))) : gb203 ≠ g190))
         clear BK186
         clear BK187
         clear HI190
         clear BK194
         clear BK202
         clear HB
         have BK186 := n0_
         have BK187 := n1_
         have HI190 := n2_
         have BK194 := n3_
         have BK202 := n4_
         have HB := n5_
         have BK203 := n6_
         have GW203 := n7_
         have GE203 := n8_
         have NB186_203 := n9_
         have NB203_186 := n10_
         have NB187_203 := n11_
         have NB203_187 := n12_
         have NB194_203 := n13_
         have NB203_194 := n14_
         have NB202_203 := n15_
         have NB203_202 := n16_
         have NB190_203 := n17_
         have NB203_190 := n18_
         clear n0_ n1_ n2_ n3_ n4_ n5_ n6_ n7_ n8_ n9_ n10_ n11_ n12_ n13_ n14_ n15_ n16_ n17_ n18_
         clear hb hbox hg
         refine hK.out _ _ ⟨(blk_cell BK194.out 0).trans rfl, (blk_cell BK194.out 1).trans rfl⟩ (fun hHeld => ?_)
         clear hK K
         refine norm_ (a' := ?_) ?_ ?_
         rotate_left
         ·show Act.put _ (some 7) _ = _
          simp only [Act.put, lT, lZ, lS, i64_w, i32_w]
          rfl
         exact norm_ (by simp only [putAll, Act.put, lT, lZ, lS] <;> rfl) (hJ2_8_9 (gb202, gb203) _ ⟨hHeld, (by exact hop BK186.out), (by exact hop BK187.out), (by exact hop BK194.out), (by exact hop BK202.out), (by exact hop BK203.out), GW202.out, GE202.out, NB190_202.out, NB202_190.out, NB186_202.out, NB202_186.out, NB187_202.out, NB202_187.out, NB194_202.out, NB202_194.out, NB203_202.out, NB202_203.out, GW203.out, GE203.out, NB190_203.out, NB203_190.out, NB186_203.out, NB203_186.out, NB187_203.out, NB203_187.out, NB194_203.out, NB203_194.out, (by repeat (first | (with_reducible first | exact HI190.out | apply IsS62.alloc | apply IsS62.drewN | apply IsS62.drew | apply IsS62.set_1 | refine IsS62.far ?_ NB190_186.out _ | refine IsS62.far ?_ NB190_187.out _ | refine IsS62.far ?_ NB190_194.out _ | refine IsS62.far ?_ NB190_202.out _ | refine IsS62.far ?_ NB190_203.out _) | exact HI190.out)), (by repeat (first | (with_reducible first | exact HB.out | apply bA | apply bN | apply bD | refine bS ?_ (IsS62.ge HI190.out) | refine bS ?_ GE186.out | refine bS ?_ GE187.out | refine bS ?_ GE194.out | refine bS ?_ GE202.out | refine bS ?_ GE203.out) | exact HB.out))⟩)
      ·skip
       rintro _ w77 ⟨hS_, h0_, h1_, h2_, h3_, h4_⟩
       have n0_ : Aside0 (w77.heap[gb186]? = some (.cells #[.string (⟨#[]⟩ : ByteArray), .string (⟨#[]⟩ : ByteArray)] 35 (0, 0))) := ⟨h0_⟩
       have n1_ : Aside0 (w77.heap[gb187]? = some (.cells #[.string (⟨#[]⟩ : ByteArray), .string (⟨#[]⟩ : ByteArray)] 35 (0, 0))) := ⟨h1_⟩
       have n2_ : Aside0 (w77.heap[gb194]? = some (.cells #[.string t191, .string t192] 35 (0, 0))) := ⟨h2_⟩
       have n3_ : Aside0 (IsS62 w w77 g190 t188 t196) := ⟨h3_⟩
       have n4_ : Aside0 (Below w.heap.size w w77) := ⟨h4_⟩
       clear BK186
       clear BK187
       clear BK194
       clear HI190
       clear HB
       clear h0_ h1_ h2_ h3_ h4_
       have BK186 := n0_
       have BK187 := n1_
       have BK194 := n2_
       have HI190 := n3_
       have HB := n4_
       clear n0_ n1_ n2_ n3_ n4_
       have hHeld : w77.cell? ⟨gb194, 0, none⟩ = some (.string t191) ∧ w77.cell? ⟨gb194, 1, none⟩ = some (.string t192) := hS_
       refine norm_ (a' := ?_) ?_ ?_
       rotate_left
       ·simp only [putAll, Act.put, lT, lZ, lS]
        rfl
       refine two_ (i := 8) (j := 9) (Ni := some 6) (Nj := some 7) #[true, true, true, true, true, true, true, true, true, false, false, false, false] #[true, true, true, true, true, true, true, true, false, true, false, false, false] rfl rfl rfl rfl (two_of HT_.out (by kernel_rfl)) (by decide) (by decide) (fun K hK => ?_) (fun K hK => ?_)
       ·skip
        refine box_step ?hg (N := 6) ?hd (cs := #[.string (⟨#[]⟩ : ByteArray), .string (⟨#[]⟩ : ByteArray)]) (t := 35) ?hr ?_; (case hd => rfl); (case hg => rfl); (case hr => first | (go_simp; done) | (go_simp; rfl))
        intro gb202 hg w78 hbox hb
        have n0_ := Aside0.mk (blk_below (hop BK186.out) hb)
        have n1_ := Aside0.mk (blk_below (hop BK187.out) hb)
        have n2_ := Aside0.mk (IsS62.below (by repeat (first | (with_reducible first | exact HI190.out | apply IsS62.alloc | apply IsS62.drewN | apply IsS62.drew | apply IsS62.set_1 | refine IsS62.far ?_ NB190_186.out _ | refine IsS62.far ?_ NB190_187.out _ | refine IsS62.far ?_ NB190_194.out _) | exact HI190.out)) hb)
        have n3_ := Aside0.mk (blk_below (hop BK194.out) hb)
        have n4_ := Aside0.mk (below_step (by repeat (first | (with_reducible first | exact HB.out | apply bA | apply bN | apply bD | refine bS ?_ (IsS62.ge HI190.out) | refine bS ?_ GE186.out | refine bS ?_ GE187.out | refine bS ?_ GE194.out) | exact HB.out)) hb)
        have n5_ := Aside0.mk (hbox)
        have n6_ := Aside0.mk ((by rw [hg]; exact (below_size (by repeat (first | (with_reducible first | exact HB.out | apply bA | apply bN | apply bD | refine bS ?_ (IsS62.ge HI190.out) | refine bS ?_ GE186.out | refine bS ?_ GE187.out | refine bS ?_ GE194.out) | exact HB.out))) : w.heap.size ≤ gb202))
        have n7_ := n6_
        have n8_ := Aside0.mk ((by rw [hg]; exact Nat.ne_of_lt (blk_lt (hop BK186.out)) : gb186 ≠ gb202))
        have n9_ := Aside0.mk ((by rw [hg]; exact Nat.ne_of_gt (blk_lt (hop BK186.out)) : gb202 ≠ gb186))
        have n10_ := Aside0.mk ((by rw [hg]; exact Nat.ne_of_lt (blk_lt (hop BK187.out)) : gb187 ≠ gb202))
        have n11_ := Aside0.mk ((by rw [hg]; exact Nat.ne_of_gt (blk_lt (hop BK187.out)) : gb202 ≠ gb187))
        have n12_ := Aside0.mk ((by rw [hg]; exact Nat.ne_of_lt (blk_lt (hop BK194.out)) : gb194 ≠ gb202))
        have n13_ := Aside0.mk ((by rw [hg]; exact Nat.ne_of_gt (blk_lt (hop BK194.out)) : gb202 ≠ gb194))
        have n14_ := Aside0.mk ((by rw [hg]; exact Nat.ne_of_lt (IsS62.lt (show IsS62 w _ g190 t188 t196 from by repeat (first | (with_reducible first | exact HI190.out | apply IsS62.alloc | apply IsS62.drewN | apply IsS62.drew | apply IsS62.set_1 | refine IsS62.far ?_ NB190_186.out _ | refine IsS62.far ?_ NB190_187.out _ | refine IsS62.far ?_ NB190_194.out _) | exact HI190.out))) : g190 ≠ gb202))
        have n15_ := Aside0.mk ((by rw [hg]; exact Nat.ne_of_gt (IsS62.lt (show IsS62 w _ g190 t188 t196 from by repeat (first | (with_reducible first | exact HI190.out | apply IsS62.alloc | apply IsS62.drewN | apply IsS62.drew | apply IsS62.set_1 | refine IsS62.far ?_ NB190_186.out _ | refine IsS62.far ?_ NB190_187.out _ | refine IsS62.far ?_ NB190_194.out _) | exact HI190.out))) : gb202 ≠ g190))
        clear BK186
        clear BK187
        clear HI190
        clear BK194
        clear HB
        have BK186 := n0_
        have BK187 := n1_
        have HI190 := n2_
        have BK194 := n3_
        have HB := n4_
        have BK202 := n5_
        have GW202 := n6_
        have GE202 := n7_
        have NB186_202 := n8_
        have NB202_186 := n9_
        have NB187_202 := n10_
        have NB202_187 := n11_
        have NB194_202 := n12_
        have NB202_194 := n13_
        have NB190_202 := n14_
        have NB202_190 := n15_
        clear n0_ n1_ n2_ n3_ n4_ n5_ n6_ n7_ n8_ n9_ n10_ n11_ n12_ n13_ n14_ n15_
        clear hb hbox hg
        refine hK.out _ _ ⟨(blk_cell BK194.out 0).trans rfl, (blk_cell BK194.out 1).trans rfl⟩ (fun hHeld => ?_)
        clear hK K
        refine norm_ (a' := ?_) ?_ ?_
        rotate_left
        ·show Act.put _ (some 6) _ = _
         simp only [Act.put, lT, lZ, lS, i64_w, i32_w]
         rfl
        exact norm_ (by simp only [putAll, Act.put, lT, lZ, lS] <;> rfl) (hJ2_3_8 (gb202) _ ⟨hHeld, (by exact hop BK186.out), (by exact hop BK187.out), (by exact hop BK194.out), (by exact hop BK202.out), GW202.out, GE202.out, NB190_202.out, NB202_190.out, NB186_202.out, NB202_186.out, NB187_202.out, NB202_187.out, NB194_202.out, NB202_194.out, (by repeat (first | (with_reducible first | exact HI190.out | apply IsS62.alloc | apply IsS62.drewN | apply IsS62.drew | apply IsS62.set_1 | refine IsS62.far ?_ NB190_186.out _ | refine IsS62.far ?_ NB190_187.out _ | refine IsS62.far ?_ NB190_194.out _ | refine IsS62.far ?_ NB190_202.out _) | exact HI190.out)), (by repeat (first | (with_reducible first | exact HB.out | apply bA | apply bN | apply bD | refine bS ?_ (IsS62.ge HI190.out) | refine bS ?_ GE186.out | refine bS ?_ GE187.out | refine bS ?_ GE194.out | refine bS ?_ GE202.out) | exact HB.out))⟩)
       ·skip
        refine box_step ?hg (N := 7) ?hd (cs := #[.string (⟨#[]⟩ : ByteArray), .string (⟨#[]⟩ : ByteArray)]) (t := 35) ?hr ?_; (case hd => rfl); (case hg => rfl); (case hr => first | (go_simp; done) | (go_simp; rfl))
        intro gb203 hg w78 hbox hb
        have n0_ := Aside0.mk (blk_below (hop BK186.out) hb)
        have n1_ := Aside0.mk (blk_below (hop BK187.out) hb)
        have n2_ := Aside0.mk (IsS62.below (by repeat (first | (with_reducible first | exact HI190.out | apply IsS62.alloc | apply IsS62.drewN | apply IsS62.drew | apply IsS62.set_1 | refine IsS62.far ?_ NB190_186.out _ | refine IsS62.far ?_ NB190_187.out _ | refine IsS62.far ?_ NB190_194.out _) | exact HI190.out)) hb)
        have n3_ := Aside0.mk (blk_below (hop BK194.out) hb)
        have n4_ := Aside0.mk (below_step (by repeat (first | (with_reducible first | exact HB.out | apply bA | apply bN | apply bD | refine bS ?_ (IsS62.ge HI190.out) | refine bS ?_ GE186.out | refine bS ?_ GE187.out | refine bS ?_ GE194.out) | exact HB.out)) hb)
        have n5_ := Aside0.mk (hbox)
        have n6_ := Aside0.mk ((by rw [hg]; exact (below_size (by repeat (first | (with_reducible first | exact HB.out | apply bA | apply bN | apply bD | refine bS ?_ (IsS62.ge HI190.out) | refine bS ?_ GE186.out | refine bS ?_ GE187.out | refine bS ?_ GE194.out) | exact HB.out))) : w.heap.size ≤ gb203))
        have n7_ := n6_
        have n8_ := Aside0.mk ((by rw [hg]; exact Nat.ne_of_lt (blk_lt (hop BK186.out)) : gb186 ≠ gb203))
        have n9_ := Aside0.mk ((by rw [hg]; exact Nat.ne_of_gt (blk_lt (hop BK186.out)) : gb203 ≠ gb186))
        have n10_ := Aside0.mk ((by rw [hg]; exact Nat.ne_of_lt (blk_lt (hop BK187.out)) : gb187 ≠ gb203))
        have n11_ := Aside0.mk ((by rw [hg]; exact Nat.ne_of_gt (blk_lt (hop BK187.out)) : gb203 ≠ gb187))
        have n12_ := Aside0.mk ((by rw [hg]; exact Nat.ne_of_lt (blk_lt (hop BK194.out)) : gb194 ≠ gb203))
        have n13_ := Aside0.mk ((by rw [hg]; exact Nat.ne_of_gt (blk_lt (hop BK194.out)) : gb203 ≠ gb194))
        have n14_ := Aside0.mk ((by rw [hg]; exact Nat.ne_of_lt (IsS62.lt (show IsS62 w _ g190 t188 t196 from by repeat (first | (with_reducible first | exact HI190.out | apply IsS62.alloc | apply IsS62.drewN | apply IsS62.drew | apply IsS62.set_1 | refine IsS62.far ?_ NB190_186.out _ | refine IsS62.far ?_ NB190_187.out _ | refine IsS62.far ?_ NB190_194.out _) | exact HI190.out))) : g190 ≠ gb203))
        have n15_ := Aside0.mk ((by rw [hg]; exact Nat.ne_of_gt (IsS62.lt (show IsS62 w _ g190 t188 t196 from by repeat (first | (with_reducible first | exact HI190.out | apply IsS62.alloc | apply IsS62.drewN | apply IsS62.drew | apply IsS62.set_1 | refine IsS62.far ?_ NB190_186.out _ | refine IsS62.far ?_ NB190_187.out _ | refine IsS62.far ?_ NB190_194.out _) | exact HI190.out))) : gb203 ≠ g190))
        clear BK186
        clear BK187
        clear HI190
        clear BK194
        clear HB
        have BK186 := n0_
        have BK187 := n1_
        have HI190 := n2_
        have BK194 := n3_
        have HB := n4_
        have BK203 := n5_
        have GW203 := n6_
        have GE203 := n7_
        have NB186_203 := n8_
        have NB203_186 := n9_
        have NB187_203 := n10_
        have NB203_187 := n11_
        have NB194_203 := n12_
        have NB203_194 := n13_
        have NB190_203 := n14_
        have NB203_190 := n15_
        clear n0_ n1_ n2_ n3_ n4_ n5_ n6_ n7_ n8_ n9_ n10_ n11_ n12_ n13_ n14_ n15_
        clear hb hbox hg
        refine hK.out _ _ ⟨(blk_cell BK194.out 0).trans rfl, (blk_cell BK194.out 1).trans rfl⟩ (fun hHeld => ?_)
        clear hK K
        refine norm_ (a' := ?_) ?_ ?_
        rotate_left
        ·show Act.put _ (some 7) _ = _
         simp only [Act.put, lT, lZ, lS, i64_w, i32_w]
         rfl
        exact norm_ (by simp only [putAll, Act.put, lT, lZ, lS] <;> rfl) (hJ2_3_9 (gb203) _ ⟨hHeld, (by exact hop BK186.out), (by exact hop BK187.out), (by exact hop BK194.out), (by exact hop BK203.out), GW203.out, GE203.out, NB190_203.out, NB203_190.out, NB186_203.out, NB203_186.out, NB187_203.out, NB203_187.out, NB194_203.out, NB203_194.out, (by repeat (first | (with_reducible first | exact HI190.out | apply IsS62.alloc | apply IsS62.drewN | apply IsS62.drew | apply IsS62.set_1 | refine IsS62.far ?_ NB190_186.out _ | refine IsS62.far ?_ NB190_187.out _ | refine IsS62.far ?_ NB190_194.out _ | refine IsS62.far ?_ NB190_203.out _) | exact HI190.out)), (by repeat (first | (with_reducible first | exact HB.out | apply bA | apply bN | apply bD | refine bS ?_ (IsS62.ge HI190.out) | refine bS ?_ GE186.out | refine bS ?_ GE187.out | refine bS ?_ GE194.out | refine bS ?_ GE203.out) | exact HB.out))⟩)
     ·skip
      rintro ⟨gb202, gb203⟩ w78 ⟨hS_, h0_, h1_, h2_, h3_, h4_, h5_, h6_, h7_, h8_, h9_, h10_, h11_, h12_, h13_, h14_, h15_, h16_, h17_, h18_, h19_, h20_, h21_, h22_, h23_, h24_, h25_, h26_, h27_, h28_⟩
      have n0_ : Aside0 (w78.heap[gb186]? = some (.cells #[.string (⟨#[]⟩ : ByteArray), .string (⟨#[]⟩ : ByteArray)] 35 (0, 0))) := ⟨h0_⟩
      have n1_ : Aside0 (w78.heap[gb187]? = some (.cells #[.string (⟨#[]⟩ : ByteArray), .string (⟨#[]⟩ : ByteArray)] 35 (0, 0))) := ⟨h1_⟩
      have n2_ : Aside0 (w78.heap[gb194]? = some (.cells #[.string t191, .string t192] 35 (0, 0))) := ⟨h2_⟩
      have n3_ : Aside0 (w78.heap[gb202]? = some (.cells #[.string (⟨#[]⟩ : ByteArray), .string (⟨#[]⟩ : ByteArray)] 35 (0, 0))) := ⟨h3_⟩
      have n4_ : Aside0 (w78.heap[gb203]? = some (.cells #[.string (⟨#[]⟩ : ByteArray), .string (⟨#[]⟩ : ByteArray)] 35 (0, 0))) := ⟨h4_⟩
      have n5_ : Aside0 (w.heap.size ≤ gb202) := ⟨h5_⟩
      have n6_ : Aside0 (w.heap.size ≤ gb202) := ⟨h6_⟩
      have n7_ : Aside0 (g190 ≠ gb202) := ⟨h7_⟩
      have n8_ : Aside0 (gb202 ≠ g190) := ⟨h8_⟩
      have n9_ : Aside0 (gb186 ≠ gb202) := ⟨h9_⟩
      have n10_ : Aside0 (gb202 ≠ gb186) := ⟨h10_⟩
      have n11_ : Aside0 (gb187 ≠ gb202) := ⟨h11_⟩
      have n12_ : Aside0 (gb202 ≠ gb187) := ⟨h12_⟩
      have n13_ : Aside0 (gb194 ≠ gb202) := ⟨h13_⟩
      have n14_ : Aside0 (gb202 ≠ gb194) := ⟨h14_⟩
      have n15_ : Aside0 (gb203 ≠ gb202) := ⟨h15_⟩
      have n16_ : Aside0 (gb202 ≠ gb203) := ⟨h16_⟩
      have n17_ : Aside0 (w.heap.size ≤ gb203) := ⟨h17_⟩
      have n18_ : Aside0 (w.heap.size ≤ gb203) := ⟨h18_⟩
      have n19_ : Aside0 (g190 ≠ gb203) := ⟨h19_⟩
      have n20_ : Aside0 (gb203 ≠ g190) := ⟨h20_⟩
      have n21_ : Aside0 (gb186 ≠ gb203) := ⟨h21_⟩
      have n22_ : Aside0 (gb203 ≠ gb186) := ⟨h22_⟩
      have n23_ : Aside0 (gb187 ≠ gb203) := ⟨h23_⟩
      have n24_ : Aside0 (gb203 ≠ gb187) := ⟨h24_⟩
      have n25_ : Aside0 (gb194 ≠ gb203) := ⟨h25_⟩
      have n26_ : Aside0 (gb203 ≠ gb194) := ⟨h26_⟩
      have n27_ : Aside0 (IsS62 w w78 g190 t188 t196) := ⟨h27_⟩
      have n28_ : Aside0 (Below w.heap.size w w78) := ⟨h28_⟩
      clear BK186
      clear BK187
      clear BK194
      clear HI190
      clear HB
      clear h0_ h1_ h2_ h3_ h4_ h5_ h6_ h7_ h8_ h9_ h10_ h11_ h12_ h13_ h14_ h15_ h16_ h17_ h18_ h19_ h20_ h21_ h22_ h23_ h24_ h25_ h26_ h27_ h28_
      have BK186 := n0_
      have BK187 := n1_
      have BK194 := n2_
      have BK202 := n3_
      have BK203 := n4_
      have GW202 := n5_
      have GE202 := n6_
      have NB190_202 := n7_
      have NB202_190 := n8_
      have NB186_202 := n9_
      have NB202_186 := n10_
      have NB187_202 := n11_
      have NB202_187 := n12_
      have NB194_202 := n13_
      have NB202_194 := n14_
      have NB203_202 := n15_
      have NB202_203 := n16_
      have GW203 := n17_
      have GE203 := n18_
      have NB190_203 := n19_
      have NB203_190 := n20_
      have NB186_203 := n21_
      have NB203_186 := n22_
      have NB187_203 := n23_
      have NB203_187 := n24_
      have NB194_203 := n25_
      have NB203_194 := n26_
      have HI190 := n27_
      have HB := n28_
      clear n0_ n1_ n2_ n3_ n4_ n5_ n6_ n7_ n8_ n9_ n10_ n11_ n12_ n13_ n14_ n15_ n16_ n17_ n18_ n19_ n20_ n21_ n22_ n23_ n24_ n25_ n26_ n27_ n28_
      have hHeld : w78.cell? ⟨gb194, 0, none⟩ = some (.string t191) ∧ w78.cell? ⟨gb194, 1, none⟩ = some (.string t192) := hS_
      refine norm_ (a' := ?_) ?_ ?_
      rotate_left
      ·simp only [putAll, Act.put, lT, lZ, lS]
       rfl
      refine one_ (i := 3) (N := some 17) #[true, true, true, true, false, false, false, false, true, true, false, false, false] rfl rfl (one_of HT_.out (by kernel_rfl)) (by decide) (fun K hK => ?_)
      refine goes_ Try.func40 (by kernel_rfl) rfl #[.agg #[.string t191, .string t192], .string t195] (by rfl) rfl rfl (by (try simp only [List.map_toArray, List.map_cons, List.map_nil]); first | done | rfl | (simp only [List.length_drop, List.length_take]; rfl)) ?_
      with_reducible refine (spec_IntervalCut.calls k t191 t192 t195 t197 t198 t199 t200 false _ A5.out).mono ?_
      rintro e w79 ⟨rfl, hb⟩
      refine ⟨_, rfl, ?_⟩
      have n0_ := Aside0.mk (blk_below (hop BK186.out) hb)
      have n1_ := Aside0.mk (blk_below (hop BK187.out) hb)
      have n2_ := Aside0.mk (IsS62.below (by repeat (first | (with_reducible first | exact HI190.out | apply IsS62.alloc | apply IsS62.drewN | apply IsS62.drew | apply IsS62.set_1 | refine IsS62.far ?_ NB190_186.out _ | refine IsS62.far ?_ NB190_187.out _ | refine IsS62.far ?_ NB190_194.out _ | refine IsS62.far ?_ NB190_202.out _ | refine IsS62.far ?_ NB190_203.out _) | exact HI190.out)) hb)
      have n3_ := Aside0.mk (blk_below (hop BK194.out) hb)
      have n4_ := Aside0.mk (blk_below (hop BK202.out) hb)
      have n5_ := Aside0.mk (blk_below (hop BK203.out) hb)
      have n6_ := Aside0.mk (below_step (by repeat (first | (with_reducible first | exact HB.out | apply bA | apply bN | apply bD | refine bS ?_ (IsS62.ge HI190.out) | refine bS ?_ GE186.out | refine bS ?_ GE187.out | refine bS ?_ GE194.out | refine bS ?_ GE202.out | refine bS ?_ GE203.out) | exact HB.out)) hb)
      clear BK186
      clear BK187
      clear HI190
      clear BK194
      clear BK202
      clear BK203
      clear HB
      have BK186 := n0_
      have BK187 := n1_
      have HI190 := n2_
      have BK194 := n3_
      have BK202 := n4_
      have BK203 := n5_
      have HB := n6_
      clear n0_ n1_ n2_ n3_ n4_ n5_ n6_
      (try clear hb)
      (try clear hb2)
      (try clear hk)
      (try clear hi)
      refine hK.out _ _ ⟨(blk_cell BK194.out 0).trans rfl, (blk_cell BK194.out 1).trans rfl⟩ (fun hHeld => ?_)
      clear hK K
      refine norm_ (a' := ?_) ?_ ?_
      rotate_left
      ·show Act.put _ (some 17) _ = _
       simp only [Act.put, lT, lZ, lS, i64_w, i32_w]
       rfl
      refine pure_ (i := 4) (N := some 13) (v := ?_) (a' := ?_) #[true, true, true, true, true, false, false, false, true, true, false, false, false] rfl rfl (any_of HT_.out (by kernel_rfl)) (fun _ _ _ h => h) (Or.inl ⟨by rfl, ?_⟩) ?_ ?_
      rotate_left
      ·intro w'
       go_simp
       with_reducible rfl
      rotate_left
      ·simp only [Act.put, lT, lZ, lS, i64_w, i32_w]
       rfl
      refine pure_ (i := 5) (N := some 18) (v := ?_) (a' := ?_) #[true, true, true, true, true, true, false, false, true, true, false, false, false] rfl rfl (any_of HT_.out (by kernel_rfl)) (fun _ _ _ h => h) (Or.inl ⟨by rfl, ?_⟩) ?_ ?_
      rotate_left
      ·intro w'
       go_simp
       with_reducible rfl
      rotate_left
      ·simp only [Act.put, lT, lZ, lS, i64_w, i32_w]
       rfl
      refine pure_ (i := 6) (N := some 19) (v := ?_) (a' := ?_) #[true, true, true, true, true, true, true, false, true, true, false, false, false] rfl rfl (any_of HT_.out (by kernel_rfl)) (fun _ _ _ h => h) (Or.inl ⟨by rfl, ?_⟩) ?_ ?_
      rotate_left
      ·intro w'
       go_simp
       with_reducible rfl
      rotate_left
      ·simp only [Act.put, lT, lZ, lS, i64_w, i32_w]
       rfl
      refine pure_ (i := 7) (N := some 20) (v := ?_) (a' := ?_) #[true, true, true, true, true, true, true, true, true, true, false, false, false] rfl rfl (any_of HT_.out (by kernel_rfl)) (fun _ _ _ h => h) (Or.inl ⟨by rfl, ?_⟩) ?_ ?_
      rotate_left
      ·intro w'
       go_simp
       with_reducible rfl
      rotate_left
      ·simp only [Act.put, lT, lZ, lS, i64_w, i32_w]
       rfl
      exact norm_ (by simp only [putAll, Act.put, lT, lZ, lS] <;> rfl) (hJ2_3_8_9 (gb202, gb203) _ ⟨hHeld, (by exact hop BK186.out), (by exact hop BK187.out), (by exact hop BK194.out), (by exact hop BK202.out), (by exact hop BK203.out), GW202.out, GE202.out, NB190_202.out, NB202_190.out, NB186_202.out, NB202_186.out, NB187_202.out, NB202_187.out, NB194_202.out, NB202_194.out, NB203_202.out, NB202_203.out, GW203.out, GE203.out, NB190_203.out, NB203_190.out, NB186_203.out, NB203_186.out, NB187_203.out, NB203_187.out, NB194_203.out, NB203_194.out, (by repeat (first | (with_reducible first | exact HI190.out | apply IsS62.alloc | apply IsS62.drewN | apply IsS62.drew | apply IsS62.set_1 | refine IsS62.far ?_ NB190_186.out _ | refine IsS62.far ?_ NB190_187.out _ | refine IsS62.far ?_ NB190_194.out _ | refine IsS62.far ?_ NB190_202.out _ | refine IsS62.far ?_ NB190_203.out _) | exact HI190.out)), (by repeat (first | (with_reducible first | exact HB.out | apply bA | apply bN | apply bD | refine bS ?_ (IsS62.ge HI190.out) | refine bS ?_ GE186.out | refine bS ?_ GE187.out | refine bS ?_ GE194.out | refine bS ?_ GE202.out | refine bS ?_ GE203.out) | exact HB.out))⟩)
    ·skip
     rintro gb203 w78 ⟨hS_, h0_, h1_, h2_, h3_, h4_, h5_, h6_, h7_, h8_, h9_, h10_, h11_, h12_, h13_, h14_, h15_⟩
     have n0_ : Aside0 (w78.heap[gb186]? = some (.cells #[.string (⟨#[]⟩ : ByteArray), .string (⟨#[]⟩ : ByteArray)] 35 (0, 0))) := ⟨h0_⟩
     have n1_ : Aside0 (w78.heap[gb187]? = some (.cells #[.string (⟨#[]⟩ : ByteArray), .string (⟨#[]⟩ : ByteArray)] 35 (0, 0))) := ⟨h1_⟩
     have n2_ : Aside0 (w78.heap[gb194]? = some (.cells #[.string t191, .string t192] 35 (0, 0))) := ⟨h2_⟩
     have n3_ : Aside0 (w78.heap[gb203]? = some (.cells #[.string (⟨#[]⟩ : ByteArray), .string (⟨#[]⟩ : ByteArray)] 35 (0, 0))) := ⟨h3_⟩
     have n4_ : Aside0 (w.heap.size ≤ gb203) := ⟨h4_⟩
     have n5_ : Aside0 (w.heap.size ≤ gb203) := ⟨h5_⟩
     have n6_ : Aside0 (g190 ≠ gb203) := ⟨h6_⟩
     have n7_ : Aside0 (gb203 ≠ g190) := ⟨h7_⟩
     have n8_ : Aside0 (gb186 ≠ gb203) := ⟨h8_⟩
     have n9_ : Aside0 (gb203 ≠ gb186) := ⟨h9_⟩
     have n10_ : Aside0 (gb187 ≠ gb203) := ⟨h10_⟩
     have n11_ : Aside0 (gb203 ≠ gb187) := ⟨h11_⟩
     have n12_ : Aside0 (gb194 ≠ gb203) := ⟨h12_⟩
     have n13_ : Aside0 (gb203 ≠ gb194) := ⟨h13_⟩
     have n14_ : Aside0 (IsS62 w w78 g190 t188 t196) := ⟨h14_⟩
     have n15_ : Aside0 (Below w.heap.size w w78) := ⟨h15_⟩
     clear BK186
     clear BK187
     clear BK194
     clear HI190
     clear HB
     clear h0_ h1_ h2_ h3_ h4_ h5_ h6_ h7_ h8_ h9_ h10_ h11_ h12_ h13_ h14_ h15_
     have BK186 := n0_
     have BK187 := n1_
     have BK194 := n2_
     have BK203 := n3_
     have GW203 := n4_
     have GE203 := n5_
     have NB190_203 := n6_
     have NB203_190 := n7_
     have NB186_203 := n8_
     have NB203_186 := n9_
     have NB187_203 := n10_
     have NB203_187 := n11_
     have NB194_203 := n12_
     have NB203_194 := n13_
     have HI190 := n14_
     have HB := n15_
     clear n0_ n1_ n2_ n3_ n4_ n5_ n6_ n7_ n8_ n9_ n10_ n11_ n12_ n13_ n14_ n15_
     have hHeld : w78.cell? ⟨gb194, 0, none⟩ = some (.string t191) ∧ w78.cell? ⟨gb194, 1, none⟩ = some (.string t192) := hS_
     refine norm_ (a' := ?_) ?_ ?_
     rotate_left
     ·simp only [putAll, Act.put, lT, lZ, lS]
      rfl
     refine one_ (i := 8) (N := some 6) #[true, true, true, true, true, true, true, true, true, true, false, false, false] rfl rfl (one_of HT_.out (by kernel_rfl)) (by decide) (fun K hK => ?_)
     refine box_step ?hg (N := 6) ?hd (cs := #[.string (⟨#[]⟩ : ByteArray), .string (⟨#[]⟩ : ByteArray)]) (t := 35) ?hr ?_; (case hd => rfl); (case hg => rfl); (case hr => first | (go_simp; done) | (go_simp; rfl))
     intro gb202 hg w79 hbox hb
     have n0_ := Aside0.mk (blk_below (hop BK186.out) hb)
     have n1_ := Aside0.mk (blk_below (hop BK187.out) hb)
     have n2_ := Aside0.mk (IsS62.below (by repeat (first | (with_reducible first | exact HI190.out | apply IsS62.alloc | apply IsS62.drewN | apply IsS62.drew | apply IsS62.set_1 | refine IsS62.far ?_ NB190_186.out _ | refine IsS62.far ?_ NB190_187.out _ | refine IsS62.far ?_ NB190_194.out _ | refine IsS62.far ?_ NB190_203.out _) | exact HI190.out)) hb)
     have n3_ := Aside0.mk (blk_below (hop BK194.out) hb)
     have n4_ := Aside0.mk (blk_below (hop BK203.out) hb)
     have n5_ := Aside0.mk (below_step (by repeat (first | (with_reducible first | exact HB.out | apply bA | apply bN | apply bD | refine bS ?_ (IsS62.ge HI190.out) | refine bS ?_ GE186.out | refine bS ?_ GE187.out | refine bS ?_ GE194.out | refine bS ?_ GE203.out) | exact HB.out)) hb)
     have n6_ := Aside0.mk (hbox)
     have n7_ := Aside0.mk ((by rw [hg]; exact (below_size (by repeat (first | (with_reducible first | exact HB.out | apply bA | apply bN | apply bD | refine bS ?_ (IsS62.ge HI190.out) | refine bS ?_ GE186.out | refine bS ?_ GE187.out | refine bS ?_ GE194.out | refine bS ?_ GE203.out) | exact HB.out))) : w.heap.size ≤ gb202))
     have n8_ := n7_
     have n9_ := Aside0.mk ((by rw [hg]; exact Nat.ne_of_lt (blk_lt (hop BK186.out)) : gb186 ≠ gb202))
     have n10_ := Aside0.mk ((by rw [hg]; exact Nat.ne_of_gt (blk_lt (hop BK186.out)) : gb202 ≠ gb186))
     have n11_ := Aside0.mk ((by rw [hg]; exact Nat.ne_of_lt (blk_lt (hop BK187.out)) : gb187 ≠ gb202))
     have n12_ := Aside0.mk ((by rw [hg]; exact Nat.ne_of_gt (blk_lt (hop BK187.out)) : gb202 ≠ gb187))
     have n13_ := Aside0.mk ((by rw [hg]; exact Nat.ne_of_lt (blk_lt (hop BK194.out)) : gb194 ≠ gb202))
     have n14_ := Aside0.mk ((by rw [hg]; exact Nat.ne_of_gt (blk_lt (hop BK194.out)) : gb202 ≠ gb194))
     have n15_ := Aside0.mk ((by rw [hg]; exact Nat.ne_of_lt (blk_lt (hop BK203.out)) : gb203 ≠ gb202))
     have n16_ := Aside0.mk ((by rw [hg]; exact Nat.ne_of_gt (blk_lt (hop BK203.out)) : gb202 ≠ gb203))
     have n17_ := Aside0.mk ((by rw [hg]; exact Nat.ne_of_lt (IsS62.lt (show IsS62 w _ g190 t188 t196 from by repeat (first | (with_reducible first | exact HI190.out | apply IsS62.alloc | apply IsS62.drewN | apply IsS62.drew | apply IsS62.set_1 | refine IsS62.far ?_ NB190_186.out _ | refine IsS62.far ?_ NB190_187.out _ | refine IsS62.far ?_ NB190_194.out _ | refine IsS62.far ?_ NB190_203.out _) | exact HI190.out))) : g190 ≠ gb202))
     have n18_ := Aside0.mk ((by rw [hg]; exact Nat.ne_of_gt (IsS62.lt (show IsS62 w _ g190 t188 t196 from by repeat (first | (with_reducible first | exact HI190.out | apply IsS62.alloc | apply IsS62.drewN | apply IsS62.drew | apply IsS62.set_1 | refine IsS62.far ?_ NB190_186.out _ | refine IsS62.far ?_ NB190_187.out _ | refine IsS62.far ?_ NB190_194.out _ | refine IsS62.far ?_ NB190_203.out _) | exact HI190.out))) : gb202 ≠ g190))
     clear BK186
     clear BK187
     clear HI190
     clear BK194
     clear BK203
     clear HB
     have BK186 := n0_
     have BK187 := n1_
     have HI190 := n2_
     have BK194 := n3_
     have BK203 := n4_
     have HB := n5_
     have BK202 := n6_
     have GW202 := n7_
     have GE202 := n8_
     have NB186_202 := n9_
     have NB202_186 := n10_
     have NB187_202 := n11_
     have NB202_187 := n12_
     have NB194_202 := n13_
     have NB202_194 := n14_
     have NB203_202 := n15_
     have NB202_203 := n16_
     have NB190_202 := n17_
     have NB202_190 := n18_
     clear n0_ n1_ n2_ n3_ n4_ n5_ n6_ n7_ n8_ n9_ n10_ n11_ n12_ n13_ n14_ n15_ n16_ n17_ n18_
     clear hb hbox hg
     refine hK.out _ _ ⟨(blk_cell BK194.out 0).trans rfl, (blk_cell BK194.out 1).trans rfl⟩ (fun hHeld => ?_)
     clear hK K
     refine norm_ (a' := ?_) ?_ ?_
     rotate_left
     ·show Act.put _ (some 6) _ = _
      simp only [Act.put, lT, lZ, lS, i64_w, i32_w]
      rfl
     exact norm_ (by simp only [putAll, Act.put, lT, lZ, lS] <;> rfl) (hJ2_3_8_9 (gb202, gb203) _ ⟨hHeld, (by exact hop BK186.out), (by exact hop BK187.out), (by exact hop BK194.out), (by exact hop BK202.out), (by exact hop BK203.out), GW202.out, GE202.out, NB190_202.out, NB202_190.out, NB186_202.out, NB202_186.out, NB187_202.out, NB202_187.out, NB194_202.out, NB202_194.out, NB203_202.out, NB202_203.out, GW203.out, GE203.out, NB190_203.out, NB203_190.out, NB186_203.out, NB203_186.out, NB187_203.out, NB203_187.out, NB194_203.out, NB203_194.out, (by repeat (first | (with_reducible first | exact HI190.out | apply IsS62.alloc | apply IsS62.drewN | apply IsS62.drew | apply IsS62.set_1 | refine IsS62.far ?_ NB190_186.out _ | refine IsS62.far ?_ NB190_187.out _ | refine IsS62.far ?_ NB190_194.out _ | refine IsS62.far ?_ NB190_203.out _ | refine IsS62.far ?_ NB190_202.out _) | exact HI190.out)), (by repeat (first | (with_reducible first | exact HB.out | apply bA | apply bN | apply bD | refine bS ?_ (IsS62.ge HI190.out) | refine bS ?_ GE186.out | refine bS ?_ GE187.out | refine bS ?_ GE194.out | refine bS ?_ GE203.out | refine bS ?_ GE202.out) | exact HB.out))⟩)
   ·skip
    rintro gb202 w78 ⟨hS_, h0_, h1_, h2_, h3_, h4_, h5_, h6_, h7_, h8_, h9_, h10_, h11_, h12_, h13_, h14_, h15_⟩
    have n0_ : Aside0 (w78.heap[gb186]? = some (.cells #[.string (⟨#[]⟩ : ByteArray), .string (⟨#[]⟩ : ByteArray)] 35 (0, 0))) := ⟨h0_⟩
    have n1_ : Aside0 (w78.heap[gb187]? = some (.cells #[.string (⟨#[]⟩ : ByteArray), .string (⟨#[]⟩ : ByteArray)] 35 (0, 0))) := ⟨h1_⟩
    have n2_ : Aside0 (w78.heap[gb194]? = some (.cells #[.string t191, .string t192] 35 (0, 0))) := ⟨h2_⟩
    have n3_ : Aside0 (w78.heap[gb202]? = some (.cells #[.string (⟨#[]⟩ : ByteArray), .string (⟨#[]⟩ : ByteArray)] 35 (0, 0))) := ⟨h3_⟩
    have n4_ : Aside0 (w.heap.size ≤ gb202) := ⟨h4_⟩
    have n5_ : Aside0 (w.heap.size ≤ gb202) := ⟨h5_⟩
    have n6_ : Aside0 (g190 ≠ gb202) := ⟨h6_⟩
    have n7_ : Aside0 (gb202 ≠ g190) := ⟨h7_⟩
    have n8_ : Aside0 (gb186 ≠ gb202) := ⟨h8_⟩
    have n9_ : Aside0 (gb202 ≠ gb186) := ⟨h9_⟩
    have n10_ : Aside0 (gb187 ≠ gb202) := ⟨h10_⟩
    have n11_ : Aside0 (gb202 ≠ gb187) := ⟨h11_⟩
    have n12_ : Aside0 (gb194 ≠ gb202) := ⟨h12_⟩
    have n13_ : Aside0 (gb202 ≠ gb194) := ⟨h13_⟩
    have n14_ : Aside0 (IsS62 w w78 g190 t188 t196) := ⟨h14_⟩
    have n15_ : Aside0 (Below w.heap.size w w78) := ⟨h15_⟩
    clear BK186
    clear BK187
    clear BK194
    clear HI190
    clear HB
    clear h0_ h1_ h2_ h3_ h4_ h5_ h6_ h7_ h8_ h9_ h10_ h11_ h12_ h13_ h14_ h15_
    have BK186 := n0_
    have BK187 := n1_
    have BK194 := n2_
    have BK202 := n3_
    have GW202 := n4_
    have GE202 := n5_
    have NB190_202 := n6_
    have NB202_190 := n7_
    have NB186_202 := n8_
    have NB202_186 := n9_
    have NB187_202 := n10_
    have NB202_187 := n11_
    have NB194_202 := n12_
    have NB202_194 := n13_
    have HI190 := n14_
    have HB := n15_
    clear n0_ n1_ n2_ n3_ n4_ n5_ n6_ n7_ n8_ n9_ n10_ n11_ n12_ n13_ n14_ n15_
    have hHeld : w78.cell? ⟨gb194, 0, none⟩ = some (.string t191) ∧ w78.cell? ⟨gb194, 1, none⟩ = some (.string t192) := hS_
    refine norm_ (a' := ?_) ?_ ?_
    rotate_left
    ·simp only [putAll, Act.put, lT, lZ, lS]
     rfl
    refine one_ (i := 9) (N := some 7) #[true, true, true, true, true, true, true, true, true, true, false, false, false] rfl rfl (one_of HT_.out (by kernel_rfl)) (by decide) (fun K hK => ?_)
    refine box_step ?hg (N := 7) ?hd (cs := #[.string (⟨#[]⟩ : ByteArray), .string (⟨#[]⟩ : ByteArray)]) (t := 35) ?hr ?_; (case hd => rfl); (case hg => rfl); (case hr => first | (go_simp; done) | (go_simp; rfl))
    intro gb203 hg w79 hbox hb
    have n0_ := Aside0.mk (blk_below (hop BK186.out) hb)
    have n1_ := Aside0.mk (blk_below (hop BK187.out) hb)
    have n2_ := Aside0.mk (IsS62.below (by repeat (first | (with_reducible first | exact HI190.out | apply IsS62.alloc | apply IsS62.drewN | apply IsS62.drew | apply IsS62.set_1 | refine IsS62.far ?_ NB190_186.out _ | refine IsS62.far ?_ NB190_187.out _ | refine IsS62.far ?_ NB190_194.out _ | refine IsS62.far ?_ NB190_202.out _) | exact HI190.out)) hb)
    have n3_ := Aside0.mk (blk_below (hop BK194.out) hb)
    have n4_ := Aside0.mk (blk_below (hop BK202.out) hb)
    have n5_ := Aside0.mk (below_step (by repeat (first | (with_reducible first | exact HB.out | apply bA | apply bN | apply bD | refine bS ?_ (IsS62.ge HI190.out) | refine bS ?_ GE186.out | refine bS ?_ GE187.out | refine bS ?_ GE194.out | refine bS ?_ GE202.out) | exact HB.out)) hb)
    have n6_ := Aside0.mk (hbox)
    have n7_ := Aside0.mk ((by rw [hg]; exact (below_size (by repeat (first | (with_reducible first | exact HB.out | apply bA | apply bN | apply bD | refine bS ?_ (IsS62.ge HI190.out) | refine bS ?_ GE186.out | refine bS ?_ GE187.out | refine bS ?_ GE194.out | refine bS ?_ GE202.out) | exact HB.out))) : w.heap.size ≤ gb203))
    have n8_ := n7_
    have n9_ := Aside0.mk ((by rw [hg]; exact Nat.ne_of_lt (blk_lt (hop BK186.out)) : gb186 ≠ gb203))
    have n10_ := Aside0.mk ((by rw [hg]; exact Nat.ne_of_gt (blk_lt (hop BK186.out)) : gb203 ≠ gb186))
    have n11_ := Aside0.mk ((by rw [hg]; exact Nat.ne_of_lt (blk_lt (hop BK187.out)) : gb187 ≠ gb203))
    have n12_ := Aside0.mk ((by rw [hg]; exact Nat.ne_of_gt (blk_lt (hop BK187.out)) : gb203 ≠ gb187))
    have n13_ := Aside0.mk ((by rw [hg]; exact Nat.ne_of_lt (blk_lt (hop BK194.out)) : gb194 ≠ gb203))
    have n14_ := Aside0.mk ((by rw [hg]; exact Nat.ne_of_gt (blk_lt (hop BK194.out)) : gb203 ≠ gb194))
    have n15_ := Aside0.mk ((by rw [hg]; exact Nat.ne_of_lt (blk_lt (hop BK202.out)) : gb202 ≠ gb203))
    have n16_ := Aside0.mk ((by rw [hg]; exact Nat.ne_of_gt (blk_lt (hop BK202.out)) : gb203 ≠ gb202))
    have n17_ := Aside0.mk ((by rw [hg]; exact Nat.ne_of_lt (IsS62.lt (show IsS62 w _ g190 t188 t196 from by repeat (first | (with_reducible first | exact HI190.out | apply IsS62.alloc | apply IsS62.drewN | apply IsS62.drew | apply IsS62.set_1 | refine IsS62.far ?_ NB190_186.out _ | refine IsS62.far ?_ NB190_187.out _ | refine IsS62.far ?_ NB190_194.out _ | refine IsS62.far ?_ NB190_202.out _) | exact HI190.out))) : g190 ≠ gb203))
    have n18_ := Aside0.mk ((by rw [hg]; exact Nat.ne_of_gt (IsS62.lt (show IsS62 w _ g190 t188 t196 from by repeat (first | (with_reducible first | exact HI190.out | apply IsS62.alloc | apply IsS62.drewN | apply IsS62.drew | apply IsS62.set_1 | refine IsS62.far ?_ NB190_186.out _ | refine IsS62.far ?_ NB190_187.out _ | refine IsS62.far ?_ NB190_194.out _ | refine IsS62.far ?_ NB190_202.out _) | exact HI190.out))) : gb203 ≠ g190))
    clear BK186
    clear BK187
    clear HI190
    clear BK194
    clear BK202
    clear HB
    have BK186 := n0_
    have BK187 := n1_
    have HI190 := n2_
    have BK194 := n3_
    have BK202 := n4_
    have HB := n5_
    have BK203 := n6_
    have GW203 := n7_
    have GE203 := n8_
    have NB186_203 := n9_
    have NB203_186 := n10_
    have NB187_203 := n11_
    have NB203_187 := n12_
    have NB194_203 := n13_
    have NB203_194 := n14_
    have NB202_203 := n15_
    have NB203_202 := n16_
    have NB190_203 := n17_
    have NB203_190 := n18_
    clear n0_ n1_ n2_ n3_ n4_ n5_ n6_ n7_ n8_ n9_ n10_ n11_ n12_ n13_ n14_ n15_ n16_ n17_ n18_
    clear hb hbox hg
    refine hK.out _ _ ⟨(blk_cell BK194.out 0).trans rfl, (blk_cell BK194.out 1).trans rfl⟩ (fun hHeld => ?_)
    clear hK K
    refine norm_ (a' := ?_) ?_ ?_
    rotate_left
    ·show Act.put _ (some 7) _ = _
     simp only [Act.put, lT, lZ, lS, i64_w, i32_w]
     rfl
    exact norm_ (by simp only [putAll, Act.put, lT, lZ, lS] <;> rfl) (hJ2_3_8_9 (gb202, gb203) _ ⟨hHeld, (by exact hop BK186.out), (by exact hop BK187.out), (by exact hop BK194.out), (by exact hop BK202.out), (by exact hop BK203.out), GW202.out, GE202.out, NB190_202.out, NB202_190.out, NB186_202.out, NB202_186.out, NB187_202.out, NB202_187.out, NB194_202.out, NB202_194.out, NB203_202.out, NB202_203.out, GW203.out, GE203.out, NB190_203.out, NB203_190.out, NB186_203.out, NB203_186.out, NB187_203.out, NB203_187.out, NB194_203.out, NB203_194.out, (by repeat (first | (with_reducible first | exact HI190.out | apply IsS62.alloc | apply IsS62.drewN | apply IsS62.drew | apply IsS62.set_1 | refine IsS62.far ?_ NB190_186.out _ | refine IsS62.far ?_ NB190_187.out _ | refine IsS62.far ?_ NB190_194.out _ | refine IsS62.far ?_ NB190_202.out _ | refine IsS62.far ?_ NB190_203.out _) | exact HI190.out)), (by repeat (first | (with_reducible first | exact HB.out | apply bA | apply bN | apply bD | refine bS ?_ (IsS62.ge HI190.out) | refine bS ?_ GE186.out | refine bS ?_ GE187.out | refine bS ?_ GE194.out | refine bS ?_ GE202.out | refine bS ?_ GE203.out) | exact HB.out))⟩)
  rintro ⟨gb202, gb203⟩ w79 ⟨hS_, h0_, h1_, h2_, h3_, h4_, h5_, h6_, h7_, h8_, h9_, h10_, h11_, h12_, h13_, h14_, h15_, h16_, h17_, h18_, h19_, h20_, h21_, h22_, h23_, h24_, h25_, h26_, h27_, h28_⟩
  have n0_ : Aside0 (w79.heap[gb186]? = some (.cells #[.string (⟨#[]⟩ : ByteArray), .string (⟨#[]⟩ : ByteArray)] 35 (0, 0))) := ⟨h0_⟩
  have n1_ : Aside0 (w79.heap[gb187]? = some (.cells #[.string (⟨#[]⟩ : ByteArray), .string (⟨#[]⟩ : ByteArray)] 35 (0, 0))) := ⟨h1_⟩
  have n2_ : Aside0 (w79.heap[gb194]? = some (.cells #[.string t191, .string t192] 35 (0, 0))) := ⟨h2_⟩
  have n3_ : Aside0 (w79.heap[gb202]? = some (.cells #[.string (⟨#[]⟩ : ByteArray), .string (⟨#[]⟩ : ByteArray)] 35 (0, 0))) := ⟨h3_⟩
  have n4_ : Aside0 (w79.heap[gb203]? = some (.cells #[.string (⟨#[]⟩ : ByteArray), .string (⟨#[]⟩ : ByteArray)] 35 (0, 0))) := ⟨h4_⟩
  have n5_ : Aside0 (w.heap.size ≤ gb202) := ⟨h5_⟩
  have n6_ : Aside0 (w.heap.size ≤ gb202) := ⟨h6_⟩
  have n7_ : Aside0 (g190 ≠ gb202) := ⟨h7_⟩
  have n8_ : Aside0 (gb202 ≠ g190) := ⟨h8_⟩
  have n9_ : Aside0 (gb186 ≠ gb202) := ⟨h9_⟩
  have n10_ : Aside0 (gb202 ≠ gb186) := ⟨h10_⟩
  have n11_ : Aside0 (gb187 ≠ gb202) := ⟨h11_⟩
  have n12_ : Aside0 (gb202 ≠ gb187) := ⟨h12_⟩
  have n13_ : Aside0 (gb194 ≠ gb202) := ⟨h13_⟩
  have n14_ : Aside0 (gb202 ≠ gb194) := ⟨h14_⟩
  have n15_ : Aside0 (gb203 ≠ gb202) := ⟨h15_⟩
  have n16_ : Aside0 (gb202 ≠ gb203) := ⟨h16_⟩
  have n17_ : Aside0 (w.heap.size ≤ gb203) := ⟨h17_⟩
  have n18_ : Aside0 (w.heap.size ≤ gb203) := ⟨h18_⟩
  have n19_ : Aside0 (g190 ≠ gb203) := ⟨h19_⟩
  have n20_ : Aside0 (gb203 ≠ g190) := ⟨h20_⟩
  have n21_ : Aside0 (gb186 ≠ gb203) := ⟨h21_⟩
  have n22_ : Aside0 (gb203 ≠ gb186) := ⟨h22_⟩
  have n23_ : Aside0 (gb187 ≠ gb203) := ⟨h23_⟩
  have n24_ : Aside0 (gb203 ≠ gb187) := ⟨h24_⟩
  have n25_ : Aside0 (gb194 ≠ gb203) := ⟨h25_⟩
  have n26_ : Aside0 (gb203 ≠ gb194) := ⟨h26_⟩
  have n27_ : Aside0 (IsS62 w w79 g190 t188 t196) := ⟨h27_⟩
  have n28_ : Aside0 (Below w.heap.size w w79) := ⟨h28_⟩
  clear BK186
  clear BK187
  clear BK194
  clear HI190
  clear HB
  clear h0_ h1_ h2_ h3_ h4_ h5_ h6_ h7_ h8_ h9_ h10_ h11_ h12_ h13_ h14_ h15_ h16_ h17_ h18_ h19_ h20_ h21_ h22_ h23_ h24_ h25_ h26_ h27_ h28_
  have BK186 := n0_
  have BK187 := n1_
  have BK194 := n2_
  have BK202 := n3_
  have BK203 := n4_
  have GW202 := n5_
  have GE202 := n6_
  have NB190_202 := n7_
  have NB202_190 := n8_
  have NB186_202 := n9_
  have NB202_186 := n10_
  have NB187_202 := n11_
  have NB202_187 := n12_
  have NB194_202 := n13_
  have NB202_194 := n14_
  have NB203_202 := n15_
  have NB202_203 := n16_
  have GW203 := n17_
  have GE203 := n18_
  have NB190_203 := n19_
  have NB203_190 := n20_
  have NB186_203 := n21_
  have NB203_186 := n22_
  have NB187_203 := n23_
  have NB203_187 := n24_
  have NB194_203 := n25_
  have NB203_194 := n26_
  have HI190 := n27_
  have HB := n28_
  clear n0_ n1_ n2_ n3_ n4_ n5_ n6_ n7_ n8_ n9_ n10_ n11_ n12_ n13_ n14_ n15_ n16_ n17_ n18_ n19_ n20_ n21_ n22_ n23_ n24_ n25_ n26_ n27_ n28_
  have hHeld : w79.cell? ⟨gb194, 0, none⟩ = some (.string t191) ∧ w79.cell? ⟨gb194, 1, none⟩ = some (.string t192) := hS_
  refine norm_ (a' := ?_) ?_ ?_
  rotate_left
  ·simp only [putAll, Act.put, lT, lZ, lS]
   rfl
  refine one_ (i := 10) (N := none) #[true, true, true, true, true, true, true, true, true, true, true, false, false] rfl rfl (one_of HT_.out (by kernel_rfl)) (by decide) (fun K hK => ?_)
  have hs80 : w79.cell? ⟨gb202, 0, none⟩ = some (.string (⟨#[]⟩ : ByteArray)) := (blk_cell BK202.out 0).trans rfl
  have hfs80 := blk_frozen BK202.out 0
  have hns80_0 := NB186_202.out
  have hns80_1 := NB187_202.out
  have hns80_2 := NB194_202.out
  have hns80_4 := NB203_202.out
  have hms80_0 := NB202_186.out
  have hms80_1 := NB202_187.out
  have hms80_2 := NB202_194.out
  have hms80_4 := NB202_203.out
  have hs81 : w79.cell? ⟨gb202, 1, none⟩ = some (.string (⟨#[]⟩ : ByteArray)) := (blk_cell BK202.out 1).trans rfl
  have hfs81 := blk_frozen BK202.out 1
  have hns81_0 := NB186_202.out
  have hns81_1 := NB187_202.out
  have hns81_2 := NB194_202.out
  have hns81_4 := NB203_202.out
  have hms81_0 := NB202_186.out
  have hms81_1 := NB202_187.out
  have hms81_2 := NB202_194.out
  have hms81_4 := NB202_203.out
  refine skip_ (w1 := ?_) (by rfl) rfl ?_ ?_
  rotate_left
  ·go_simp
   rfl
  refine hK.out _ _ ⟨((cell_far (p := ⟨gb202, _, none⟩) NB194_202.out _).trans (((cell_far (p := ⟨gb202, _, none⟩) NB194_202.out _).trans (hHeld.1)))), ((cell_far (p := ⟨gb202, _, none⟩) NB194_202.out _).trans (((cell_far (p := ⟨gb202, _, none⟩) NB194_202.out _).trans (hHeld.2))))⟩ (fun hHeld => ?_)
  clear hK K
  refine one_ (i := 11) (N := none) #[true, true, true, true, true, true, true, true, true, true, true, true, false] rfl rfl (one_of HT_.out (by kernel_rfl)) (by decide) (fun K hK => ?_)
  have hs82 : w79.cell? ⟨gb203, 0, none⟩ = some (.string (⟨#[]⟩ : ByteArray)) := (blk_cell BK203.out 0).trans rfl
  have hfs82 := blk_frozen BK203.out 0
  have hns82_0 := NB186_203.out
  have hns82_1 := NB187_203.out
  have hns82_2 := NB194_203.out
  have hns82_3 := NB202_203.out
  have hms82_0 := NB203_186.out
  have hms82_1 := NB203_187.out
  have hms82_2 := NB203_194.out
  have hms82_3 := NB203_202.out
  have hs83 : w79.cell? ⟨gb203, 1, none⟩ = some (.string (⟨#[]⟩ : ByteArray)) := (blk_cell BK203.out 1).trans rfl
  have hfs83 := blk_frozen BK203.out 1
  have hns83_0 := NB186_203.out
  have hns83_1 := NB187_203.out
  have hns83_2 := NB194_203.out
  have hns83_3 := NB202_203.out
  have hms83_0 := NB203_186.out
  have hms83_1 := NB203_187.out
  have hms83_2 := NB203_194.out
  have hms83_3 := NB203_202.out
  refine skip_ (w1 := ?_) (by rfl) rfl ?_ ?_
  rotate_left
  ·go_simp
   rfl
  refine hK.out _ _ ⟨((cell_far (p := ⟨gb203, _, none⟩) NB194_203.out _).trans (((cell_far (p := ⟨gb203, _, none⟩) NB194_203.out _).trans (hHeld.1)))), ((cell_far (p := ⟨gb203, _, none⟩) NB194_203.out _).trans (((cell_far (p := ⟨gb203, _, none⟩) NB194_203.out _).trans (hHeld.2))))⟩ (fun hHeld => ?_)
  clear hK K
  refine pure_ (i := 12) (N := some 8) (v := ?_) (a' := ?_) #[true, true, true, true, true, true, true, true, true, true, true, true, true] rfl rfl (any_of HT_.out (by kernel_rfl)) (fun _ _ _ h => h) (Or.inl ⟨by rfl, ?_⟩) ?_ ?_
  rotate_left
  ·intro w'
   go_simp
   with_reducible rfl
  rotate_left
  ·simp only [Act.put, lT, lZ, lS, i64_w, i32_w]
   rfl
  refine done_ (done_of HT_.out (by kernel_rfl)) ?_
  try go_wp2
  have n0_ : Aside0 (((((w79.setCell ⟨gb202, 0, none⟩ (.string t197)).setCell ⟨gb202, 1, none⟩ (.string t198)).setCell ⟨gb203, 0, none⟩ (.string t199)).setCell ⟨gb203, 1, none⟩ (.string t200)).heap[gb186]? = some (.cells #[.string (⟨#[]⟩ : ByteArray), .string (⟨#[]⟩ : ByteArray)] 35 (0, 0))) := ⟨by (with_reducible repeat (first | refine kN ?_ _ | refine kD ?_ | refine kA ?_ _)); refine blk_far ?_ NB186_203.out _; (with_reducible repeat (first | refine kN ?_ _ | refine kD ?_ | refine kA ?_ _)); refine blk_far ?_ NB186_203.out _; (with_reducible repeat (first | refine kN ?_ _ | refine kD ?_ | refine kA ?_ _)); refine blk_far ?_ NB186_202.out _; (with_reducible repeat (first | refine kN ?_ _ | refine kD ?_ | refine kA ?_ _)); refine blk_far ?_ NB186_202.out _; exact hop BK186.out⟩
  have n1_ : Aside0 (((((w79.setCell ⟨gb202, 0, none⟩ (.string t197)).setCell ⟨gb202, 1, none⟩ (.string t198)).setCell ⟨gb203, 0, none⟩ (.string t199)).setCell ⟨gb203, 1, none⟩ (.string t200)).heap[gb187]? = some (.cells #[.string (⟨#[]⟩ : ByteArray), .string (⟨#[]⟩ : ByteArray)] 35 (0, 0))) := ⟨by (with_reducible repeat (first | refine kN ?_ _ | refine kD ?_ | refine kA ?_ _)); refine blk_far ?_ NB187_203.out _; (with_reducible repeat (first | refine kN ?_ _ | refine kD ?_ | refine kA ?_ _)); refine blk_far ?_ NB187_203.out _; (with_reducible repeat (first | refine kN ?_ _ | refine kD ?_ | refine kA ?_ _)); refine blk_far ?_ NB187_202.out _; (with_reducible repeat (first | refine kN ?_ _ | refine kD ?_ | refine kA ?_ _)); refine blk_far ?_ NB187_202.out _; exact hop BK187.out⟩
  have n2_ : Aside0 (((((w79.setCell ⟨gb202, 0, none⟩ (.string t197)).setCell ⟨gb202, 1, none⟩ (.string t198)).setCell ⟨gb203, 0, none⟩ (.string t199)).setCell ⟨gb203, 1, none⟩ (.string t200)).heap[gb194]? = some (.cells #[.string t191, .string t192] 35 (0, 0))) := ⟨by (with_reducible repeat (first | refine kN ?_ _ | refine kD ?_ | refine kA ?_ _)); refine blk_far ?_ NB194_203.out _; (with_reducible repeat (first | refine kN ?_ _ | refine kD ?_ | refine kA ?_ _)); refine blk_far ?_ NB194_203.out _; (with_reducible repeat (first | refine kN ?_ _ | refine kD ?_ | refine kA ?_ _)); refine blk_far ?_ NB194_202.out _; (with_reducible repeat (first | refine kN ?_ _ | refine kD ?_ | refine kA ?_ _)); refine blk_far ?_ NB194_202.out _; exact hop BK194.out⟩
  have n3_ : Aside0 (((((w79.setCell ⟨gb202, 0, none⟩ (.string t197)).setCell ⟨gb202, 1, none⟩ (.string t198)).setCell ⟨gb203, 0, none⟩ (.string t199)).setCell ⟨gb203, 1, none⟩ (.string t200)).heap[gb202]? = some (.cells #[.string t197, .string t198] 35 (0, 0))) := ⟨by (with_reducible repeat (first | refine kN ?_ _ | refine kD ?_ | refine kA ?_ _)); refine blk_far ?_ NB202_203.out _; (with_reducible repeat (first | refine kN ?_ _ | refine kD ?_ | refine kA ?_ _)); refine blk_far ?_ NB202_203.out _; (with_reducible repeat (first | refine kN ?_ _ | refine kD ?_ | refine kA ?_ _)); refine blk_put (cs := #[.string t197, .string (⟨#[]⟩ : ByteArray)]) ?_ 1 _ rfl; (with_reducible repeat (first | refine kN ?_ _ | refine kD ?_ | refine kA ?_ _)); refine blk_put (cs := #[.string (⟨#[]⟩ : ByteArray), .string (⟨#[]⟩ : ByteArray)]) ?_ 0 _ rfl; exact hop BK202.out⟩
  have n4_ : Aside0 (((((w79.setCell ⟨gb202, 0, none⟩ (.string t197)).setCell ⟨gb202, 1, none⟩ (.string t198)).setCell ⟨gb203, 0, none⟩ (.string t199)).setCell ⟨gb203, 1, none⟩ (.string t200)).heap[gb203]? = some (.cells #[.string t199, .string t200] 35 (0, 0))) := ⟨by (with_reducible repeat (first | refine kN ?_ _ | refine kD ?_ | refine kA ?_ _)); refine blk_put (cs := #[.string t199, .string (⟨#[]⟩ : ByteArray)]) ?_ 1 _ rfl; (with_reducible repeat (first | refine kN ?_ _ | refine kD ?_ | refine kA ?_ _)); refine blk_put (cs := #[.string (⟨#[]⟩ : ByteArray), .string (⟨#[]⟩ : ByteArray)]) ?_ 0 _ rfl; (with_reducible repeat (first | refine kN ?_ _ | refine kD ?_ | refine kA ?_ _)); refine blk_far ?_ NB203_202.out _; (with_reducible repeat (first | refine kN ?_ _ | refine kD ?_ | refine kA ?_ _)); refine blk_far ?_ NB203_202.out _; exact hop BK203.out⟩
  have n5_ : Aside0 (IsS62 w ((((w79.setCell ⟨gb202, 0, none⟩ (.string t197)).setCell ⟨gb202, 1, none⟩ (.string t198)).setCell ⟨gb203, 0, none⟩ (.string t199)).setCell ⟨gb203, 1, none⟩ (.string t200)) g190 t188 t196) := ⟨by repeat (first | (with_reducible first | exact HI190.out | apply IsS62.alloc | apply IsS62.drewN | apply IsS62.drew | apply IsS62.set_1 | refine IsS62.far ?_ NB190_186.out _ | refine IsS62.far ?_ NB190_187.out _ | refine IsS62.far ?_ NB190_194.out _ | refine IsS62.far ?_ NB190_202.out _ | refine IsS62.far ?_ NB190_203.out _) | exact HI190.out)⟩
  have n6_ : Aside0 (Below w.heap.size w ((((w79.setCell ⟨gb202, 0, none⟩ (.string t197)).setCell ⟨gb202, 1, none⟩ (.string t198)).setCell ⟨gb203, 0, none⟩ (.string t199)).setCell ⟨gb203, 1, none⟩ (.string t200))) := ⟨by repeat (first | (with_reducible first | exact HB.out | apply bA | apply bN | apply bD | refine bS ?_ (IsS62.ge HI190.out) | refine bS ?_ GE186.out | refine bS ?_ GE187.out | refine bS ?_ GE194.out | refine bS ?_ GE202.out | refine bS ?_ GE203.out) | exact HB.out)⟩
  (try clear BK186)
  (try clear BK187)
  (try clear BK194)
  (try clear BK202)
  (try clear BK203)
  (try clear HI190)
  (try clear HB)
  generalize ((((w79.setCell ⟨gb202, 0, none⟩ (.string t197)).setCell ⟨gb202, 1, none⟩ (.string t198)).setCell ⟨gb203, 0, none⟩ (.string t199)).setCell ⟨gb203, 1, none⟩ (.string t200)) = w84 at n0_ n1_ n2_ n3_ n4_ n5_ n6_ ⊢
  have BK186 := n0_
  have BK187 := n1_
  have BK194 := n2_
  have BK202 := n3_
  have BK203 := n4_
  have HI190 := n5_
  have HB := n6_
  clear n0_ n1_ n2_ n3_ n4_ n5_ n6_
  have n0_ := Aside0.mk (blk_drew BK186.out)
  have n1_ := Aside0.mk (blk_drew BK187.out)
  have n2_ := Aside0.mk (blk_drew BK194.out)
  have n3_ := Aside0.mk (blk_drew BK202.out)
  have n4_ := Aside0.mk (blk_drew BK203.out)
  have n5_ := Aside0.mk (IsS62.drew HI190.out)
  have n6_ := Aside0.mk (below_drew1 HB.out)
  clear BK186
  clear BK187
  clear BK194
  clear BK202
  clear BK203
  clear HI190
  clear HB
  have BK186 := n0_
  have BK187 := n1_
  have BK194 := n2_
  have BK202 := n3_
  have BK203 := n4_
  have HI190 := n5_
  have HB := n6_
  clear n0_ n1_ n2_ n3_ n4_ n5_ n6_
  refine start_ (n := 5) (S := fun w' => w'.cell? ⟨gb194, 0, none⟩ = some (.string t191) ∧ w'.cell? ⟨gb194, 1, none⟩ = some (.string t192)) (ds := []) #[false, false, false, false, false] (by kernel_rfl) rfl rfl ⟨(blk_cell BK194.out 0).trans rfl, (blk_cell BK194.out 1).trans rfl⟩ (fun hHeld => ?_)
  generalize w84.drew = w85 at BK186 BK187 BK194 BK202 BK203 HI190 HB hHeld ⊢
  refine pure_ (i := 1) (N := some 29) (v := ?_) (a' := ?_) #[false, true, false, false, false] rfl rfl (by kernel_rfl) (fun _ _ _ h => h) (Or.inl ⟨by rfl, ?_⟩) ?_ ?_
  rotate_left
  ·intro w'
   go_simp
   with_reducible rfl
  rotate_left
  ·simp only [Act.put, lT, lZ, lS, i64_w, i32_w]
   rfl
  refine take_ (i := 0) (N := some 28) (v := ?_) (a' := ?_) #[true, true, false, false, false] rfl rfl (by kernel_rfl) (fun _ _ _ h => h) (Or.inl ⟨by rfl, ?_⟩) hHeld ?_ ?_
  rotate_left
  ·rintro w' ⟨s0, s1⟩
   go_simp
   with_reducible rfl
  rotate_left
  ·simp only [Act.put, lT, lZ, lS, i64_w, i32_w]
   rfl
  refine one_ (i := 2) (N := some 30) #[true, true, true, false, false] rfl rfl (by kernel_rfl) (by decide) (fun K hK => ?_)
  refine goes_ Try.func55 (by kernel_rfl) rfl #[.pointer (some ⟨g190, 0, none⟩), .int .i64 12] (by rfl) rfl rfl (by (try simp only [List.map_toArray, List.map_cons, List.map_nil]); first | done | rfl | (simp only [List.length_drop, List.length_take]; rfl)) ?_
  with_reducible refine (spec_l20Span.calls k g190 t188 t196 12 t209 t210 t211 w _ ?side1 ?side2 A63.out).mono ?_
  (case side1 => repeat (first | (with_reducible first | exact HI190.out | apply IsS62.alloc | apply IsS62.drewN | apply IsS62.drew | apply IsS62.set_1 | refine IsS62.far ?_ NB190_186.out _ | refine IsS62.far ?_ NB190_187.out _ | refine IsS62.far ?_ NB190_194.out _ | refine IsS62.far ?_ NB190_202.out _ | refine IsS62.far ?_ NB190_203.out _) | exact HI190.out))
  (case side2 => repeat (first | (with_reducible first | exact HB.out | apply bA | apply bN | apply bD | refine bS ?_ (IsS62.ge HI190.out) | refine bS ?_ GE186.out | refine bS ?_ GE187.out | refine bS ?_ GE194.out | refine bS ?_ GE202.out | refine bS ?_ GE203.out) | exact HB.out))
  rintro e w86 ⟨rfl, hi, hb, hk⟩
  refine ⟨_, rfl, ?_⟩
  have n0_ := Aside0.mk (KeepBut.blk hk (g' := gb186) (o := .cells #[.string (⟨#[]⟩ : ByteArray), .string (⟨#[]⟩ : ByteArray)] 35 (0, 0)) (by exact hop BK186.out) NB186_190.out (by simp))
  have n1_ := Aside0.mk (KeepBut.blk hk (g' := gb187) (o := .cells #[.string (⟨#[]⟩ : ByteArray), .string (⟨#[]⟩ : ByteArray)] 35 (0, 0)) (by exact hop BK187.out) NB187_190.out (by simp))
  have n2_ := Aside0.mk (KeepBut.blk hk (g' := gb194) (o := .cells #[.string t191, .string t192] 35 (0, 0)) (by exact hop BK194.out) NB194_190.out (by simp))
  have n3_ := Aside0.mk (KeepBut.blk hk (g' := gb202) (o := .cells #[.string t197, .string t198] 35 (0, 0)) (by exact hop BK202.out) NB202_190.out (by simp))
  have n4_ := Aside0.mk (KeepBut.blk hk (g' := gb203) (o := .cells #[.string t199, .string t200] 35 (0, 0)) (by exact hop BK203.out) NB203_190.out (by simp))
  have n5_ := Aside0.mk (hb)
  have n6_ := Aside0.mk (hi)
  clear BK186
  clear BK187
  clear BK194
  clear BK202
  clear BK203
  clear HB
  clear HI190
  have BK186 := n0_
  have BK187 := n1_
  have BK194 := n2_
  have BK202 := n3_
  have BK203 := n4_
  have HB := n5_
  have HI190 := n6_
  clear n0_ n1_ n2_ n3_ n4_ n5_ n6_
  (try clear hb)
  (try clear hb2)
  (try clear hk)
  (try clear hi)
  refine hK.out _ _ ⟨(blk_cell BK194.out 0).trans rfl, (blk_cell BK194.out 1).trans rfl⟩ (fun hHeld => ?_)
  clear hK K
  refine norm_ (a' := ?_) ?_ ?_
  rotate_left
  ·show Act.put _ (some 30) _ = _
   simp only [Act.put, lT, lZ, lS, i64_w, i32_w]
   rfl
  refine one_ (i := 3) (N := none) #[true, true, true, true, false] rfl rfl (by kernel_rfl) (by decide) (fun K hK => ?_)
  have hs87 : w86.cell? ⟨gb186, 0, none⟩ = some (.string (⟨#[]⟩ : ByteArray)) := (blk_cell BK186.out 0).trans rfl
  have hfs87 := blk_frozen BK186.out 0
  have hns87_1 := NB187_186.out
  have hns87_2 := NB194_186.out
  have hns87_3 := NB202_186.out
  have hns87_4 := NB203_186.out
  have hms87_1 := NB186_187.out
  have hms87_2 := NB186_194.out
  have hms87_3 := NB186_202.out
  have hms87_4 := NB186_203.out
  have hs88 : w86.cell? ⟨gb186, 1, none⟩ = some (.string (⟨#[]⟩ : ByteArray)) := (blk_cell BK186.out 1).trans rfl
  have hfs88 := blk_frozen BK186.out 1
  have hns88_1 := NB187_186.out
  have hns88_2 := NB194_186.out
  have hns88_3 := NB202_186.out
  have hns88_4 := NB203_186.out
  have hms88_1 := NB186_187.out
  have hms88_2 := NB186_194.out
  have hms88_3 := NB186_202.out
  have hms88_4 := NB186_203.out
  refine skip_ (w1 := ?_) (by rfl) rfl ?_ ?_
  rotate_left
  ·go_simp
   rfl
  refine hK.out _ _ ⟨((cell_far (p := ⟨gb186, _, none⟩) NB194_186.out _).trans (((cell_far (p := ⟨gb186, _, none⟩) NB194_186.out _).trans (hHeld.1)))), ((cell_far (p := ⟨gb186, _, none⟩) NB194_186.out _).trans (((cell_far (p := ⟨gb186, _, none⟩) NB194_186.out _).trans (hHeld.2))))⟩ (fun hHeld => ?_)
  clear hK K
  refine one_ (i := 4) (N := none) #[true, true, true, true, true] rfl rfl (by kernel_rfl) (by decide) (fun K hK => ?_)
  have hs89 : w86.cell? ⟨gb187, 0, none⟩ = some (.string (⟨#[]⟩ : ByteArray)) := (blk_cell BK187.out 0).trans rfl
  have hfs89 := blk_frozen BK187.out 0
  have hns89_0 := NB186_187.out
  have hns89_2 := NB194_187.out
  have hns89_3 := NB202_187.out
  have hns89_4 := NB203_187.out
  have hms89_0 := NB187_186.out
  have hms89_2 := NB187_194.out
  have hms89_3 := NB187_202.out
  have hms89_4 := NB187_203.out
  have hs90 : w86.cell? ⟨gb187, 1, none⟩ = some (.string (⟨#[]⟩ : ByteArray)) := (blk_cell BK187.out 1).trans rfl
  have hfs90 := blk_frozen BK187.out 1
  have hns90_0 := NB186_187.out
  have hns90_2 := NB194_187.out
  have hns90_3 := NB202_187.out
  have hns90_4 := NB203_187.out
  have hms90_0 := NB187_186.out
  have hms90_2 := NB187_194.out
  have hms90_3 := NB187_202.out
  have hms90_4 := NB187_203.out
  refine skip_ (w1 := ?_) (by rfl) rfl ?_ ?_
  rotate_left
  ·go_simp
   rfl
  refine hK.out _ _ ⟨((cell_far (p := ⟨gb187, _, none⟩) NB194_187.out _).trans (((cell_far (p := ⟨gb187, _, none⟩) NB194_187.out _).trans (hHeld.1)))), ((cell_far (p := ⟨gb187, _, none⟩) NB194_187.out _).trans (((cell_far (p := ⟨gb187, _, none⟩) NB194_187.out _).trans (hHeld.2))))⟩ (fun hHeld => ?_)
  clear hK K
  refine done_ (by kernel_rfl) ?_
  try go_wp2
  refine bodyPost_ret (results_cc rfl _ _ gb186 gb187 35 35 #[.string t191, .string t192] #[.string t209, .string t210] (0, 0) (0, 0) _ _ rfl (by (with_reducible repeat (first | refine kN ?_ _ | refine kD ?_ | refine kA ?_ _)); refine blk_far ?_ NB186_187.out _; (with_reducible repeat (first | refine kN ?_ _ | refine kD ?_ | refine kA ?_ _)); refine blk_far ?_ NB186_187.out _; (with_reducible repeat (first | refine kN ?_ _ | refine kD ?_ | refine kA ?_ _)); refine blk_put (cs := #[.string t191, .string (⟨#[]⟩ : ByteArray)]) ?_ 1 _ rfl; (with_reducible repeat (first | refine kN ?_ _ | refine kD ?_ | refine kA ?_ _)); refine blk_put (cs := #[.string (⟨#[]⟩ : ByteArray), .string (⟨#[]⟩ : ByteArray)]) ?_ 0 _ rfl; exact hop BK186.out) Try.underlying35 rfl (by kernel_rfl) rfl (by (with_reducible repeat (first | refine kN ?_ _ | refine kD ?_ | refine kA ?_ _)); refine blk_put (cs := #[.string t209, .string (⟨#[]⟩ : ByteArray)]) ?_ 1 _ rfl; (with_reducible repeat (first | refine kN ?_ _ | refine kD ?_ | refine kA ?_ _)); refine blk_put (cs := #[.string (⟨#[]⟩ : ByteArray), .string (⟨#[]⟩ : ByteArray)]) ?_ 0 _ rfl; (with_reducible repeat (first | refine kN ?_ _ | refine kD ?_ | refine kA ?_ _)); refine blk_far ?_ NB187_186.out _; (with_reducible repeat (first | refine kN ?_ _ | refine kD ?_ | refine kA ?_ _)); refine blk_far ?_ NB187_186.out _; exact hop BK187.out) Try.underlying35 rfl (by kernel_rfl)) rfl ?_
  exact ⟨by first | rfl | (simp only [u8_w_, w64_u8_] <;> rfl) | (simp [errW_none, errW_some] <;> rfl) | (simp [*, errW_none, errW_some] <;> rfl), by repeat (first | (with_reducible first | exact HB.out | apply bA | apply bN | apply bD | refine bS ?_ (IsS62.ge HI190.out) | refine bS ?_ GE186.out | refine bS ?_ GE187.out | refine bS ?_ GE194.out | refine bS ?_ GE202.out | refine bS ?_ GE203.out) | exact HB.out)⟩

end Go.Proofs.Ytgpffbijmohfjaa.PFnIntervalJoin
