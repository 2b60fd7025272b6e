-- Written for this claim by a program of this session (wip/myprint in the proofs' repo)
import Derived.Test.YtebgpbcbbjpbfaaPFnPageFindx0
import Derived.Test.YtebgpbcbbjpbfaaPFnPageFindx2
import Derived.Test.YtebgpbcbbjpbfaaPFnPageFindx6
import Derived.Test.YtebgpbcbbjpbfaaPFnPageFindx8
import Derived.Test.YtebgpbcbbjpbfaaPFnPageFindx11
import Derived.Test.YtebgpbcbbjpbfaaPFnPageFindx12
import Derived.Test.YtebgpbcbbjpbfaaWZip
-- slim3
namespace Go.Proofs.Ytebgpbcbbjpbfaa.PFnPageFind
open Go.RowKit Go.Proofs.YtebgpbcbbjpbfaaW.PrintWords Go.Proofs.YtebgpbcbbjpbfaaW.PrintLast Go.Proofs.YtebgpbcbbjpbfaaW.PrintMore
attribute [local go_sem] max2_int min2_int max_two min_two max_three min_three max_four min_four max2_strs min2_strs   -- for this text's walks alone
set_option linter.unusedVariables false
set_option linter.unusedSimpArgs false
set_option maxHeartbeats 8000000
set_option maxRecDepth 100000

/-! ### spec_l20Pages: function 91 -/
def spec_l20Pages.l0 : Nat → Int → List (S64) → Int → List Int → Int → Option ((List (S64)) × Int)
 | 0, _, _, _, _, _ => none
 | k + 1, x1, x5, x6, x1000, x1001 => if x6 > 0 then ((spec_PagesList.f k x5).bind fun t576 => ((spec_l20Near.f k x1000 x1001 t576 0).bind fun bt579 => ((spec_l20Value.f k x1000 bt579.2 0).bind fun bt581 => ((spec_PagesPut.f k x5 bt579.1 bt581.1).bind fun bt583 => ((spec_l20Rd_pick.f k x1000 bt581.2 3).bind fun bt587 => (if bt587.1 = 0 then ((spec_l20Near.f k x1000 bt587.2 t576 0).bind fun bt589 => ((spec_PagesDrop.f k x5 bt589.1).bind fun bt591 => (spec_l20Pages.l0 k x1 bt591.1 (wrap64 (x6 - 1)) x1000 bt589.2))) else (spec_l20Pages.l0 k x1 bt583.1 (wrap64 (x6 - 1)) x1000 bt587.2))))))) else ((spec_l20Rd_odd.f k x1000 x1001 x1).bind fun bt595 => (if bt595.1 = true then ((spec_l20Rd_pick.f k x1000 bt595.2 3).bind fun bt597 => (if bt597.1 = 0 then (if x5.length < 5864062014805 then (some ((x5 ++ [(⟨([] : List (S71))⟩ : S64)]), bt597.2)) else (none)) else (if bt597.1 = 1 then ((some (([(⟨(([(⟨(⟨#[122, 122, 122, 122]⟩ : ByteArray), 0⟩ : S71)] : List (S71)))⟩ : S64), (⟨(([(⟨(⟨#[122, 122, 122, 122]⟩ : ByteArray), 0⟩ : S71), (⟨(⟨#[122, 122, 122, 122]⟩ : ByteArray), 0⟩ : S71)] : List (S71)))⟩ : S64)] : List (S64)) : List (S64))).bind fun y608 => (if x5.length + y608.length < 5864062014805 then (some ((x5 ++ y608), bt597.2)) else (none))) else (if x5.length < 5864062014805 then (some ((x5 ++ [(⟨(([(⟨(⟨#[118]⟩ : ByteArray), 0⟩ : S71), (⟨(⟨#[119]⟩ : ByteArray), 0⟩ : S71), (⟨(⟨#[120]⟩ : ByteArray), 0⟩ : S71), (⟨(⟨#[121]⟩ : ByteArray), 0⟩ : S71), (⟨(⟨#[122, 122]⟩ : ByteArray), 0⟩ : S71)] : List (S71)))⟩ : S64)]), bt597.2)) else (none))))) else (some (x5, bt595.2))))
def spec_l20Pages.f (k : Nat) (s0_0 : List Int) (s0_1 : Int) (a1 : Int) : Option ((List (S64)) × Int) := (spec_l20Pairs.f k s0_0 s0_1 0).bind fun bt567 => ((spec_PagesOf.f k bt567.1).bind fun t571 => ((spec_l20Rd_pick.f k s0_0 bt567.2 8).bind fun bt574 => (spec_l20Pages.l0 k a1 t571 bt574.1 s0_0 bt574.2)))
theorem spec_l20Pages.mono_l : ∀ k, (∀ y0 y1 y2 y3 y4, LeO (spec_l20Pages.l0 k y0 y1 y2 y3 y4) (spec_l20Pages.l0 (k + 1) y0 y1 y2 y3 y4))
 | 0 => fun _ _ _ _ _ r h => by simp [spec_l20Pages.l0] at h
 | k + 1 => by
  have ih0 := spec_l20Pages.mono_l k
  ·intro y0 y1 y2 y3 y4
   unfold spec_l20Pages.l0
   repeat' first
   | (with_reducible exact ih0 _ _ _ _ _)
   | (with_reducible exact spec_PagesDrop.mono _ _ _)
   | (with_reducible exact spec_PagesList.mono _ _)
   | (with_reducible exact spec_PagesOf.mono _ _)
   | (with_reducible exact spec_PagesPut.mono _ _ _ _)
   | (with_reducible exact spec_l20Near.mono _ _ _ _ _)
   | (with_reducible exact spec_l20Pairs.mono _ _ _ _)
   | (with_reducible exact spec_l20Rd_odd.mono _ _ _ _)
   | (with_reducible exact spec_l20Rd_pick.mono _ _ _ _)
   | (with_reducible exact spec_l20Value.mono _ _ _ _)
   | (with_reducible exact LeO.refl _)
   | (with_reducible exact LeO.none _)
   | (with_reducible refine LeO.ite ?_ ?_)
   | (with_reducible refine LeO.bind ?_ (fun _ => ?_))
   | exact ih0 _ _ _ _ _
   | exact LeO.none _
   | refine LeO.ite ?_ ?_
   | refine LeO.bind ?_ (fun _ => ?_)
theorem spec_l20Pages.mono : ∀ a0 a1 a2 k, LeO (spec_l20Pages.f k a0 a1 a2) (spec_l20Pages.f (k + 1) a0 a1 a2) := by
 intro a0 a1 a2 k
 have ih0 := spec_l20Pages.mono_l k
 unfold spec_l20Pages.f
 repeat' first
   | (with_reducible exact ih0 _ _ _ _ _)
   | (with_reducible exact spec_PagesDrop.mono _ _ _)
   | (with_reducible exact spec_PagesList.mono _ _)
   | (with_reducible exact spec_PagesOf.mono _ _)
   | (with_reducible exact spec_PagesPut.mono _ _ _ _)
   | (with_reducible exact spec_l20Near.mono _ _ _ _ _)
   | (with_reducible exact spec_l20Pairs.mono _ _ _ _)
   | (with_reducible exact spec_l20Rd_odd.mono _ _ _ _)
   | (with_reducible exact spec_l20Rd_pick.mono _ _ _ _)
   | (with_reducible exact spec_l20Value.mono _ _ _ _)
   | (with_reducible exact LeO.refl _)
   | (with_reducible exact LeO.none _)
   | (with_reducible refine LeO.ite ?_ ?_)
   | (with_reducible refine LeO.bind ?_ (fun _ => ?_))
   | exact ih0 _ _ _ _ _
   | exact LeO.none _
   | refine LeO.ite ?_ ?_
   | refine LeO.bind ?_ (fun _ => ?_)
theorem spec_l20Pages.calls (k : Nat) (g : Nat) (s0_0 : List Int) (s0_1 : Int) (a1 : Int) (r1 : List (S64)) (r2 : Int) (w0 w : World) (hI : IsS116 w0 w g s0_0 s0_1) (hB : Below w0.heap.size w0 w) (h : spec_l20Pages.f k s0_0 s0_1 a1 = some (r1, r2)) :
  Calls Try.prog 91 #[.pointer (some ⟨g, 0, none⟩), .int .i64 a1] w fun e w' => ∃ v0_ : Value, e = .returned (v0_) ∧ Kd.N k64 64 w' w.heap.size (fun k_ => (w.heap.size ≤ k_)) v0_ r1 ∧ IsS116 w0 w' g s0_0 r2 ∧ Below w0.heap.size w0 w' ∧ KeepBut w w' g none := by
 have hu64 := Try.underlying64
 have hu71 := Try.underlying71
 have HI0 := ak hI
 have HK := ak (KeepBut.refl w g none)
 have HL := ak hB.size
 clear hI
 have HW0 := ak hB.size
 have HB := ak hB
 clear hB
 have H : ((spec_l20Pairs.f k s0_0 s0_1 0).bind fun bt567 => ((spec_PagesOf.f k bt567.1).bind fun t571 => ((spec_l20Rd_pick.f k s0_0 bt567.2 8).bind fun bt574 => (spec_l20Pages.l0 k a1 t571 bt574.1 s0_0 bt574.2)))) = some (r1, r2) := h
 clear h
 replace H := Option.bind_eq_some_iff.mp H
 obtain ⟨⟨t567, t570⟩, A30, H⟩ := H
 try dsimp only at H
 have A3 := ak A30
 clear A30
 replace H := Option.bind_eq_some_iff.mp H
 obtain ⟨t571, A40, H⟩ := H
 try dsimp only at H
 have A4 := ak A40
 clear A40
 replace H := Option.bind_eq_some_iff.mp H
 obtain ⟨⟨t574, t575⟩, A50, H⟩ := H
 try dsimp only at H
 have A5 := ak A50
 clear A50
 have H' := ak H
 clear H
 go_enter Try.func91, Try.ntmps91
 go_wp2_with (first | ((with_reducible refine gate_callee (f := 66) rfl ?_); refine goesL_ (some 11) rfl rfl Try.func66 (by kernel_rfl) rfl #[.pointer (some ⟨g, 0, none⟩), .int .i64 0] rfl (by (try simp only [List.map_toArray, List.map_cons, List.map_nil]); first | done | rfl | (simp only [List.length_drop, List.length_take]; rfl)) ?_; (with_reducible refine (spec_l20Pairs.calls k g s0_0 s0_1 0 t567 t570 w0 _ ?side1 ?side2 A3.out).mono ?_); (case side1 => repeat (first | exact HI0.out | apply IsS116.alloc | apply IsS116.drewN | apply IsS116.drew | apply IsS116.set_1)); (case side2 => repeat (first | exact HB.out | apply bA | apply bN | apply bD | refine bS ?_ (IsS116.ge HI0.out))); rintro e w6 ⟨v568, rfl, ho0, hi, hb, hk⟩; refine ⟨_, rfl, ?_⟩; have HO569 := ak (Kd.R_lower (Kd.R_newM (M := fun k_ => (w.heap.size ≤ k_)) ho0 (keep_size (w := w) (g := g) (row := none) (by repeat (first | exact HK.out | apply KeepBut.set_ | apply keep_drewN | apply keep_drew | apply keep_alloc))) (fun k_ h_ => h_)) (keep_size (w := w) (g := g) (row := none) (by repeat (first | exact HK.out | apply KeepBut.set_ | apply keep_drewN | apply keep_drew | apply keep_alloc)))); replace HK := ak (KeepBut.trans (by repeat (first | exact HK.out | apply KeepBut.set_ | apply keep_drewN | apply keep_drew | apply keep_alloc)) hk (.inl rfl)); replace HB := ak (hb); replace HI0 := ak (hi); (try clear hb); (try clear ho0); obtain ⟨Ao7, co7, eo7⟩ := Kd.R_slice HO569.out; subst eo7) | ((with_reducible refine gate_callee (f := 25) rfl ?_); refine goesL_ (some 12) rfl rfl Try.func25 (by kernel_rfl) rfl #[.slice Ao7 t567.length co7] rfl (by (try simp only [List.map_toArray, List.map_cons, List.map_nil]); first | done | rfl | (simp only [List.length_drop, List.length_take]; rfl)) ?_; (with_reducible refine (spec_PagesOf.calls k _ _ t567 t571 _ ?side1 ?side2 A4.out).mono ?_); (case side1 => repeat (first | exact (Kd.R_reads' HO569.out).2.2 | (with_reducible refine Kd.C_alloc ?_ _) | (with_reducible refine Kd.C_drewN ?_ _) | (with_reducible refine Kd.C_drew ?_))); (case side2 => exact (Kd.R_reads' HO569.out).2.1); rintro e w8 ⟨v572, rfl, ho0, hb⟩; refine ⟨_, rfl, ?_⟩; have HO573 := ak (Kd.N_lower (Kd.N_mono (ok' := fun k_ => (w.heap.size ≤ k_) ∧ some k_ ≠ (.slice Ao7 t567.length co7 : Value).ownBlock ∧ k_ ≠ g) (Kd.S_N (Kd.S_bound ho0)) (fun k_ hk_ => ⟨(Nat.le_trans (keep_size (w := w) (g := g) (row := none) (by repeat (first | exact HK.out | apply KeepBut.set_ | apply keep_drewN | apply keep_drew | apply keep_alloc))) hk_.2.1), (Kd.fresh' (Kd.R_lt (by (with_reducible repeat (first | apply Kd.R_alloc | apply Kd.R_drewN | apply Kd.R_drew)); exact HO569.out)) k_ hk_.2.1), (IsS116.fresh (by repeat (first | exact HI0.out | apply IsS116.alloc | apply IsS116.drewN | apply IsS116.drew | apply IsS116.set_1)) k_ hk_.2.1)⟩)) (keep_size (w := w) (g := g) (row := none) (by repeat (first | exact HK.out | apply KeepBut.set_ | apply keep_drewN | apply keep_drew | apply keep_alloc)))); replace HO569 := ak (Kd.R_below (by (with_reducible repeat (first | apply Kd.R_alloc | apply Kd.R_drewN | apply Kd.R_drew)); exact HO569.out) hb); replace HK := ak (KeepBut.trans (by repeat (first | exact HK.out | apply KeepBut.set_ | apply keep_drewN | apply keep_drew | apply keep_alloc)) (KeepBut.of_below hb g none) (.inl rfl)); replace HB := ak (below_step (by repeat (first | exact HB.out | apply bA | apply bN | apply bD | refine bS ?_ (IsS116.ge HI0.out))) hb); replace HI0 := ak (IsS116.below (by repeat (first | exact HI0.out | apply IsS116.alloc | apply IsS116.drewN | apply IsS116.drew | apply IsS116.set_1)) hb); (try clear hb); (try clear ho0)) | ((with_reducible refine gate_callee (f := 102) rfl ?_); refine goesL_ (some 14) rfl rfl Try.func102 (by kernel_rfl) rfl #[.pointer (some ⟨g, 0, none⟩), .int .i64 8] rfl (by (try simp only [List.map_toArray, List.map_cons, List.map_nil]); first | done | rfl | (simp only [List.length_drop, List.length_take]; rfl)) ?_; (with_reducible refine (spec_l20Rd_pick.calls k g s0_0 t570 8 t574 t575 w0 _ ?side1 ?side2 A5.out).mono ?_); (case side1 => repeat (first | exact HI0.out | apply IsS116.alloc | apply IsS116.drewN | apply IsS116.drew | apply IsS116.set_1)); (case side2 => repeat (first | exact HB.out | apply bA | apply bN | apply bD | refine bS ?_ (IsS116.ge HI0.out))); rintro e w9 ⟨rfl, hi, hb, hk⟩; refine ⟨_, rfl, ?_⟩; replace HO569 := ak (Kd.R_mono (Kd.R_keep (IsS116.apart (show IsS116 w0 _ g s0_0 t570 from by repeat (first | exact HI0.out | apply IsS116.alloc | apply IsS116.drewN | apply IsS116.drew | apply IsS116.set_1)) (by (with_reducible repeat (first | apply Kd.R_alloc | apply Kd.R_drewN | apply Kd.R_drew)); exact HO569.out) (by decide)) hk (fun _ h => h.2)) (fun _ h => h.1)); replace HO573 := ak (Kd.N_mono (Kd.N_keep (Kd.N_mono (ok := fun k_ => (((w.heap.size ≤ k_)) ∧ (some k_ ≠ (.slice Ao7 t567.length co7 : Value).ownBlock ∧ k_ ≠ g))) (by (with_reducible repeat (first | apply Kd.N_alloc | apply Kd.N_drewN | apply Kd.N_drew)); exact HO573.out) (fun k_ hk_ => (⟨hk_, hk_.2.2⟩ : _ ∧ k_ ≠ g))) hk (fun _ h => h.2)) (fun _ h => h.1)); replace HK := ak (KeepBut.trans (by repeat (first | exact HK.out | apply KeepBut.set_ | apply keep_drewN | apply keep_drew | apply keep_alloc)) hk (.inl rfl)); replace HB := ak (hb); replace HI0 := ak (hi); (try clear hb)))
 go_loopg [5, 6] k (fun kq v5 v6 w' => ∃ (x5_1 : List (S64)) (x6_1 : Int) (x1001_1 : Int), v6 = .int .i64 x6_1 ∧ Aside0 (spec_l20Pages.l0 kq a1 x5_1 x6_1 s0_0 x1001_1 = some (r1, r2)) ∧ Aside0 (kq ≤ k) ∧ Aside0 (Kd.N k64 64 w' w.heap.size (fun k_ => (w.heap.size ≤ k_) ∧ k_ ≠ g) v5 x5_1) ∧ Aside0 (IsS116 w0 w' g s0_0 x1001_1) ∧ Aside0 (KeepBut w w' g none) ∧ Aside0 (Below w0.heap.size w0 w'))
 case atStart => exact ⟨(t571), (t574), (t575), (by first | rfl | (simp; done) | (simp [bne]; done) | (simp [*]; done)), H', ⟨Nat.le_refl _⟩, ⟨by (with_reducible repeat (first | apply Kd.N_alloc | apply Kd.N_drewN | apply Kd.N_drew)); exact Kd.N_mono HO573.out (fun _ hk => ⟨hk.1, hk.2.2⟩)⟩, ⟨by repeat (first | exact HI0.out | apply IsS116.alloc | apply IsS116.drewN | apply IsS116.drew | apply IsS116.set_1)⟩, ⟨by repeat (first | exact HK.out | apply KeepBut.set_ | apply keep_drewN | apply keep_drew | apply keep_alloc)⟩, ⟨by repeat (first | exact HB.out | apply bA | apply bN | apply bD | refine bS ?_ (IsS116.ge HI0.out))⟩⟩
 case round =>
  clear H'
  try clear c1
  try clear c2
  try clear p2
  try clear c6
  try clear c9
  obtain ⟨x5_1, x6_1, x1001_1, rfl, HA, HK1, HO_5, HI0, HK, HB⟩ := hrel
  cases gk with
  | zero => exact absurd HA.out (by simp [spec_l20Pages.l0])
  | succ k1 =>
   have H := HA.out
   clear HA
   simp only [spec_l20Pages.l0] at H
   by_cases c10 : x6_1 > 0
   ·rw [if_pos c10] at H
    have c10b0 : decide (0 < x6_1) = true := decide_eq_true c10
    clear c10
    replace H := Option.bind_eq_some_iff.mp H
    obtain ⟨t576, A110, H⟩ := H
    try dsimp only at H
    have A11 := ak A110
    clear A110
    replace H := Option.bind_eq_some_iff.mp H
    obtain ⟨⟨t579, t580⟩, A120, H⟩ := H
    try dsimp only at H
    have A12 := ak A120
    clear A120
    replace H := Option.bind_eq_some_iff.mp H
    obtain ⟨⟨t581, t582⟩, A130, H⟩ := H
    try dsimp only at H
    have A13 := ak A130
    clear A130
    replace H := Option.bind_eq_some_iff.mp H
    obtain ⟨⟨t583, t586⟩, A140, H⟩ := H
    try dsimp only at H
    have A14 := ak A140
    clear A140
    replace H := Option.bind_eq_some_iff.mp H
    obtain ⟨⟨t587, t588⟩, A150, H⟩ := H
    try dsimp only at H
    have A15 := ak A150
    clear A150
    by_cases c16 : t587 = 0
    ·rw [if_pos c16] at H
     have c16b0 : (t587 == 0) = true := beq_iff_eq.mpr c16
     have c16b1 : (t587 != 0) = false := bne_eq_false_iff_eq.mpr c16
     clear c16
     replace H := Option.bind_eq_some_iff.mp H
     obtain ⟨⟨t589, t590⟩, A170, H⟩ := H
     try dsimp only at H
     have A17 := ak A170
     clear A170
     replace H := Option.bind_eq_some_iff.mp H
     obtain ⟨⟨t591, t594⟩, A180, H⟩ := H
     try dsimp only at H
     have A18 := ak A180
     clear A180
     have H' := ak H
     clear H
     obtain ⟨Ao19, co19, eo19⟩ := Kd.N_slice HO_5.out
     subst eo19
     go_wp2_with (first | ((with_reducible refine gate_callee (f := 43) rfl ?_); refine goesL_ (some 20) rfl rfl Try.func43 (by kernel_rfl) rfl #[.slice Ao19 x5_1.length co19] rfl (by (try simp only [List.map_toArray, List.map_cons, List.map_nil]); first | done | rfl | (simp only [List.length_drop, List.length_take]; rfl)) ?_; (with_reducible refine (spec_PagesList.calls k1 _ _ x5_1 t576 _ ?side1 ?side2 A11.out).mono ?_); (case side1 => repeat (first | exact (Kd.N_reads' HO_5.out).2.2 | (with_reducible refine Kd.C_alloc ?_ _) | (with_reducible refine Kd.C_drewN ?_ _) | (with_reducible refine Kd.C_drew ?_))); (case side2 => exact (Kd.N_reads' HO_5.out).2.1); rintro e w20 ⟨v577, rfl, ho0, hb⟩; refine ⟨_, rfl, ?_⟩; replace HO_5 := ak (Kd.N_elder' (by (with_reducible repeat (first | apply Kd.N_alloc | apply Kd.N_drewN | apply Kd.N_drew)); exact HO_5.out) (Kd.R_base ho0) hb); have HO578 := ak (Kd.R_lower (Kd.R_newM (M := fun k_ => (w.heap.size ≤ k_)) ho0 (keep_size (w := w) (g := g) (row := none) (by repeat (first | exact HK.out | apply KeepBut.set_ | apply keep_drewN | apply keep_drew | apply keep_alloc))) (fun k_ h_ => h_)) (keep_size (w := w) (g := g) (row := none) (by repeat (first | exact HK.out | apply KeepBut.set_ | apply keep_drewN | apply keep_drew | apply keep_alloc)))); replace HK := ak (KeepBut.trans (by repeat (first | exact HK.out | apply KeepBut.set_ | apply keep_drewN | apply keep_drew | apply keep_alloc)) (KeepBut.of_below hb g none) (.inl rfl)); replace HB := ak (below_step (by repeat (first | exact HB.out | apply bA | apply bN | apply bD | refine bS ?_ (IsS116.ge HI0.out))) hb); replace HI0 := ak (IsS116.below (by repeat (first | exact HI0.out | apply IsS116.alloc | apply IsS116.drewN | apply IsS116.drew | apply IsS116.set_1)) hb); (try clear hb); (try clear ho0); obtain ⟨Ao21, co21, eo21⟩ := Kd.R_slice HO578.out; subst eo21) | ((with_reducible refine gate_callee (f := 92) rfl ?_); refine goesL_ (some 25) rfl rfl Try.func92 (by kernel_rfl) rfl #[.pointer (some ⟨g, 0, none⟩), .slice Ao21 t576.length co21, .int .i64 0] rfl (by (try simp only [List.map_toArray, List.map_cons, List.map_nil]); first | done | rfl | (simp only [List.length_drop, List.length_take]; rfl)) ?_; (with_reducible refine (spec_l20Near.calls k1 g s0_0 x1001_1 _ _ t576 0 t579 t580 w0 _ ?side1 ?side2 ?side3 ?side4 A12.out).mono ?_); (case side1 => repeat (first | exact HI0.out | apply IsS116.alloc | apply IsS116.drewN | apply IsS116.drew | apply IsS116.set_1)); (case side2 => repeat (first | exact HB.out | apply bA | apply bN | apply bD | refine bS ?_ (IsS116.ge HI0.out))); (case side3 => exact Kd.C_foot_own (IsS116.apart (show IsS116 w0 _ g s0_0 x1001_1 from by repeat (first | exact HI0.out | apply IsS116.alloc | apply IsS116.drewN | apply IsS116.drew | apply IsS116.set_1)) (by (with_reducible repeat (first | apply Kd.R_alloc | apply Kd.R_drewN | apply Kd.R_drew)); exact HO578.out) (by decide)) (fun _ h_ => h_.2)); (case side4 => exact (Kd.R_reads' HO578.out).2.1); rintro e w22 ⟨rfl, hi, hb, hk⟩; refine ⟨_, rfl, ?_⟩; replace HO_5 := ak (Kd.N_mono (Kd.N_keep (Kd.N_mono (ok := fun k_ => ((((w.heap.size ≤ k_)) ∧ k_ ≠ g) ∧ some k_ ≠ (.slice Ao21 t576.length co21 : Value).ownBlock)) (by (with_reducible repeat (first | apply Kd.N_alloc | apply Kd.N_drewN | apply Kd.N_drew)); exact HO_5.out) (fun k_ hk_ => (⟨hk_, hk_.1.2⟩ : _ ∧ k_ ≠ g))) hk (fun _ h => h.2)) (fun _ h => h.1)); replace HO578 := ak (Kd.R_mono (Kd.R_keep (IsS116.apart (show IsS116 w0 _ g s0_0 x1001_1 from by repeat (first | exact HI0.out | apply IsS116.alloc | apply IsS116.drewN | apply IsS116.drew | apply IsS116.set_1)) (by (with_reducible repeat (first | apply Kd.R_alloc | apply Kd.R_drewN | apply Kd.R_drew)); exact HO578.out) (by decide)) hk (fun _ h => h.2)) (fun _ h => h.1)); replace HK := ak (KeepBut.trans (by repeat (first | exact HK.out | apply KeepBut.set_ | apply keep_drewN | apply keep_drew | apply keep_alloc)) hk (.inl rfl)); replace HB := ak (hb); replace HI0 := ak (hi); (try clear hb)) | ((with_reducible refine gate_callee (f := 94) rfl ?_); refine goesL_ (some 27) rfl rfl Try.func94 (by kernel_rfl) rfl #[.pointer (some ⟨g, 0, none⟩), .int .i64 0] rfl (by (try simp only [List.map_toArray, List.map_cons, List.map_nil]); first | done | rfl | (simp only [List.length_drop, List.length_take]; rfl)) ?_; (with_reducible refine (spec_l20Value.calls k1 g s0_0 t580 0 t581 t582 w0 _ ?side1 ?side2 A13.out).mono ?_); (case side1 => repeat (first | exact HI0.out | apply IsS116.alloc | apply IsS116.drewN | apply IsS116.drew | apply IsS116.set_1)); (case side2 => repeat (first | exact HB.out | apply bA | apply bN | apply bD | refine bS ?_ (IsS116.ge HI0.out))); rintro e w23 ⟨rfl, hi, hb, hk⟩; refine ⟨_, rfl, ?_⟩; replace HO_5 := ak (Kd.N_mono (Kd.N_keep (Kd.N_mono (ok := fun k_ => ((((w.heap.size ≤ k_)) ∧ k_ ≠ g) ∧ some k_ ≠ (.slice Ao21 t576.length co21 : Value).ownBlock)) (by (with_reducible repeat (first | apply Kd.N_alloc | apply Kd.N_drewN | apply Kd.N_drew)); exact HO_5.out) (fun k_ hk_ => (⟨hk_, hk_.1.2⟩ : _ ∧ k_ ≠ g))) hk (fun _ h => h.2)) (fun _ h => h.1)); replace HO578 := ak (Kd.R_mono (Kd.R_keep (IsS116.apart (show IsS116 w0 _ g s0_0 t580 from by repeat (first | exact HI0.out | apply IsS116.alloc | apply IsS116.drewN | apply IsS116.drew | apply IsS116.set_1)) (by (with_reducible repeat (first | apply Kd.R_alloc | apply Kd.R_drewN | apply Kd.R_drew)); exact HO578.out) (by decide)) hk (fun _ h => h.2)) (fun _ h => h.1)); replace HK := ak (KeepBut.trans (by repeat (first | exact HK.out | apply KeepBut.set_ | apply keep_drewN | apply keep_drew | apply keep_alloc)) hk (.inl rfl)); replace HB := ak (hb); replace HI0 := ak (hi); (try clear hb)) | ((with_reducible refine gate_callee (f := 45) rfl ?_); refine goesL_ (some 28) rfl rfl Try.func45 (by kernel_rfl) rfl #[.slice Ao19 x5_1.length co19, .string t579, .int .i64 t581] rfl (by (try simp only [List.map_toArray, List.map_cons, List.map_nil]); first | done | rfl | (simp only [List.length_drop, List.length_take]; rfl)) ?_; (with_reducible refine (spec_PagesPut.calls k1 _ _ x5_1 t579 t581 t583 t586 _ ?side1 ?side2 A14.out).mono ?_); (case side1 => repeat (first | exact (Kd.N_reads' HO_5.out).2.2 | (with_reducible refine Kd.C_alloc ?_ _) | (with_reducible refine Kd.C_drewN ?_ _) | (with_reducible refine Kd.C_drew ?_))); (case side2 => exact (Kd.N_reads' HO_5.out).2.1); rintro e w24 ⟨v584, rfl, ho0, hb⟩; refine ⟨_, rfl, ?_⟩; have HO585 := ak (Kd.N_lower (Kd.N_mono (ok' := fun k_ => (w.heap.size ≤ k_) ∧ some k_ ≠ (.slice Ao19 x5_1.length co19 : Value).ownBlock ∧ some k_ ≠ (.slice Ao21 t576.length co21 : Value).ownBlock ∧ k_ ≠ g) ho0 (fun k_ hk_ => ⟨(Nat.le_trans (keep_size (w := w) (g := g) (row := none) (by repeat (first | exact HK.out | apply KeepBut.set_ | apply keep_drewN | apply keep_drew | apply keep_alloc))) hk_), (Kd.fresh' (Kd.N_lt (by (with_reducible repeat (first | apply Kd.N_alloc | apply Kd.N_drewN | apply Kd.N_drew)); exact HO_5.out)) k_ hk_), (Kd.fresh' (Kd.R_lt (by (with_reducible repeat (first | apply Kd.R_alloc | apply Kd.R_drewN | apply Kd.R_drew)); exact HO578.out)) k_ hk_), (IsS116.fresh (by repeat (first | exact HI0.out | apply IsS116.alloc | apply IsS116.drewN | apply IsS116.drew | apply IsS116.set_1)) k_ hk_)⟩)) (keep_size (w := w) (g := g) (row := none) (by repeat (first | exact HK.out | apply KeepBut.set_ | apply keep_drewN | apply keep_drew | apply keep_alloc)))); replace HO_5 := ak (Kd.N_elder' (by (with_reducible repeat (first | apply Kd.N_alloc | apply Kd.N_drewN | apply Kd.N_drew)); exact HO_5.out) (Kd.N_base ho0) hb); replace HO578 := ak (Kd.R_below (by (with_reducible repeat (first | apply Kd.R_alloc | apply Kd.R_drewN | apply Kd.R_drew)); exact HO578.out) hb); replace HK := ak (KeepBut.trans (by repeat (first | exact HK.out | apply KeepBut.set_ | apply keep_drewN | apply keep_drew | apply keep_alloc)) (KeepBut.of_below hb g none) (.inl rfl)); replace HB := ak (below_step (by repeat (first | exact HB.out | apply bA | apply bN | apply bD | refine bS ?_ (IsS116.ge HI0.out))) hb); replace HI0 := ak (IsS116.below (by repeat (first | exact HI0.out | apply IsS116.alloc | apply IsS116.drewN | apply IsS116.drew | apply IsS116.set_1)) hb); (try clear hb); (try clear ho0)) | ((with_reducible refine gate_callee (f := 102) rfl ?_); refine goesL_ (some 32) rfl rfl Try.func102 (by kernel_rfl) rfl #[.pointer (some ⟨g, 0, none⟩), .int .i64 3] rfl (by (try simp only [List.map_toArray, List.map_cons, List.map_nil]); first | done | rfl | (simp only [List.length_drop, List.length_take]; rfl)) ?_; (with_reducible refine (spec_l20Rd_pick.calls k1 g s0_0 t582 3 t587 t588 w0 _ ?side1 ?side2 A15.out).mono ?_); (case side1 => repeat (first | exact HI0.out | apply IsS116.alloc | apply IsS116.drewN | apply IsS116.drew | apply IsS116.set_1)); (case side2 => repeat (first | exact HB.out | apply bA | apply bN | apply bD | refine bS ?_ (IsS116.ge HI0.out))); rintro e w25 ⟨rfl, hi, hb, hk⟩; refine ⟨_, rfl, ?_⟩; replace HO_5 := ak (Kd.N_mono (Kd.N_keep (Kd.N_mono (ok := fun k_ => (((((w.heap.size ≤ k_)) ∧ k_ ≠ g) ∧ some k_ ≠ (.slice Ao21 t576.length co21 : Value).ownBlock) ∧ some k_ ≠ (v584 : Value).ownBlock)) (by (with_reducible repeat (first | apply Kd.N_alloc | apply Kd.N_drewN | apply Kd.N_drew)); exact HO_5.out) (fun k_ hk_ => (⟨hk_, hk_.1.1.2⟩ : _ ∧ k_ ≠ g))) hk (fun _ h => h.2)) (fun _ h => h.1)); replace HO578 := ak (Kd.R_mono (Kd.R_keep (IsS116.apart (show IsS116 w0 _ g s0_0 t582 from by repeat (first | exact HI0.out | apply IsS116.alloc | apply IsS116.drewN | apply IsS116.drew | apply IsS116.set_1)) (by (with_reducible repeat (first | apply Kd.R_alloc | apply Kd.R_drewN | apply Kd.R_drew)); exact HO578.out) (by decide)) hk (fun _ h => h.2)) (fun _ h => h.1)); replace HO585 := ak (Kd.N_mono (Kd.N_keep (Kd.N_mono (ok := fun k_ => (((w.heap.size ≤ k_)) ∧ (some k_ ≠ (.slice Ao19 x5_1.length co19 : Value).ownBlock ∧ (some k_ ≠ (.slice Ao21 t576.length co21 : Value).ownBlock ∧ k_ ≠ g)))) (by (with_reducible repeat (first | apply Kd.N_alloc | apply Kd.N_drewN | apply Kd.N_drew)); exact HO585.out) (fun k_ hk_ => (⟨hk_, hk_.2.2.2⟩ : _ ∧ k_ ≠ g))) hk (fun _ h => h.2)) (fun _ h => h.1)); replace HK := ak (KeepBut.trans (by repeat (first | exact HK.out | apply KeepBut.set_ | apply keep_drewN | apply keep_drew | apply keep_alloc)) hk (.inl rfl)); replace HB := ak (hb); replace HI0 := ak (hi); (try clear hb)) | ((with_reducible refine gate_callee (f := 92) rfl ?_); refine goesL_ (some 38) rfl rfl Try.func92 (by kernel_rfl) rfl #[.pointer (some ⟨g, 0, none⟩), .slice Ao21 t576.length co21, .int .i64 0] rfl (by (try simp only [List.map_toArray, List.map_cons, List.map_nil]); first | done | rfl | (simp only [List.length_drop, List.length_take]; rfl)) ?_; (with_reducible refine (spec_l20Near.calls k1 g s0_0 t588 _ _ t576 0 t589 t590 w0 _ ?side1 ?side2 ?side3 ?side4 A17.out).mono ?_); (case side1 => repeat (first | exact HI0.out | apply IsS116.alloc | apply IsS116.drewN | apply IsS116.drew | apply IsS116.set_1)); (case side2 => repeat (first | exact HB.out | apply bA | apply bN | apply bD | refine bS ?_ (IsS116.ge HI0.out))); (case side3 => exact Kd.C_foot_own (IsS116.apart (show IsS116 w0 _ g s0_0 t588 from by repeat (first | exact HI0.out | apply IsS116.alloc | apply IsS116.drewN | apply IsS116.drew | apply IsS116.set_1)) (by (with_reducible repeat (first | apply Kd.R_alloc | apply Kd.R_drewN | apply Kd.R_drew)); exact HO578.out) (by decide)) (fun _ h_ => h_.2)); (case side4 => exact (Kd.R_reads' HO578.out).2.1); rintro e w26 ⟨rfl, hi, hb, hk⟩; refine ⟨_, rfl, ?_⟩; replace HO_5 := ak (Kd.N_mono (Kd.N_keep (Kd.N_mono (ok := fun k_ => (((((w.heap.size ≤ k_)) ∧ k_ ≠ g) ∧ some k_ ≠ (.slice Ao21 t576.length co21 : Value).ownBlock) ∧ some k_ ≠ (v584 : Value).ownBlock)) (by (with_reducible repeat (first | apply Kd.N_alloc | apply Kd.N_drewN | apply Kd.N_drew)); exact HO_5.out) (fun k_ hk_ => (⟨hk_, hk_.1.1.2⟩ : _ ∧ k_ ≠ g))) hk (fun _ h => h.2)) (fun _ h => h.1)); replace HO578 := ak (Kd.R_mono (Kd.R_keep (IsS116.apart (show IsS116 w0 _ g s0_0 t588 from by repeat (first | exact HI0.out | apply IsS116.alloc | apply IsS116.drewN | apply IsS116.drew | apply IsS116.set_1)) (by (with_reducible repeat (first | apply Kd.R_alloc | apply Kd.R_drewN | apply Kd.R_drew)); exact HO578.out) (by decide)) hk (fun _ h => h.2)) (fun _ h => h.1)); replace HO585 := ak (Kd.N_mono (Kd.N_keep (Kd.N_mono (ok := fun k_ => (((w.heap.size ≤ k_)) ∧ (some k_ ≠ (.slice Ao19 x5_1.length co19 : Value).ownBlock ∧ (some k_ ≠ (.slice Ao21 t576.length co21 : Value).ownBlock ∧ k_ ≠ g)))) (by (with_reducible repeat (first | apply Kd.N_alloc | apply Kd.N_drewN | apply Kd.N_drew)); exact HO585.out) (fun k_ hk_ => (⟨hk_, hk_.2.2.2⟩ : _ ∧ k_ ≠ g))) hk (fun _ h => h.2)) (fun _ h => h.1)); replace HK := ak (KeepBut.trans (by repeat (first | exact HK.out | apply KeepBut.set_ | apply keep_drewN | apply keep_drew | apply keep_alloc)) hk (.inl rfl)); replace HB := ak (hb); replace HI0 := ak (hi); (try clear hb)) | ((with_reducible refine gate_callee (f := 47) rfl ?_); refine goesL_ (some 39) rfl rfl Try.func47 (by kernel_rfl) rfl #[.slice Ao19 x5_1.length co19, .string t589] rfl (by (try simp only [List.map_toArray, List.map_cons, List.map_nil]); first | done | rfl | (simp only [List.length_drop, List.length_take]; rfl)) ?_; (with_reducible refine (spec_PagesDrop.calls k1 _ _ x5_1 t589 t591 t594 _ ?side1 ?side2 A18.out).mono ?_); (case side1 => repeat (first | exact (Kd.N_reads' HO_5.out).2.2 | (with_reducible refine Kd.C_alloc ?_ _) | (with_reducible refine Kd.C_drewN ?_ _) | (with_reducible refine Kd.C_drew ?_))); (case side2 => exact (Kd.N_reads' HO_5.out).2.1); rintro e w27 ⟨v592, rfl, ho0, hb⟩; refine ⟨_, rfl, ?_⟩; have HO593 := ak (Kd.N_lower (Kd.N_mono (ok' := fun k_ => (w.heap.size ≤ k_) ∧ some k_ ≠ (.slice Ao19 x5_1.length co19 : Value).ownBlock ∧ some k_ ≠ (.slice Ao21 t576.length co21 : Value).ownBlock ∧ some k_ ≠ (v584 : Value).ownBlock ∧ k_ ≠ g) ho0 (fun k_ hk_ => ⟨(Nat.le_trans (keep_size (w := w) (g := g) (row := none) (by repeat (first | exact HK.out | apply KeepBut.set_ | apply keep_drewN | apply keep_drew | apply keep_alloc))) hk_), (Kd.fresh' (Kd.N_lt (by (with_reducible repeat (first | apply Kd.N_alloc | apply Kd.N_drewN | apply Kd.N_drew)); exact HO_5.out)) k_ hk_), (Kd.fresh' (Kd.R_lt (by (with_reducible repeat (first | apply Kd.R_alloc | apply Kd.R_drewN | apply Kd.R_drew)); exact HO578.out)) k_ hk_), (Kd.fresh' (Kd.N_lt (by (with_reducible repeat (first | apply Kd.N_alloc | apply Kd.N_drewN | apply Kd.N_drew)); exact HO585.out)) k_ hk_), (IsS116.fresh (by repeat (first | exact HI0.out | apply IsS116.alloc | apply IsS116.drewN | apply IsS116.drew | apply IsS116.set_1)) k_ hk_)⟩)) (keep_size (w := w) (g := g) (row := none) (by repeat (first | exact HK.out | apply KeepBut.set_ | apply keep_drewN | apply keep_drew | apply keep_alloc)))); replace HO_5 := ak (Kd.N_elder' (by (with_reducible repeat (first | apply Kd.N_alloc | apply Kd.N_drewN | apply Kd.N_drew)); exact HO_5.out) (Kd.N_base ho0) hb); replace HO578 := ak (Kd.R_below (by (with_reducible repeat (first | apply Kd.R_alloc | apply Kd.R_drewN | apply Kd.R_drew)); exact HO578.out) hb); replace HO585 := ak (Kd.N_elder' (by (with_reducible repeat (first | apply Kd.N_alloc | apply Kd.N_drewN | apply Kd.N_drew)); exact HO585.out) (Kd.N_base ho0) hb); replace HK := ak (KeepBut.trans (by repeat (first | exact HK.out | apply KeepBut.set_ | apply keep_drewN | apply keep_drew | apply keep_alloc)) (KeepBut.of_below hb g none) (.inl rfl)); replace HB := ak (below_step (by repeat (first | exact HB.out | apply bA | apply bN | apply bD | refine bS ?_ (IsS116.ge HI0.out))) hb); replace HI0 := ak (IsS116.below (by repeat (first | exact HI0.out | apply IsS116.alloc | apply IsS116.drewN | apply IsS116.drew | apply IsS116.set_1)) hb); (try clear hb); (try clear ho0)))
     go_roundg k1
     case measure => have := HK1.out; omega
     case rel => exact ⟨(t591), (wrap64 (x6_1 - 1)), (t590), (by first | rfl | (simp; done) | (simp [bne]; done) | (simp [*]; done)), H', ⟨by have := HK1.out; omega⟩, ⟨by (with_reducible repeat (first | apply Kd.N_alloc | apply Kd.N_drewN | apply Kd.N_drew)); exact Kd.N_mono HO593.out (fun _ hk => ⟨hk.1, hk.2.2.2.2⟩)⟩, ⟨by repeat (first | exact HI0.out | apply IsS116.alloc | apply IsS116.drewN | apply IsS116.drew | apply IsS116.set_1)⟩, ⟨by repeat (first | exact HK.out | apply KeepBut.set_ | apply keep_drewN | apply keep_drew | apply keep_alloc)⟩, ⟨by repeat (first | exact HB.out | apply bA | apply bN | apply bD | refine bS ?_ (IsS116.ge HI0.out))⟩⟩
    ·rw [if_neg c16] at H
     have c16b0 : (t587 == 0) = false := beq_eq_false_iff_ne.mpr c16
     have c16b1 : (t587 != 0) = true := bne_iff_ne.mpr c16
     have H' := ak H
     clear H
     obtain ⟨Ao28, co28, eo28⟩ := Kd.N_slice HO_5.out
     subst eo28
     go_wp2_with (first | ((with_reducible refine gate_callee (f := 43) rfl ?_); refine goesL_ (some 20) rfl rfl Try.func43 (by kernel_rfl) rfl #[.slice Ao28 x5_1.length co28] rfl (by (try simp only [List.map_toArray, List.map_cons, List.map_nil]); first | done | rfl | (simp only [List.length_drop, List.length_take]; rfl)) ?_; (with_reducible refine (spec_PagesList.calls k1 _ _ x5_1 t576 _ ?side1 ?side2 A11.out).mono ?_); (case side1 => repeat (first | exact (Kd.N_reads' HO_5.out).2.2 | (with_reducible refine Kd.C_alloc ?_ _) | (with_reducible refine Kd.C_drewN ?_ _) | (with_reducible refine Kd.C_drew ?_))); (case side2 => exact (Kd.N_reads' HO_5.out).2.1); rintro e w29 ⟨v577, rfl, ho0, hb⟩; refine ⟨_, rfl, ?_⟩; replace HO_5 := ak (Kd.N_elder' (by (with_reducible repeat (first | apply Kd.N_alloc | apply Kd.N_drewN | apply Kd.N_drew)); exact HO_5.out) (Kd.R_base ho0) hb); have HO578 := ak (Kd.R_lower (Kd.R_newM (M := fun k_ => (w.heap.size ≤ k_)) ho0 (keep_size (w := w) (g := g) (row := none) (by repeat (first | exact HK.out | apply KeepBut.set_ | apply keep_drewN | apply keep_drew | apply keep_alloc))) (fun k_ h_ => h_)) (keep_size (w := w) (g := g) (row := none) (by repeat (first | exact HK.out | apply KeepBut.set_ | apply keep_drewN | apply keep_drew | apply keep_alloc)))); replace HK := ak (KeepBut.trans (by repeat (first | exact HK.out | apply KeepBut.set_ | apply keep_drewN | apply keep_drew | apply keep_alloc)) (KeepBut.of_below hb g none) (.inl rfl)); replace HB := ak (below_step (by repeat (first | exact HB.out | apply bA | apply bN | apply bD | refine bS ?_ (IsS116.ge HI0.out))) hb); replace HI0 := ak (IsS116.below (by repeat (first | exact HI0.out | apply IsS116.alloc | apply IsS116.drewN | apply IsS116.drew | apply IsS116.set_1)) hb); (try clear hb); (try clear ho0); obtain ⟨Ao30, co30, eo30⟩ := Kd.R_slice HO578.out; subst eo30) | ((with_reducible refine gate_callee (f := 92) rfl ?_); refine goesL_ (some 25) rfl rfl Try.func92 (by kernel_rfl) rfl #[.pointer (some ⟨g, 0, none⟩), .slice Ao30 t576.length co30, .int .i64 0] rfl (by (try simp only [List.map_toArray, List.map_cons, List.map_nil]); first | done | rfl | (simp only [List.length_drop, List.length_take]; rfl)) ?_; (with_reducible refine (spec_l20Near.calls k1 g s0_0 x1001_1 _ _ t576 0 t579 t580 w0 _ ?side1 ?side2 ?side3 ?side4 A12.out).mono ?_); (case side1 => repeat (first | exact HI0.out | apply IsS116.alloc | apply IsS116.drewN | apply IsS116.drew | apply IsS116.set_1)); (case side2 => repeat (first | exact HB.out | apply bA | apply bN | apply bD | refine bS ?_ (IsS116.ge HI0.out))); (case side3 => exact Kd.C_foot_own (IsS116.apart (show IsS116 w0 _ g s0_0 x1001_1 from by repeat (first | exact HI0.out | apply IsS116.alloc | apply IsS116.drewN | apply IsS116.drew | apply IsS116.set_1)) (by (with_reducible repeat (first | apply Kd.R_alloc | apply Kd.R_drewN | apply Kd.R_drew)); exact HO578.out) (by decide)) (fun _ h_ => h_.2)); (case side4 => exact (Kd.R_reads' HO578.out).2.1); rintro e w31 ⟨rfl, hi, hb, hk⟩; refine ⟨_, rfl, ?_⟩; replace HO_5 := ak (Kd.N_mono (Kd.N_keep (Kd.N_mono (ok := fun k_ => ((((w.heap.size ≤ k_)) ∧ k_ ≠ g) ∧ some k_ ≠ (.slice Ao30 t576.length co30 : Value).ownBlock)) (by (with_reducible repeat (first | apply Kd.N_alloc | apply Kd.N_drewN | apply Kd.N_drew)); exact HO_5.out) (fun k_ hk_ => (⟨hk_, hk_.1.2⟩ : _ ∧ k_ ≠ g))) hk (fun _ h => h.2)) (fun _ h => h.1)); replace HO578 := ak (Kd.R_mono (Kd.R_keep (IsS116.apart (show IsS116 w0 _ g s0_0 x1001_1 from by repeat (first | exact HI0.out | apply IsS116.alloc | apply IsS116.drewN | apply IsS116.drew | apply IsS116.set_1)) (by (with_reducible repeat (first | apply Kd.R_alloc | apply Kd.R_drewN | apply Kd.R_drew)); exact HO578.out) (by decide)) hk (fun _ h => h.2)) (fun _ h => h.1)); replace HK := ak (KeepBut.trans (by repeat (first | exact HK.out | apply KeepBut.set_ | apply keep_drewN | apply keep_drew | apply keep_alloc)) hk (.inl rfl)); replace HB := ak (hb); replace HI0 := ak (hi); (try clear hb)) | ((with_reducible refine gate_callee (f := 94) rfl ?_); refine goesL_ (some 27) rfl rfl Try.func94 (by kernel_rfl) rfl #[.pointer (some ⟨g, 0, none⟩), .int .i64 0] rfl (by (try simp only [List.map_toArray, List.map_cons, List.map_nil]); first | done | rfl | (simp only [List.length_drop, List.length_take]; rfl)) ?_; (with_reducible refine (spec_l20Value.calls k1 g s0_0 t580 0 t581 t582 w0 _ ?side1 ?side2 A13.out).mono ?_); (case side1 => repeat (first | exact HI0.out | apply IsS116.alloc | apply IsS116.drewN | apply IsS116.drew | apply IsS116.set_1)); (case side2 => repeat (first | exact HB.out | apply bA | apply bN | apply bD | refine bS ?_ (IsS116.ge HI0.out))); rintro e w32 ⟨rfl, hi, hb, hk⟩; refine ⟨_, rfl, ?_⟩; replace HO_5 := ak (Kd.N_mono (Kd.N_keep (Kd.N_mono (ok := fun k_ => ((((w.heap.size ≤ k_)) ∧ k_ ≠ g) ∧ some k_ ≠ (.slice Ao30 t576.length co30 : Value).ownBlock)) (by (with_reducible repeat (first | apply Kd.N_alloc | apply Kd.N_drewN | apply Kd.N_drew)); exact HO_5.out) (fun k_ hk_ => (⟨hk_, hk_.1.2⟩ : _ ∧ k_ ≠ g))) hk (fun _ h => h.2)) (fun _ h => h.1)); replace HO578 := ak (Kd.R_mono (Kd.R_keep (IsS116.apart (show IsS116 w0 _ g s0_0 t580 from by repeat (first | exact HI0.out | apply IsS116.alloc | apply IsS116.drewN | apply IsS116.drew | apply IsS116.set_1)) (by (with_reducible repeat (first | apply Kd.R_alloc | apply Kd.R_drewN | apply Kd.R_drew)); exact HO578.out) (by decide)) hk (fun _ h => h.2)) (fun _ h => h.1)); replace HK := ak (KeepBut.trans (by repeat (first | exact HK.out | apply KeepBut.set_ | apply keep_drewN | apply keep_drew | apply keep_alloc)) hk (.inl rfl)); replace HB := ak (hb); replace HI0 := ak (hi); (try clear hb)) | ((with_reducible refine gate_callee (f := 45) rfl ?_); refine goesL_ (some 28) rfl rfl Try.func45 (by kernel_rfl) rfl #[.slice Ao28 x5_1.length co28, .string t579, .int .i64 t581] rfl (by (try simp only [List.map_toArray, List.map_cons, List.map_nil]); first | done | rfl | (simp only [List.length_drop, List.length_take]; rfl)) ?_; (with_reducible refine (spec_PagesPut.calls k1 _ _ x5_1 t579 t581 t583 t586 _ ?side1 ?side2 A14.out).mono ?_); (case side1 => repeat (first | exact (Kd.N_reads' HO_5.out).2.2 | (with_reducible refine Kd.C_alloc ?_ _) | (with_reducible refine Kd.C_drewN ?_ _) | (with_reducible refine Kd.C_drew ?_))); (case side2 => exact (Kd.N_reads' HO_5.out).2.1); rintro e w33 ⟨v584, rfl, ho0, hb⟩; refine ⟨_, rfl, ?_⟩; have HO585 := ak (Kd.N_lower (Kd.N_mono (ok' := fun k_ => (w.heap.size ≤ k_) ∧ some k_ ≠ (.slice Ao28 x5_1.length co28 : Value).ownBlock ∧ some k_ ≠ (.slice Ao30 t576.length co30 : Value).ownBlock ∧ k_ ≠ g) ho0 (fun k_ hk_ => ⟨(Nat.le_trans (keep_size (w := w) (g := g) (row := none) (by repeat (first | exact HK.out | apply KeepBut.set_ | apply keep_drewN | apply keep_drew | apply keep_alloc))) hk_), (Kd.fresh' (Kd.N_lt (by (with_reducible repeat (first | apply Kd.N_alloc | apply Kd.N_drewN | apply Kd.N_drew)); exact HO_5.out)) k_ hk_), (Kd.fresh' (Kd.R_lt (by (with_reducible repeat (first | apply Kd.R_alloc | apply Kd.R_drewN | apply Kd.R_drew)); exact HO578.out)) k_ hk_), (IsS116.fresh (by repeat (first | exact HI0.out | apply IsS116.alloc | apply IsS116.drewN | apply IsS116.drew | apply IsS116.set_1)) k_ hk_)⟩)) (keep_size (w := w) (g := g) (row := none) (by repeat (first | exact HK.out | apply KeepBut.set_ | apply keep_drewN | apply keep_drew | apply keep_alloc)))); replace HO_5 := ak (Kd.N_elder' (by (with_reducible repeat (first | apply Kd.N_alloc | apply Kd.N_drewN | apply Kd.N_drew)); exact HO_5.out) (Kd.N_base ho0) hb); replace HO578 := ak (Kd.R_below (by (with_reducible repeat (first | apply Kd.R_alloc | apply Kd.R_drewN | apply Kd.R_drew)); exact HO578.out) hb); replace HK := ak (KeepBut.trans (by repeat (first | exact HK.out | apply KeepBut.set_ | apply keep_drewN | apply keep_drew | apply keep_alloc)) (KeepBut.of_below hb g none) (.inl rfl)); replace HB := ak (below_step (by repeat (first | exact HB.out | apply bA | apply bN | apply bD | refine bS ?_ (IsS116.ge HI0.out))) hb); replace HI0 := ak (IsS116.below (by repeat (first | exact HI0.out | apply IsS116.alloc | apply IsS116.drewN | apply IsS116.drew | apply IsS116.set_1)) hb); (try clear hb); (try clear ho0)) | ((with_reducible refine gate_callee (f := 102) rfl ?_); refine goesL_ (some 32) rfl rfl Try.func102 (by kernel_rfl) rfl #[.pointer (some ⟨g, 0, none⟩), .int .i64 3] rfl (by (try simp only [List.map_toArray, List.map_cons, List.map_nil]); first | done | rfl | (simp only [List.length_drop, List.length_take]; rfl)) ?_; (with_reducible refine (spec_l20Rd_pick.calls k1 g s0_0 t582 3 t587 t588 w0 _ ?side1 ?side2 A15.out).mono ?_); (case side1 => repeat (first | exact HI0.out | apply IsS116.alloc | apply IsS116.drewN | apply IsS116.drew | apply IsS116.set_1)); (case side2 => repeat (first | exact HB.out | apply bA | apply bN | apply bD | refine bS ?_ (IsS116.ge HI0.out))); rintro e w34 ⟨rfl, hi, hb, hk⟩; refine ⟨_, rfl, ?_⟩; replace HO_5 := ak (Kd.N_mono (Kd.N_keep (Kd.N_mono (ok := fun k_ => (((((w.heap.size ≤ k_)) ∧ k_ ≠ g) ∧ some k_ ≠ (.slice Ao30 t576.length co30 : Value).ownBlock) ∧ some k_ ≠ (v584 : Value).ownBlock)) (by (with_reducible repeat (first | apply Kd.N_alloc | apply Kd.N_drewN | apply Kd.N_drew)); exact HO_5.out) (fun k_ hk_ => (⟨hk_, hk_.1.1.2⟩ : _ ∧ k_ ≠ g))) hk (fun _ h => h.2)) (fun _ h => h.1)); replace HO578 := ak (Kd.R_mono (Kd.R_keep (IsS116.apart (show IsS116 w0 _ g s0_0 t582 from by repeat (first | exact HI0.out | apply IsS116.alloc | apply IsS116.drewN | apply IsS116.drew | apply IsS116.set_1)) (by (with_reducible repeat (first | apply Kd.R_alloc | apply Kd.R_drewN | apply Kd.R_drew)); exact HO578.out) (by decide)) hk (fun _ h => h.2)) (fun _ h => h.1)); replace HO585 := ak (Kd.N_mono (Kd.N_keep (Kd.N_mono (ok := fun k_ => (((w.heap.size ≤ k_)) ∧ (some k_ ≠ (.slice Ao28 x5_1.length co28 : Value).ownBlock ∧ (some k_ ≠ (.slice Ao30 t576.length co30 : Value).ownBlock ∧ k_ ≠ g)))) (by (with_reducible repeat (first | apply Kd.N_alloc | apply Kd.N_drewN | apply Kd.N_drew)); exact HO585.out) (fun k_ hk_ => (⟨hk_, hk_.2.2.2⟩ : _ ∧ k_ ≠ g))) hk (fun _ h => h.2)) (fun _ h => h.1)); replace HK := ak (KeepBut.trans (by repeat (first | exact HK.out | apply KeepBut.set_ | apply keep_drewN | apply keep_drew | apply keep_alloc)) hk (.inl rfl)); replace HB := ak (hb); replace HI0 := ak (hi); (try clear hb)))
     go_roundg k1
     case measure => have := HK1.out; omega
     case rel => exact ⟨(t583), (wrap64 (x6_1 - 1)), (t588), (by first | rfl | (simp; done) | (simp [bne]; done) | (simp [*]; done)), H', ⟨by have := HK1.out; omega⟩, ⟨by (with_reducible repeat (first | apply Kd.N_alloc | apply Kd.N_drewN | apply Kd.N_drew)); exact Kd.N_mono HO585.out (fun _ hk => ⟨hk.1, hk.2.2.2⟩)⟩, ⟨by repeat (first | exact HI0.out | apply IsS116.alloc | apply IsS116.drewN | apply IsS116.drew | apply IsS116.set_1)⟩, ⟨by repeat (first | exact HK.out | apply KeepBut.set_ | apply keep_drewN | apply keep_drew | apply keep_alloc)⟩, ⟨by repeat (first | exact HB.out | apply bA | apply bN | apply bD | refine bS ?_ (IsS116.ge HI0.out))⟩⟩
   ·rw [if_neg c10] at H
    have c10b0 : decide (0 < x6_1) = false := decide_eq_false c10
    clear c10
    replace H := Option.bind_eq_some_iff.mp H
    obtain ⟨⟨t595, t596⟩, A350, H⟩ := H
    try dsimp only at H
    have A35 := ak A350
    clear A350
    by_cases c36 : t595 = true
    ·subst c36
     rw [if_pos rfl] at H
     replace H := Option.bind_eq_some_iff.mp H
     obtain ⟨⟨t597, t598⟩, A370, H⟩ := H
     try dsimp only at H
     have A37 := ak A370
     clear A370
     by_cases c38 : t597 = 0
     ·rw [if_pos c38] at H
      have c38b0 : (t597 == 0) = true := beq_iff_eq.mpr c38
      have c38b1 : (t597 != 0) = false := bne_eq_false_iff_eq.mpr c38
      clear c38
      by_cases c39 : x5_1.length < 5864062014805
      ·rw [if_pos c39] at H
       have LMc39 := ak c39
       clear c39
       obtain ⟨y599, hy599⟩ : ∃ y_ : List (S64), y_ = (x5_1 ++ [(⟨([] : List (S71))⟩ : S64)]) := ⟨_, rfl⟩
       replace H : (some (y599, t598)) = some (r1, r2) := by first | (rw [hy599]; exact H) | exact H
       have Ny599 := ak hy599
       clear hy599
       simp only [Option.some.injEq, Prod.mk.injEq] at H
       obtain ⟨rfl, rfl⟩ := H
       go_wp2_with (first | ((with_reducible refine gate_callee (f := 105) rfl ?_); refine goesL_ (some 45) rfl rfl Try.func105 (by kernel_rfl) rfl #[.pointer (some ⟨g, 0, none⟩), .int .i64 a1] rfl (by (try simp only [List.map_toArray, List.map_cons, List.map_nil]); first | done | rfl | (simp only [List.length_drop, List.length_take]; rfl)) ?_; (with_reducible refine (spec_l20Rd_odd.calls k1 g s0_0 x1001_1 a1 true t596 w0 _ ?side1 ?side2 A35.out).mono ?_); (case side1 => repeat (first | exact HI0.out | apply IsS116.alloc | apply IsS116.drewN | apply IsS116.drew | apply IsS116.set_1)); (case side2 => repeat (first | exact HB.out | apply bA | apply bN | apply bD | refine bS ?_ (IsS116.ge HI0.out))); rintro e w40 ⟨rfl, hi, hb, hk⟩; refine ⟨_, rfl, ?_⟩; replace HO_5 := ak (Kd.N_mono (Kd.N_keep (Kd.N_mono (ok := fun k_ => (((w.heap.size ≤ k_)) ∧ k_ ≠ g)) (by (with_reducible repeat (first | apply Kd.N_alloc | apply Kd.N_drewN | apply Kd.N_drew)); exact HO_5.out) (fun k_ hk_ => (⟨hk_, hk_.2⟩ : _ ∧ k_ ≠ g))) hk (fun _ h => h.2)) (fun _ h => h.1)); replace HK := ak (KeepBut.trans (by repeat (first | exact HK.out | apply KeepBut.set_ | apply keep_drewN | apply keep_drew | apply keep_alloc)) hk (.inl rfl)); replace HB := ak (hb); replace HI0 := ak (hi); (try clear hb)) | ((with_reducible refine gate_callee (f := 102) rfl ?_); refine goesL_ (some 47) rfl rfl Try.func102 (by kernel_rfl) rfl #[.pointer (some ⟨g, 0, none⟩), .int .i64 3] rfl (by (try simp only [List.map_toArray, List.map_cons, List.map_nil]); first | done | rfl | (simp only [List.length_drop, List.length_take]; rfl)) ?_; (with_reducible refine (spec_l20Rd_pick.calls k1 g s0_0 t596 3 t597 t598 w0 _ ?side1 ?side2 A37.out).mono ?_); (case side1 => repeat (first | exact HI0.out | apply IsS116.alloc | apply IsS116.drewN | apply IsS116.drew | apply IsS116.set_1)); (case side2 => repeat (first | exact HB.out | apply bA | apply bN | apply bD | refine bS ?_ (IsS116.ge HI0.out))); rintro e w41 ⟨rfl, hi, hb, hk⟩; refine ⟨_, rfl, ?_⟩; replace HO_5 := ak (Kd.N_mono (Kd.N_keep (Kd.N_mono (ok := fun k_ => (((w.heap.size ≤ k_)) ∧ k_ ≠ g)) (by (with_reducible repeat (first | apply Kd.N_alloc | apply Kd.N_drewN | apply Kd.N_drew)); exact HO_5.out) (fun k_ hk_ => (⟨hk_, hk_.2⟩ : _ ∧ k_ ≠ g))) hk (fun _ h => h.2)) (fun _ h => h.1)); replace HK := ak (KeepBut.trans (by repeat (first | exact HK.out | apply KeepBut.set_ | apply keep_drewN | apply keep_drew | apply keep_alloc)) hk (.inl rfl)); replace HB := ak (hb); replace HI0 := ak (hi); (try clear hb)) | ((with_reducible refine gate_builtin (b := .append) (xs := #[.tmp 60, .tmp 62]) rfl ?_); at_builtin; refine Kd.N_append k64 w.heap.size rfl (.tmp 60) (.tmp 62) 34 64 (.agg #[(.slice none 0 0)]) 24 rfl Try.underlying34 info64 rfl (by decide) (by omega) u5 x5_1 (⟨([] : List (S71))⟩ : S64) [.slice none 0 0] (fun k_ => (w.heap.size ≤ k_) ∧ k_ ≠ g) (fun k_ => ((fun k_ => (w.heap.size ≤ k_) ∧ k_ ≠ g)) k_ ∧ some k_ ≠ (u5 : Value).ownBlock) rfl rfl ?aP (fun _ hk => hk) ?aF ?aO (Below.refl _ _) ?aS ?aL ?_; (case aP => exact (k64_mkF _ _ (⟨([] : List (S71))⟩ : S64) (Nat.le_refl _) (Kd.F_nil _ _ _))); (case aF => exact (fun k_ hk => ⟨(Nat.le_trans (keep_size (w := w) (g := g) (row := none) (by repeat (first | exact HK.out | apply KeepBut.set_ | apply keep_drewN | apply keep_drew | apply keep_alloc))) hk), IsS116.fresh (by repeat (first | exact HI0.out | apply IsS116.alloc | apply IsS116.drewN | apply IsS116.drew | apply IsS116.set_1)) k_ hk⟩)); (case aO => exact (by (with_reducible repeat (first | apply Kd.N_alloc | apply Kd.N_drewN | apply Kd.N_drew)); exact HO_5.out)); (case aS => exact (keep_size (w := w) (g := g) (row := none) (by repeat (first | exact HK.out | apply KeepBut.set_ | apply keep_drewN | apply keep_drew | apply keep_alloc)))); (case aL => have := LMc39.out; omega); intro v600 w42 ho hb hg hat; rw [← Ny599.out] at ho; replace HB := ak (below_weaken (by repeat (first | exact HB.out | apply bA | apply bN | apply bD | refine bS ?_ (IsS116.ge HI0.out))) HL.out hb); replace HI0 := ak (IsS116.grown (by repeat (first | exact HI0.out | apply IsS116.alloc | apply IsS116.drewN | apply IsS116.drew | apply IsS116.set_1)) hg (IsS116.own_neN HI0.out HO_5.out (by decide))); replace HK := ak (KeepBut.trans (by repeat (first | exact HK.out | apply KeepBut.set_ | apply keep_drewN | apply keep_drew | apply keep_alloc)) (KeepBut.of_grown hg g) (Kd.N_base2 HO_5.out)); have HO601 := ak (ho); clear HO_5; clear ho hb hg hat))
       go_ret
       exact ⟨_, by first | rfl | (simp only [u8_w_, w64_u8_] <;> rfl) | (simp [errW_none, errW_some] <;> rfl) | (simp [*, errW_none, errW_some] <;> rfl), by (with_reducible repeat (first | apply Kd.N_alloc | apply Kd.N_drewN | apply Kd.N_drew)); exact Kd.N_mono HO601.out (fun _ hk => hk.1), by repeat (first | exact HI0.out | apply IsS116.alloc | apply IsS116.drewN | apply IsS116.drew | apply IsS116.set_1), by repeat (first | exact HB.out | apply bA | apply bN | apply bD | refine bS ?_ (IsS116.ge HI0.out)), by repeat (first | exact HK.out | apply KeepBut.set_ | apply keep_drewN | apply keep_drew | apply keep_alloc)⟩
      ·rw [if_neg c39] at H
       exact absurd H (by simp)
     ·rw [if_neg c38] at H
      have c38b0 : (t597 == 0) = false := beq_eq_false_iff_ne.mpr c38
      have c38b1 : (t597 != 0) = true := bne_iff_ne.mpr c38
      by_cases c43 : t597 = 1
      ·rw [if_pos c43] at H
       have c43b0 : (t597 == 1) = true := beq_iff_eq.mpr c43
       have c43b1 : (t597 != 1) = false := bne_eq_false_iff_eq.mpr c43
       clear c43
       obtain ⟨y602, hy602⟩ : ∃ y_ : List (S71), y_ = (([(⟨(⟨#[122, 122, 122, 122]⟩ : ByteArray), 0⟩ : S71)] : List (S71))) := ⟨_, rfl⟩
       replace H : ((some (([(⟨y602⟩ : S64), (⟨(([(⟨(⟨#[122, 122, 122, 122]⟩ : ByteArray), 0⟩ : S71), (⟨(⟨#[122, 122, 122, 122]⟩ : ByteArray), 0⟩ : S71)] : List (S71)))⟩ : S64)] : List (S64)) : List (S64))).bind fun y608 => (if x5_1.length + y608.length < 5864062014805 then (some ((x5_1 ++ y608), t598)) else (none))) = some (r1, r2) := by first | (rw [hy602]; exact H) | exact H
       have Ny602 := ak hy602
       clear hy602
       obtain ⟨y605, hy605⟩ : ∃ y_ : List (S71), y_ = (([(⟨(⟨#[122, 122, 122, 122]⟩ : ByteArray), 0⟩ : S71), (⟨(⟨#[122, 122, 122, 122]⟩ : ByteArray), 0⟩ : S71)] : List (S71))) := ⟨_, rfl⟩
       replace H : ((some (([(⟨y602⟩ : S64), (⟨y605⟩ : S64)] : List (S64)) : List (S64))).bind fun y608 => (if x5_1.length + y608.length < 5864062014805 then (some ((x5_1 ++ y608), t598)) else (none))) = some (r1, r2) := by first | (rw [hy605]; exact H) | exact H
       have Ny605 := ak hy605
       clear hy605
       obtain ⟨y608, hy608⟩ : ∃ y_ : List (S64), y_ = (([(⟨y602⟩ : S64), (⟨y605⟩ : S64)] : List (S64))) := ⟨_, rfl⟩
       replace H : (if x5_1.length + y608.length < 5864062014805 then (some ((x5_1 ++ y608), t598)) else (none)) = some (r1, r2) := by first | (rw [hy608]; exact H) | exact H
       have Ny608 := ak hy608
       clear hy608
       by_cases c44 : x5_1.length + y608.length < 5864062014805
       ·rw [if_pos c44] at H
        have LMc44 := ak c44
        clear c44
        obtain ⟨y611, hy611⟩ : ∃ y_ : List (S64), y_ = (x5_1 ++ y608) := ⟨_, rfl⟩
        replace H : (some (y611, t598)) = some (r1, r2) := by first | (rw [hy611]; exact H) | exact H
        have Ny611 := ak hy611
        clear hy611
        simp only [Option.some.injEq, Prod.mk.injEq] at H
        obtain ⟨rfl, rfl⟩ := H
        go_wp2_with (first | ((with_reducible refine gate_callee (f := 105) rfl ?_); refine goesL_ (some 45) rfl rfl Try.func105 (by kernel_rfl) rfl #[.pointer (some ⟨g, 0, none⟩), .int .i64 a1] rfl (by (try simp only [List.map_toArray, List.map_cons, List.map_nil]); first | done | rfl | (simp only [List.length_drop, List.length_take]; rfl)) ?_; (with_reducible refine (spec_l20Rd_odd.calls k1 g s0_0 x1001_1 a1 true t596 w0 _ ?side1 ?side2 A35.out).mono ?_); (case side1 => repeat (first | exact HI0.out | apply IsS116.alloc | apply IsS116.drewN | apply IsS116.drew | apply IsS116.set_1)); (case side2 => repeat (first | exact HB.out | apply bA | apply bN | apply bD | refine bS ?_ (IsS116.ge HI0.out))); rintro e w45 ⟨rfl, hi, hb, hk⟩; refine ⟨_, rfl, ?_⟩; replace HO_5 := ak (Kd.N_mono (Kd.N_keep (Kd.N_mono (ok := fun k_ => (((w.heap.size ≤ k_)) ∧ k_ ≠ g)) (by (with_reducible repeat (first | apply Kd.N_alloc | apply Kd.N_drewN | apply Kd.N_drew)); exact HO_5.out) (fun k_ hk_ => (⟨hk_, hk_.2⟩ : _ ∧ k_ ≠ g))) hk (fun _ h => h.2)) (fun _ h => h.1)); replace HK := ak (KeepBut.trans (by repeat (first | exact HK.out | apply KeepBut.set_ | apply keep_drewN | apply keep_drew | apply keep_alloc)) hk (.inl rfl)); replace HB := ak (hb); replace HI0 := ak (hi); (try clear hb)) | ((with_reducible refine gate_callee (f := 102) rfl ?_); refine goesL_ (some 47) rfl rfl Try.func102 (by kernel_rfl) rfl #[.pointer (some ⟨g, 0, none⟩), .int .i64 3] rfl (by (try simp only [List.map_toArray, List.map_cons, List.map_nil]); first | done | rfl | (simp only [List.length_drop, List.length_take]; rfl)) ?_; (with_reducible refine (spec_l20Rd_pick.calls k1 g s0_0 t596 3 t597 t598 w0 _ ?side1 ?side2 A37.out).mono ?_); (case side1 => repeat (first | exact HI0.out | apply IsS116.alloc | apply IsS116.drewN | apply IsS116.drew | apply IsS116.set_1)); (case side2 => repeat (first | exact HB.out | apply bA | apply bN | apply bD | refine bS ?_ (IsS116.ge HI0.out))); rintro e w46 ⟨rfl, hi, hb, hk⟩; refine ⟨_, rfl, ?_⟩; replace HO_5 := ak (Kd.N_mono (Kd.N_keep (Kd.N_mono (ok := fun k_ => (((w.heap.size ≤ k_)) ∧ k_ ≠ g)) (by (with_reducible repeat (first | apply Kd.N_alloc | apply Kd.N_drewN | apply Kd.N_drew)); exact HO_5.out) (fun k_ hk_ => (⟨hk_, hk_.2⟩ : _ ∧ k_ ≠ g))) hk (fun _ h => h.2)) (fun _ h => h.1)); replace HK := ak (KeepBut.trans (by repeat (first | exact HK.out | apply KeepBut.set_ | apply keep_drewN | apply keep_drew | apply keep_alloc)) hk (.inl rfl)); replace HB := ak (hb); replace HI0 := ak (hi); (try clear hb)) | ((with_reducible refine gate_dst (N := 68) rfl ?_); refine Kd.R_lit k71 _ 71 ?hg (N := 68) ?hd (xs := ([(⟨(⟨#[122, 122, 122, 122]⟩ : ByteArray), 0⟩ : S71)] : List (S71))) (inner := [.string (⟨#[122, 122, 122, 122]⟩ : ByteArray), .int .i64 0]) (ok := fun _ => True) (okp := fun _ => True) ?hr ?hp (fun _ hk => hk) trivial (Below.refl _ _) (Nat.le_refl _) (by simp) ?_; (case hd => rfl); (case hg => rfl); (case hr => first | (go_simp; done) | (go_simp; rfl)); (case hp => exact (Reps.c2 (show Kd.M k71 _ _ _ (⟨(⟨#[122, 122, 122, 122]⟩ : ByteArray), 0⟩ : S71) [.string (⟨#[122, 122, 122, 122]⟩ : ByteArray), .int .i64 0] from (k71_mkM _ _ _ (⟨(⟨#[122, 122, 122, 122]⟩ : ByteArray), 0⟩ : S71) )) (Reps.none _ _))); intro v603 w47 ho48 hb hg_ hnew_; clear hg_ hnew_; (first | rw [← Ny602.out] at ho48 | (simp only [Int.reduceToNat] at ho48; rw [← Ny602.out] at ho48)); replace HO_5 := ak (Kd.N_elder' (by (with_reducible repeat (first | apply Kd.N_alloc | apply Kd.N_drewN | apply Kd.N_drew)); exact HO_5.out) (Kd.R_base ho48) hb); have HO604 := ak (Kd.R_lower (Kd.R_newM (M := fun k_ => (w.heap.size ≤ k_)) ho48 (keep_size (w := w) (g := g) (row := none) (by repeat (first | exact HK.out | apply KeepBut.set_ | apply keep_drewN | apply keep_drew | apply keep_alloc))) (fun k_ h_ => h_)) (keep_size (w := w) (g := g) (row := none) (by repeat (first | exact HK.out | apply KeepBut.set_ | apply keep_drewN | apply keep_drew | apply keep_alloc)))); replace HK := ak (KeepBut.trans (by repeat (first | exact HK.out | apply KeepBut.set_ | apply keep_drewN | apply keep_drew | apply keep_alloc)) (KeepBut.of_below hb g none) (.inl rfl)); replace HB := ak (below_step (by repeat (first | exact HB.out | apply bA | apply bN | apply bD | refine bS ?_ (IsS116.ge HI0.out))) hb); replace HI0 := ak (IsS116.below (by repeat (first | exact HI0.out | apply IsS116.alloc | apply IsS116.drewN | apply IsS116.drew | apply IsS116.set_1)) hb); clear hb ho48; obtain ⟨Ao49, co49, eo49⟩ := Kd.R_slice HO604.out; subst eo49) | ((with_reducible refine gate_dst (N := 72) rfl ?_); refine Kd.R_lit k71 _ 71 ?hg (N := 72) ?hd (xs := ([(⟨(⟨#[122, 122, 122, 122]⟩ : ByteArray), 0⟩ : S71), (⟨(⟨#[122, 122, 122, 122]⟩ : ByteArray), 0⟩ : S71)] : List (S71))) (inner := [.string (⟨#[122, 122, 122, 122]⟩ : ByteArray), .int .i64 0, .string (⟨#[122, 122, 122, 122]⟩ : ByteArray), .int .i64 0]) (ok := fun _ => True) (okp := fun _ => True) ?hr ?hp (fun _ hk => hk) trivial (Below.refl _ _) (Nat.le_refl _) (by simp) ?_; (case hd => rfl); (case hg => rfl); (case hr => first | (go_simp; done) | (go_simp; rfl)); (case hp => exact (Reps.c2 (show Kd.M k71 _ _ _ (⟨(⟨#[122, 122, 122, 122]⟩ : ByteArray), 0⟩ : S71) [.string (⟨#[122, 122, 122, 122]⟩ : ByteArray), .int .i64 0] from (k71_mkM _ _ _ (⟨(⟨#[122, 122, 122, 122]⟩ : ByteArray), 0⟩ : S71) )) (Reps.c2 (show Kd.M k71 _ _ _ (⟨(⟨#[122, 122, 122, 122]⟩ : ByteArray), 0⟩ : S71) [.string (⟨#[122, 122, 122, 122]⟩ : ByteArray), .int .i64 0] from (k71_mkM _ _ _ (⟨(⟨#[122, 122, 122, 122]⟩ : ByteArray), 0⟩ : S71) )) (Reps.none _ _)))); intro v606 w50 ho51 hb hg_ hnew_; clear hg_ hnew_; (first | rw [← Ny605.out] at ho51 | (simp only [Int.reduceToNat] at ho51; rw [← Ny605.out] at ho51)); replace HO_5 := ak (Kd.N_elder' (by (with_reducible repeat (first | apply Kd.N_alloc | apply Kd.N_drewN | apply Kd.N_drew)); exact HO_5.out) (Kd.R_base ho51) hb); have HO607 := ak (Kd.R_lower (Kd.R_new' (Kd.R_newM (M := fun k_ => (w.heap.size ≤ k_)) ho51 (keep_size (w := w) (g := g) (row := none) (by repeat (first | exact HK.out | apply KeepBut.set_ | apply keep_drewN | apply keep_drew | apply keep_alloc))) (fun k_ h_ => h_)) (Kd.R_lt (by (with_reducible repeat (first | apply Kd.R_alloc | apply Kd.R_drewN | apply Kd.R_drew)); exact HO604.out))) (keep_size (w := w) (g := g) (row := none) (by repeat (first | exact HK.out | apply KeepBut.set_ | apply keep_drewN | apply keep_drew | apply keep_alloc)))); replace HO604 := ak (Kd.R_elder' (by (with_reducible repeat (first | apply Kd.R_alloc | apply Kd.R_drewN | apply Kd.R_drew)); exact HO604.out) (Kd.R_base ho51) hb); replace HK := ak (KeepBut.trans (by repeat (first | exact HK.out | apply KeepBut.set_ | apply keep_drewN | apply keep_drew | apply keep_alloc)) (KeepBut.of_below hb g none) (.inl rfl)); replace HB := ak (below_step (by repeat (first | exact HB.out | apply bA | apply bN | apply bD | refine bS ?_ (IsS116.ge HI0.out))) hb); replace HI0 := ak (IsS116.below (by repeat (first | exact HI0.out | apply IsS116.alloc | apply IsS116.drewN | apply IsS116.drew | apply IsS116.set_1)) hb); clear hb ho51; obtain ⟨Ao52, co52, eo52⟩ := Kd.R_slice HO607.out; subst eo52) | ((with_reducible refine gate_dst (N := 74) rfl ?_); refine Kd.N_lit k64 _ 64 ?hg (N' := 74) ?hd (xs := ([(⟨y602⟩ : S64), (⟨y605⟩ : S64)] : List (S64))) (inner := [.slice Ao49 y602.length co49, .slice Ao52 y605.length co52]) (ok := (fun k_ => (w.heap.size ≤ k_) ∧ some k_ ≠ (u5 : Value).ownBlock ∧ k_ ≠ g)) (okp := (fun k_ => (w.heap.size ≤ k_) ∧ some k_ ≠ (u5 : Value).ownBlock ∧ k_ ≠ g)) ?hr ?hp (fun _ hk => hk) ((show ∀ k_, w50.heap.size ≤ k_ → (fun k_ => (w.heap.size ≤ k_) ∧ some k_ ≠ (u5 : Value).ownBlock ∧ k_ ≠ g) k_ from fun k_ hk => ⟨(Nat.le_trans (keep_size (w := w) (g := g) (row := none) (by repeat (first | exact HK.out | apply KeepBut.set_ | apply keep_drewN | apply keep_drew | apply keep_alloc))) hk), Kd.fresh' (Kd.N_lt (by (with_reducible repeat (first | apply Kd.N_alloc | apply Kd.N_drewN | apply Kd.N_drew)); exact HO_5.out)) k_ hk, IsS116.fresh (by repeat (first | exact HI0.out | apply IsS116.alloc | apply IsS116.drewN | apply IsS116.drew | apply IsS116.set_1)) k_ hk⟩) _ (Nat.le_refl _)) (Below.refl _ _) (Nat.le_refl _) (by simp) ?_; (case hd => rfl); (case hg => rfl); (case hr => first | (go_simp; done) | (go_simp; rfl)); (case hp => exact (Reps.one (show Kd.FK k64 _ _ (⟨y602⟩ : S64) [.slice Ao49 y602.length co49] from (k64_mkF _ _ (⟨y602⟩ : S64) (Kd.R_reads' (Kd.R_mono (ok' := (fun k_ => (w.heap.size ≤ k_) ∧ some k_ ≠ (u5 : Value).ownBlock ∧ k_ ≠ g)) (IsS116.apart HI0.out (Kd.R_apart' (HO604.out) (Kd.N_typed HO_5.out) (by decide)) (by decide)) (fun k_ hk => ⟨hk.1.1.1.1, ⟨hk.1.2, hk.2⟩⟩))).2.1 (Kd.R_F (Kd.R_mono (ok' := (fun k_ => (w.heap.size ≤ k_) ∧ some k_ ≠ (u5 : Value).ownBlock ∧ k_ ≠ g)) (IsS116.apart HI0.out (Kd.R_apart' (HO604.out) (Kd.N_typed HO_5.out) (by decide)) (by decide)) (fun k_ hk => ⟨hk.1.1.1.1, ⟨hk.1.2, hk.2⟩⟩))))) (Reps.one (show Kd.FK k64 _ _ (⟨y605⟩ : S64) [.slice Ao52 y605.length co52] from (k64_mkF _ _ (⟨y605⟩ : S64) (Kd.R_reads' (Kd.R_mono (ok' := (fun k_ => (w.heap.size ≤ k_) ∧ some k_ ≠ (u5 : Value).ownBlock ∧ k_ ≠ g)) (IsS116.apart HI0.out (Kd.R_apart' (HO607.out) (Kd.N_typed HO_5.out) (by decide)) (by decide)) (fun k_ hk => ⟨hk.1.1.1.1, ⟨hk.1.2, hk.2⟩⟩))).2.1 (Kd.R_F (Kd.R_mono (ok' := (fun k_ => (w.heap.size ≤ k_) ∧ some k_ ≠ (u5 : Value).ownBlock ∧ k_ ≠ g)) (IsS116.apart HI0.out (Kd.R_apart' (HO607.out) (Kd.N_typed HO_5.out) (by decide)) (by decide)) (fun k_ hk => ⟨hk.1.1.1.1, ⟨hk.1.2, hk.2⟩⟩))))) (Reps.none _ _)))); intro v609 w53 ho54 hb hg_ hnew_; clear hg_ hnew_; (first | rw [← Ny608.out] at ho54 | (simp only [Int.reduceToNat] at ho54; rw [← Ny608.out] at ho54)); replace HO_5 := ak (Kd.N_elder' (by (with_reducible repeat (first | apply Kd.N_alloc | apply Kd.N_drewN | apply Kd.N_drew)); exact HO_5.out) (Kd.N_base ho54) hb); have HO610 := ak (Kd.N_lower ho54 (keep_size (w := w) (g := g) (row := none) (by repeat (first | exact HK.out | apply KeepBut.set_ | apply keep_drewN | apply keep_drew | apply keep_alloc)))); replace HK := ak (KeepBut.trans (by repeat (first | exact HK.out | apply KeepBut.set_ | apply keep_drewN | apply keep_drew | apply keep_alloc)) (KeepBut.of_below hb g none) (.inl rfl)); replace HB := ak (below_step (by repeat (first | exact HB.out | apply bA | apply bN | apply bD | refine bS ?_ (IsS116.ge HI0.out))) hb); replace HI0 := ak (IsS116.below (by repeat (first | exact HI0.out | apply IsS116.alloc | apply IsS116.drewN | apply IsS116.drew | apply IsS116.set_1)) hb); clear HO604 HO607; clear hb ho54; obtain ⟨Ao56, co56, eo56⟩ := Kd.N_slice HO610.out; subst eo56) | ((with_reducible refine gate_builtin (b := .append) (xs := #[.tmp 66, .tmp 74]) rfl ?_); at_builtin; refine Kd.N_append_rows k64 w.heap.size rfl (.tmp 66) (.tmp 74) 34 64 (.agg #[(.slice none 0 0)]) 24 rfl Try.underlying34 info64 rfl (by decide) (by omega) u5 x5_1 y608 _ _ _ (fun k_ => (w.heap.size ≤ k_) ∧ k_ ≠ g) (fun k_ => ((fun k_ => (w.heap.size ≤ k_) ∧ k_ ≠ g)) k_ ∧ some k_ ≠ (u5 : Value).ownBlock) rfl rfl ?aO ?aR (fun _ hk => hk) ?aF (Below.refl _ _) ?aS ?aL ?_; (case aR => exact (by skip; exact Kd.N_F (Kd.N_mono (ok' := (fun k_ => ((fun k_ => (w.heap.size ≤ k_) ∧ k_ ≠ g)) k_ ∧ some k_ ≠ (u5 : Value).ownBlock)) (HO610.out) (fun k_ hk => ⟨⟨hk.1, hk.2.2⟩, hk.2.1⟩)))); (case aF => exact (fun k_ hk => ⟨(Nat.le_trans (keep_size (w := w) (g := g) (row := none) (by repeat (first | exact HK.out | apply KeepBut.set_ | apply keep_drewN | apply keep_drew | apply keep_alloc))) hk), IsS116.fresh (by repeat (first | exact HI0.out | apply IsS116.alloc | apply IsS116.drewN | apply IsS116.drew | apply IsS116.set_1)) k_ hk⟩)); (case aO => exact (by (with_reducible repeat (first | apply Kd.N_alloc | apply Kd.N_drewN | apply Kd.N_drew)); exact Kd.N_mono HO_5.out (fun _ hk => ⟨hk.1.1.1.1, hk.1.1.1.2⟩))); (case aS => exact (keep_size (w := w) (g := g) (row := none) (by repeat (first | exact HK.out | apply KeepBut.set_ | apply keep_drewN | apply keep_drew | apply keep_alloc)))); (case aL => have := LMc44.out; omega); intro v612 w55 ho hb hg hat; rw [← Ny611.out] at ho; replace HO610 := ak (Kd.N_afterv (ok := (fun k_ => (w.heap.size ≤ k_) ∧ k_ ≠ g)) (by (with_reducible repeat (first | apply Kd.N_alloc | apply Kd.N_drewN | apply Kd.N_drew)); exact Kd.N_mono HO610.out (fun _ hk => ⟨⟨hk.1, hk.2.2⟩, hk.2.1⟩)) hg hat); replace HB := ak (below_weaken (by repeat (first | exact HB.out | apply bA | apply bN | apply bD | refine bS ?_ (IsS116.ge HI0.out))) HL.out hb); replace HI0 := ak (IsS116.grown (by repeat (first | exact HI0.out | apply IsS116.alloc | apply IsS116.drewN | apply IsS116.drew | apply IsS116.set_1)) hg (IsS116.own_neN HI0.out HO_5.out (by decide))); replace HK := ak (KeepBut.trans (by repeat (first | exact HK.out | apply KeepBut.set_ | apply keep_drewN | apply keep_drew | apply keep_alloc)) (KeepBut.of_grown hg g) (Kd.N_base2 HO_5.out)); have HO613 := ak (ho); clear HO_5; clear ho hb hg hat))
        go_ret
        exact ⟨_, by first | rfl | (simp only [u8_w_, w64_u8_] <;> rfl) | (simp [errW_none, errW_some] <;> rfl) | (simp [*, errW_none, errW_some] <;> rfl), by (with_reducible repeat (first | apply Kd.N_alloc | apply Kd.N_drewN | apply Kd.N_drew)); exact Kd.N_mono HO613.out (fun _ hk => hk.1), by repeat (first | exact HI0.out | apply IsS116.alloc | apply IsS116.drewN | apply IsS116.drew | apply IsS116.set_1), by repeat (first | exact HB.out | apply bA | apply bN | apply bD | refine bS ?_ (IsS116.ge HI0.out)), by repeat (first | exact HK.out | apply KeepBut.set_ | apply keep_drewN | apply keep_drew | apply keep_alloc)⟩
       ·rw [if_neg c44] at H
        exact absurd H (by simp)
      ·rw [if_neg c43] at H
       have c43b0 : (t597 == 1) = false := beq_eq_false_iff_ne.mpr c43
       have c43b1 : (t597 != 1) = true := bne_iff_ne.mpr c43
       obtain ⟨y614, hy614⟩ : ∃ y_ : List (S71), y_ = (([(⟨(⟨#[118]⟩ : ByteArray), 0⟩ : S71), (⟨(⟨#[119]⟩ : ByteArray), 0⟩ : S71), (⟨(⟨#[120]⟩ : ByteArray), 0⟩ : S71), (⟨(⟨#[121]⟩ : ByteArray), 0⟩ : S71), (⟨(⟨#[122, 122]⟩ : ByteArray), 0⟩ : S71)] : List (S71))) := ⟨_, rfl⟩
       replace H : (if x5_1.length < 5864062014805 then (some ((x5_1 ++ [(⟨y614⟩ : S64)]), t598)) else (none)) = some (r1, r2) := by first | (rw [hy614]; exact H) | exact H
       have Ny614 := ak hy614
       clear hy614
       by_cases c57 : x5_1.length < 5864062014805
       ·rw [if_pos c57] at H
        have LMc57 := ak c57
        clear c57
        obtain ⟨y617, hy617⟩ : ∃ y_ : List (S64), y_ = (x5_1 ++ [(⟨y614⟩ : S64)]) := ⟨_, rfl⟩
        replace H : (some (y617, t598)) = some (r1, r2) := by first | (rw [hy617]; exact H) | exact H
        have Ny617 := ak hy617
        clear hy617
        simp only [Option.some.injEq, Prod.mk.injEq] at H
        obtain ⟨rfl, rfl⟩ := H
        go_wp2_with (first | ((with_reducible refine gate_callee (f := 105) rfl ?_); refine goesL_ (some 45) rfl rfl Try.func105 (by kernel_rfl) rfl #[.pointer (some ⟨g, 0, none⟩), .int .i64 a1] rfl (by (try simp only [List.map_toArray, List.map_cons, List.map_nil]); first | done | rfl | (simp only [List.length_drop, List.length_take]; rfl)) ?_; (with_reducible refine (spec_l20Rd_odd.calls k1 g s0_0 x1001_1 a1 true t596 w0 _ ?side1 ?side2 A35.out).mono ?_); (case side1 => repeat (first | exact HI0.out | apply IsS116.alloc | apply IsS116.drewN | apply IsS116.drew | apply IsS116.set_1)); (case side2 => repeat (first | exact HB.out | apply bA | apply bN | apply bD | refine bS ?_ (IsS116.ge HI0.out))); rintro e w58 ⟨rfl, hi, hb, hk⟩; refine ⟨_, rfl, ?_⟩; replace HO_5 := ak (Kd.N_mono (Kd.N_keep (Kd.N_mono (ok := fun k_ => (((w.heap.size ≤ k_)) ∧ k_ ≠ g)) (by (with_reducible repeat (first | apply Kd.N_alloc | apply Kd.N_drewN | apply Kd.N_drew)); exact HO_5.out) (fun k_ hk_ => (⟨hk_, hk_.2⟩ : _ ∧ k_ ≠ g))) hk (fun _ h => h.2)) (fun _ h => h.1)); replace HK := ak (KeepBut.trans (by repeat (first | exact HK.out | apply KeepBut.set_ | apply keep_drewN | apply keep_drew | apply keep_alloc)) hk (.inl rfl)); replace HB := ak (hb); replace HI0 := ak (hi); (try clear hb)) | ((with_reducible refine gate_callee (f := 102) rfl ?_); refine goesL_ (some 47) rfl rfl Try.func102 (by kernel_rfl) rfl #[.pointer (some ⟨g, 0, none⟩), .int .i64 3] rfl (by (try simp only [List.map_toArray, List.map_cons, List.map_nil]); first | done | rfl | (simp only [List.length_drop, List.length_take]; rfl)) ?_; (with_reducible refine (spec_l20Rd_pick.calls k1 g s0_0 t596 3 t597 t598 w0 _ ?side1 ?side2 A37.out).mono ?_); (case side1 => repeat (first | exact HI0.out | apply IsS116.alloc | apply IsS116.drewN | apply IsS116.drew | apply IsS116.set_1)); (case side2 => repeat (first | exact HB.out | apply bA | apply bN | apply bD | refine bS ?_ (IsS116.ge HI0.out))); rintro e w59 ⟨rfl, hi, hb, hk⟩; refine ⟨_, rfl, ?_⟩; replace HO_5 := ak (Kd.N_mono (Kd.N_keep (Kd.N_mono (ok := fun k_ => (((w.heap.size ≤ k_)) ∧ k_ ≠ g)) (by (with_reducible repeat (first | apply Kd.N_alloc | apply Kd.N_drewN | apply Kd.N_drew)); exact HO_5.out) (fun k_ hk_ => (⟨hk_, hk_.2⟩ : _ ∧ k_ ≠ g))) hk (fun _ h => h.2)) (fun _ h => h.1)); replace HK := ak (KeepBut.trans (by repeat (first | exact HK.out | apply KeepBut.set_ | apply keep_drewN | apply keep_drew | apply keep_alloc)) hk (.inl rfl)); replace HB := ak (hb); replace HI0 := ak (hi); (try clear hb)) | ((with_reducible refine gate_dst (N := 54) rfl ?_); refine Kd.R_lit k71 _ 71 ?hg (N := 54) ?hd (xs := ([(⟨(⟨#[118]⟩ : ByteArray), 0⟩ : S71), (⟨(⟨#[119]⟩ : ByteArray), 0⟩ : S71), (⟨(⟨#[120]⟩ : ByteArray), 0⟩ : S71), (⟨(⟨#[121]⟩ : ByteArray), 0⟩ : S71), (⟨(⟨#[122, 122]⟩ : ByteArray), 0⟩ : S71)] : List (S71))) (inner := [.string (⟨#[118]⟩ : ByteArray), .int .i64 0, .string (⟨#[119]⟩ : ByteArray), .int .i64 0, .string (⟨#[120]⟩ : ByteArray), .int .i64 0, .string (⟨#[121]⟩ : ByteArray), .int .i64 0, .string (⟨#[122, 122]⟩ : ByteArray), .int .i64 0]) (ok := fun _ => True) (okp := fun _ => True) ?hr ?hp (fun _ hk => hk) trivial (Below.refl _ _) (Nat.le_refl _) (by simp) ?_; (case hd => rfl); (case hg => rfl); (case hr => first | (go_simp; done) | (go_simp; rfl)); (case hp => exact (Reps.c2 (show Kd.M k71 _ _ _ (⟨(⟨#[118]⟩ : ByteArray), 0⟩ : S71) [.string (⟨#[118]⟩ : ByteArray), .int .i64 0] from (k71_mkM _ _ _ (⟨(⟨#[118]⟩ : ByteArray), 0⟩ : S71) )) (Reps.c2 (show Kd.M k71 _ _ _ (⟨(⟨#[119]⟩ : ByteArray), 0⟩ : S71) [.string (⟨#[119]⟩ : ByteArray), .int .i64 0] from (k71_mkM _ _ _ (⟨(⟨#[119]⟩ : ByteArray), 0⟩ : S71) )) (Reps.c2 (show Kd.M k71 _ _ _ (⟨(⟨#[120]⟩ : ByteArray), 0⟩ : S71) [.string (⟨#[120]⟩ : ByteArray), .int .i64 0] from (k71_mkM _ _ _ (⟨(⟨#[120]⟩ : ByteArray), 0⟩ : S71) )) (Reps.c2 (show Kd.M k71 _ _ _ (⟨(⟨#[121]⟩ : ByteArray), 0⟩ : S71) [.string (⟨#[121]⟩ : ByteArray), .int .i64 0] from (k71_mkM _ _ _ (⟨(⟨#[121]⟩ : ByteArray), 0⟩ : S71) )) (Reps.c2 (show Kd.M k71 _ _ _ (⟨(⟨#[122, 122]⟩ : ByteArray), 0⟩ : S71) [.string (⟨#[122, 122]⟩ : ByteArray), .int .i64 0] from (k71_mkM _ _ _ (⟨(⟨#[122, 122]⟩ : ByteArray), 0⟩ : S71) )) (Reps.none _ _))))))); intro v615 w60 ho61 hb hg_ hnew_; clear hg_ hnew_; (first | rw [← Ny614.out] at ho61 | (simp only [Int.reduceToNat] at ho61; rw [← Ny614.out] at ho61)); replace HO_5 := ak (Kd.N_elder' (by (with_reducible repeat (first | apply Kd.N_alloc | apply Kd.N_drewN | apply Kd.N_drew)); exact HO_5.out) (Kd.R_base ho61) hb); have HO616 := ak (Kd.R_lower (Kd.R_newM (M := fun k_ => (w.heap.size ≤ k_)) ho61 (keep_size (w := w) (g := g) (row := none) (by repeat (first | exact HK.out | apply KeepBut.set_ | apply keep_drewN | apply keep_drew | apply keep_alloc))) (fun k_ h_ => h_)) (keep_size (w := w) (g := g) (row := none) (by repeat (first | exact HK.out | apply KeepBut.set_ | apply keep_drewN | apply keep_drew | apply keep_alloc)))); replace HK := ak (KeepBut.trans (by repeat (first | exact HK.out | apply KeepBut.set_ | apply keep_drewN | apply keep_drew | apply keep_alloc)) (KeepBut.of_below hb g none) (.inl rfl)); replace HB := ak (below_step (by repeat (first | exact HB.out | apply bA | apply bN | apply bD | refine bS ?_ (IsS116.ge HI0.out))) hb); replace HI0 := ak (IsS116.below (by repeat (first | exact HI0.out | apply IsS116.alloc | apply IsS116.drewN | apply IsS116.drew | apply IsS116.set_1)) hb); clear hb ho61; obtain ⟨Ao62, co62, eo62⟩ := Kd.R_slice HO616.out; subst eo62) | ((with_reducible refine gate_builtin (b := .append) (xs := #[.tmp 48, .tmp 56]) rfl ?_); at_builtin; refine Kd.N_append k64 w.heap.size rfl (.tmp 48) (.tmp 56) 34 64 (.agg #[(.slice none 0 0)]) 24 rfl Try.underlying34 info64 rfl (by decide) (by omega) u5 x5_1 (⟨y614⟩ : S64) [.slice Ao62 y614.length co62] (fun k_ => (w.heap.size ≤ k_) ∧ k_ ≠ g) (fun k_ => ((fun k_ => (w.heap.size ≤ k_) ∧ k_ ≠ g)) k_ ∧ some k_ ≠ (u5 : Value).ownBlock) rfl rfl ?aP (fun _ hk => hk) ?aF ?aO (Below.refl _ _) ?aS ?aL ?_; (case aP => exact (k64_mkF _ _ (⟨y614⟩ : S64) (Kd.R_reads' (Kd.R_mono (ok' := (fun k_ => ((fun k_ => (w.heap.size ≤ k_) ∧ k_ ≠ g)) k_ ∧ some k_ ≠ (u5 : Value).ownBlock)) (IsS116.apart HI0.out (Kd.R_apart' (HO616.out) (Kd.N_typed HO_5.out) (by decide)) (by decide)) (fun k_ hk => ⟨⟨hk.1.1.1, hk.2⟩, hk.1.2⟩))).2.1 (Kd.R_F (Kd.R_mono (ok' := (fun k_ => ((fun k_ => (w.heap.size ≤ k_) ∧ k_ ≠ g)) k_ ∧ some k_ ≠ (u5 : Value).ownBlock)) (IsS116.apart HI0.out (Kd.R_apart' (HO616.out) (Kd.N_typed HO_5.out) (by decide)) (by decide)) (fun k_ hk => ⟨⟨hk.1.1.1, hk.2⟩, hk.1.2⟩))))); (case aF => exact (fun k_ hk => ⟨(Nat.le_trans (keep_size (w := w) (g := g) (row := none) (by repeat (first | exact HK.out | apply KeepBut.set_ | apply keep_drewN | apply keep_drew | apply keep_alloc))) hk), IsS116.fresh (by repeat (first | exact HI0.out | apply IsS116.alloc | apply IsS116.drewN | apply IsS116.drew | apply IsS116.set_1)) k_ hk⟩)); (case aO => exact (by (with_reducible repeat (first | apply Kd.N_alloc | apply Kd.N_drewN | apply Kd.N_drew)); exact Kd.N_mono HO_5.out (fun _ hk => ⟨hk.1.1, hk.1.2⟩))); (case aS => exact (keep_size (w := w) (g := g) (row := none) (by repeat (first | exact HK.out | apply KeepBut.set_ | apply keep_drewN | apply keep_drew | apply keep_alloc)))); (case aL => have := LMc57.out; omega); intro v618 w63 ho hb hg hat; rw [← Ny617.out] at ho; replace HB := ak (below_weaken (by repeat (first | exact HB.out | apply bA | apply bN | apply bD | refine bS ?_ (IsS116.ge HI0.out))) HL.out hb); replace HI0 := ak (IsS116.grown (by repeat (first | exact HI0.out | apply IsS116.alloc | apply IsS116.drewN | apply IsS116.drew | apply IsS116.set_1)) hg (IsS116.own_neN HI0.out HO_5.out (by decide))); replace HK := ak (KeepBut.trans (by repeat (first | exact HK.out | apply KeepBut.set_ | apply keep_drewN | apply keep_drew | apply keep_alloc)) (KeepBut.of_grown hg g) (Kd.N_base2 HO_5.out)); have HO619 := ak (ho); clear HO_5 HO616; clear ho hb hg hat))
        go_ret
        exact ⟨_, by first | rfl | (simp only [u8_w_, w64_u8_] <;> rfl) | (simp [errW_none, errW_some] <;> rfl) | (simp [*, errW_none, errW_some] <;> rfl), by (with_reducible repeat (first | apply Kd.N_alloc | apply Kd.N_drewN | apply Kd.N_drew)); exact Kd.N_mono HO619.out (fun _ hk => hk.1), by repeat (first | exact HI0.out | apply IsS116.alloc | apply IsS116.drewN | apply IsS116.drew | apply IsS116.set_1), by repeat (first | exact HB.out | apply bA | apply bN | apply bD | refine bS ?_ (IsS116.ge HI0.out)), by repeat (first | exact HK.out | apply KeepBut.set_ | apply keep_drewN | apply keep_drew | apply keep_alloc)⟩
       ·rw [if_neg c57] at H
        exact absurd H (by simp)
    ·replace c36 := Bool.eq_false_iff.mpr c36
     subst c36
     rw [if_neg (show ¬ (false = true) by decide)] at H
     simp only [Option.some.injEq, Prod.mk.injEq] at H
     obtain ⟨rfl, rfl⟩ := H
     go_wp2_with (first | ((with_reducible refine gate_callee (f := 105) rfl ?_); refine goesL_ (some 45) rfl rfl Try.func105 (by kernel_rfl) rfl #[.pointer (some ⟨g, 0, none⟩), .int .i64 a1] rfl (by (try simp only [List.map_toArray, List.map_cons, List.map_nil]); first | done | rfl | (simp only [List.length_drop, List.length_take]; rfl)) ?_; (with_reducible refine (spec_l20Rd_odd.calls k1 g s0_0 x1001_1 a1 false t596 w0 _ ?side1 ?side2 A35.out).mono ?_); (case side1 => repeat (first | exact HI0.out | apply IsS116.alloc | apply IsS116.drewN | apply IsS116.drew | apply IsS116.set_1)); (case side2 => repeat (first | exact HB.out | apply bA | apply bN | apply bD | refine bS ?_ (IsS116.ge HI0.out))); rintro e w64 ⟨rfl, hi, hb, hk⟩; refine ⟨_, rfl, ?_⟩; replace HO_5 := ak (Kd.N_mono (Kd.N_keep (Kd.N_mono (ok := fun k_ => (((w.heap.size ≤ k_)) ∧ k_ ≠ g)) (by (with_reducible repeat (first | apply Kd.N_alloc | apply Kd.N_drewN | apply Kd.N_drew)); exact HO_5.out) (fun k_ hk_ => (⟨hk_, hk_.2⟩ : _ ∧ k_ ≠ g))) hk (fun _ h => h.2)) (fun _ h => h.1)); replace HK := ak (KeepBut.trans (by repeat (first | exact HK.out | apply KeepBut.set_ | apply keep_drewN | apply keep_drew | apply keep_alloc)) hk (.inl rfl)); replace HB := ak (hb); replace HI0 := ak (hi); (try clear hb)))
     go_ret
     exact ⟨_, by first | rfl | (simp only [u8_w_, w64_u8_] <;> rfl) | (simp [errW_none, errW_some] <;> rfl) | (simp [*, errW_none, errW_some] <;> rfl), by (with_reducible repeat (first | apply Kd.N_alloc | apply Kd.N_drewN | apply Kd.N_drew)); exact Kd.N_mono HO_5.out (fun _ hk => hk.1), by repeat (first | exact HI0.out | apply IsS116.alloc | apply IsS116.drewN | apply IsS116.drew | apply IsS116.set_1), by repeat (first | exact HB.out | apply bA | apply bN | apply bD | refine bS ?_ (IsS116.ge HI0.out)), by repeat (first | exact HK.out | apply KeepBut.set_ | apply keep_drewN | apply keep_drew | apply keep_alloc)⟩

/-! ### spec_DrawPageFind: function 49 -/
def spec_DrawPageFind.f (k : Nat) (l0 : List Int) : Option ((List (S64)) × ByteArray) := (spec_l20Open.f l0).bind fun bt620 => ((spec_l20Pages.f k bt620.1 bt620.2 12).bind fun bt623 => ((spec_PagesList.f k bt623.1).bind fun t627 => ((spec_l20Near.f k bt620.1 bt623.2 t627 12).bind fun bt630 => (some (bt623.1, bt630.1)))))
theorem spec_DrawPageFind.mono : ∀ a0 k, LeO (spec_DrawPageFind.f k a0) (spec_DrawPageFind.f (k + 1) a0) := by
 intro a0 k
 unfold spec_DrawPageFind.f
 repeat' first
   | (with_reducible exact spec_PagesList.mono _ _)
   | (with_reducible exact spec_l20Near.mono _ _ _ _ _)
   | (with_reducible exact spec_l20Pages.mono _ _ _ _)
   | (with_reducible exact LeO.refl _)
   | (with_reducible exact LeO.none _)
   | (with_reducible refine LeO.ite ?_ ?_)
   | (with_reducible refine LeO.bind ?_ (fun _ => ?_))
   | exact LeO.none _
   | refine LeO.ite ?_ ?_
   | refine LeO.bind ?_ (fun _ => ?_)
theorem spec_DrawPageFind.calls (k : Nat) (A0 : Option Addr) (c0 : Nat) (l0 : List Int) (r1 : List (S64)) (r2 : ByteArray) (w : World) (hr0 : Kd.C (Kd.int .u8) w A0 l0.length l0) (hc0 : l0.length ≤ c0) (h : spec_DrawPageFind.f k l0 = some (r1, r2)) :
  Calls Try.prog 49 #[.slice A0 l0.length c0] w fun e w' => ∃ v0_ : Value, e = .returned (.tuple #[v0_, .string r2]) ∧ Kd.N k64 64 w' w.heap.size (fun k_ => (w.heap.size ≤ k_)) v0_ r1 ∧ Below w.heap.size w w' := by
 have HR0 := ak hr0
 have HC0 := ak hc0
 clear hr0 hc0
 have HB := ak (Below.refl w.heap.size w)
 have H : ((spec_l20Open.f l0).bind fun bt620 => ((spec_l20Pages.f k bt620.1 bt620.2 12).bind fun bt623 => ((spec_PagesList.f k bt623.1).bind fun t627 => ((spec_l20Near.f k bt620.1 bt623.2 t627 12).bind fun bt630 => (some (bt623.1, bt630.1)))))) = some (r1, r2) := h
 clear h
 replace H := Option.bind_eq_some_iff.mp H
 obtain ⟨⟨t620, t621⟩, A20, H⟩ := H
 try dsimp only at H
 have A2 := ak A20
 clear A20
 replace H := Option.bind_eq_some_iff.mp H
 obtain ⟨⟨t623, t626⟩, A30, H⟩ := H
 try dsimp only at H
 have A3 := ak A30
 clear A30
 replace H := Option.bind_eq_some_iff.mp H
 obtain ⟨t627, A40, H⟩ := H
 try dsimp only at H
 have A4 := ak A40
 clear A40
 replace H := Option.bind_eq_some_iff.mp H
 obtain ⟨⟨t630, t631⟩, A50, H⟩ := H
 try dsimp only at H
 have A5 := ak A50
 clear A50
 simp only [Option.some.injEq, Prod.mk.injEq] at H
 obtain ⟨rfl, rfl⟩ := H
 go_enter Try.func49, Try.ntmps49
 go_wp2_with (first | ((with_reducible refine gate_callee (f := 67) rfl ?_); refine goesL_ (some 7) rfl rfl Try.func67 (by kernel_rfl) rfl #[.slice A0 l0.length c0] rfl (by (try simp only [List.map_toArray, List.map_cons, List.map_nil]); first | done | rfl | (simp only [List.length_drop, List.length_take]; rfl)) ?_; (with_reducible refine (spec_l20Open.calls _ _ l0 t620 t621 w _ ?side1 ?side2 ?side3 A2.out).mono ?_); (case side1 => exact hopb HB.out); (case side2 => exact HR0.out); (case side3 => exact HC0.out); rintro e w6 ⟨g622, rfl, hi, hb, hb2⟩; refine ⟨_, rfl, ?_⟩; replace HB := ak (hb); have HI622 := ak (hi); (try clear hb)) | ((with_reducible refine gate_callee (f := 91) rfl ?_); refine goesL_ (some 9) rfl rfl Try.func91 (by kernel_rfl) rfl #[.pointer (some ⟨g622, 0, none⟩), .int .i64 12] rfl (by (try simp only [List.map_toArray, List.map_cons, List.map_nil]); first | done | rfl | (simp only [List.length_drop, List.length_take]; rfl)) ?_; (with_reducible refine (spec_l20Pages.calls k g622 t620 t621 12 t623 t626 w _ ?side1 ?side2 A3.out).mono ?_); (case side1 => repeat (first | exact HI622.out | apply IsS116.alloc | apply IsS116.drewN | apply IsS116.drew | apply IsS116.set_1)); (case side2 => repeat (first | exact HB.out | apply bA | apply bN | apply bD | refine bS ?_ (IsS116.ge HI622.out))); rintro e w7 ⟨v624, rfl, ho0, hi, hb, hk⟩; refine ⟨_, rfl, ?_⟩; have HO625 := ak (Kd.N_lower (Kd.N_mono (ok' := fun k_ => (w.heap.size ≤ k_) ∧ k_ ≠ g622) ho0 (fun k_ hk_ => ⟨(Nat.le_trans (below_size (by repeat (first | exact HB.out | apply bA | apply bN | apply bD | refine bS ?_ (IsS116.ge HI622.out)))) hk_), (IsS116.fresh (by repeat (first | exact HI622.out | apply IsS116.alloc | apply IsS116.drewN | apply IsS116.drew | apply IsS116.set_1)) k_ hk_)⟩)) (below_size (by repeat (first | exact HB.out | apply bA | apply bN | apply bD | refine bS ?_ (IsS116.ge HI622.out))))); replace HB := ak (hb); replace HI622 := ak (hi); (try clear hb); (try clear ho0); obtain ⟨Ao8, co8, eo8⟩ := Kd.N_slice HO625.out; subst eo8) | ((with_reducible refine gate_callee (f := 43) rfl ?_); refine goesL_ (some 13) rfl rfl Try.func43 (by kernel_rfl) rfl #[.slice Ao8 t623.length co8] rfl (by (try simp only [List.map_toArray, List.map_cons, List.map_nil]); first | done | rfl | (simp only [List.length_drop, List.length_take]; rfl)) ?_; (with_reducible refine (spec_PagesList.calls k _ _ t623 t627 _ ?side1 ?side2 A4.out).mono ?_); (case side1 => repeat (first | exact (Kd.N_reads' HO625.out).2.2 | (with_reducible refine Kd.C_alloc ?_ _) | (with_reducible refine Kd.C_drewN ?_ _) | (with_reducible refine Kd.C_drew ?_))); (case side2 => exact (Kd.N_reads' HO625.out).2.1); rintro e w9 ⟨v628, rfl, ho0, hb⟩; refine ⟨_, rfl, ?_⟩; replace HO625 := ak (Kd.N_elder' (by (with_reducible repeat (first | apply Kd.N_alloc | apply Kd.N_drewN | apply Kd.N_drew)); exact HO625.out) (Kd.R_base ho0) hb); have HO629 := ak (Kd.R_lower (Kd.R_newM (M := fun k_ => (w.heap.size ≤ k_)) ho0 (below_size (by repeat (first | exact HB.out | apply bA | apply bN | apply bD | refine bS ?_ (IsS116.ge HI622.out)))) (fun k_ h_ => h_)) (below_size (by repeat (first | exact HB.out | apply bA | apply bN | apply bD | refine bS ?_ (IsS116.ge HI622.out))))); replace HB := ak (below_step (by repeat (first | exact HB.out | apply bA | apply bN | apply bD | refine bS ?_ (IsS116.ge HI622.out))) hb); replace HI622 := ak (IsS116.below (by repeat (first | exact HI622.out | apply IsS116.alloc | apply IsS116.drewN | apply IsS116.drew | apply IsS116.set_1)) hb); (try clear hb); (try clear ho0); obtain ⟨Ao10, co10, eo10⟩ := Kd.R_slice HO629.out; subst eo10) | ((with_reducible refine gate_callee (f := 92) rfl ?_); refine goesL_ (some 14) rfl rfl Try.func92 (by kernel_rfl) rfl #[.pointer (some ⟨g622, 0, none⟩), .slice Ao10 t627.length co10, .int .i64 12] rfl (by (try simp only [List.map_toArray, List.map_cons, List.map_nil]); first | done | rfl | (simp only [List.length_drop, List.length_take]; rfl)) ?_; (with_reducible refine (spec_l20Near.calls k g622 t620 t626 _ _ t627 12 t630 t631 w _ ?side1 ?side2 ?side3 ?side4 A5.out).mono ?_); (case side1 => repeat (first | exact HI622.out | apply IsS116.alloc | apply IsS116.drewN | apply IsS116.drew | apply IsS116.set_1)); (case side2 => repeat (first | exact HB.out | apply bA | apply bN | apply bD | refine bS ?_ (IsS116.ge HI622.out))); (case side3 => exact Kd.C_foot_own (IsS116.apart (show IsS116 w _ g622 t620 t626 from by repeat (first | exact HI622.out | apply IsS116.alloc | apply IsS116.drewN | apply IsS116.drew | apply IsS116.set_1)) (by (with_reducible repeat (first | apply Kd.R_alloc | apply Kd.R_drewN | apply Kd.R_drew)); exact HO629.out) (by decide)) (fun _ h_ => h_.2)); (case side4 => exact (Kd.R_reads' HO629.out).2.1); rintro e w11 ⟨rfl, hi, hb, hk⟩; refine ⟨_, rfl, ?_⟩; replace HO625 := ak (Kd.N_mono (Kd.N_keep (Kd.N_mono (ok := fun k_ => ((((w.heap.size ≤ k_)) ∧ k_ ≠ g622) ∧ some k_ ≠ (.slice Ao10 t627.length co10 : Value).ownBlock)) (by (with_reducible repeat (first | apply Kd.N_alloc | apply Kd.N_drewN | apply Kd.N_drew)); exact HO625.out) (fun k_ hk_ => (⟨hk_, hk_.1.2⟩ : _ ∧ k_ ≠ g622))) hk (fun _ h => h.2)) (fun _ h => h.1)); replace HO629 := ak (Kd.R_mono (Kd.R_keep (IsS116.apart (show IsS116 w _ g622 t620 t626 from by repeat (first | exact HI622.out | apply IsS116.alloc | apply IsS116.drewN | apply IsS116.drew | apply IsS116.set_1)) (by (with_reducible repeat (first | apply Kd.R_alloc | apply Kd.R_drewN | apply Kd.R_drew)); exact HO629.out) (by decide)) hk (fun _ h => h.2)) (fun _ h => h.1)); replace HB := ak (hb); replace HI622 := ak (hi); (try clear hb)))
 go_ret2
 exact ⟨_, by first | rfl | (simp only [u8_w_, w64_u8_] <;> rfl) | (simp [errW_none, errW_some] <;> rfl) | (simp [*, errW_none, errW_some] <;> rfl), by (with_reducible repeat (first | apply Kd.N_alloc | apply Kd.N_drewN | apply Kd.N_drew)); exact Kd.N_mono HO625.out (fun _ hk => hk.1.1), by repeat (first | exact HB.out | apply bA | apply bN | apply bD | refine bS ?_ (IsS116.ge HI622.out))⟩

-- impl_Pair_string (function 108): told where it is called

/-! ### cmp_isNaN_string: function 116 -/
def cmp_isNaN_string.f (a0 : ByteArray) : Option (Bool) := some (a0.toList != a0.toList)
theorem cmp_isNaN_string.calls (a0 : ByteArray) (r : Bool) (w : World) (h : cmp_isNaN_string.f a0 = some r) :
  Calls Try.prog 116 #[.string a0] w fun e w' => e = .returned (.bool r) ∧ Drawn0 w w' := by
 have H : (some (a0.toList != a0.toList)) = some r := h
 clear h
 obtain rfl := Option.some.inj H
 go_enter Try.func116, Try.ntmps116
 go_wp2
 go_ret
 exact ⟨by first | rfl | (simp; done) | (simp [*]; done), by repeat (first | exact Drawn0.refl _ | apply Drawn0.step)⟩

/-! ### cmp_Compare_string: function 110 -/
def cmp_Compare_string.f (a0 : ByteArray) (a1 : ByteArray) : Option (Int) := (cmp_isNaN_string.f a0).bind fun t632 => ((cmp_isNaN_string.f a1).bind fun t633 => (if t632 = true then (if t633 = true then (some 0) else (some (-1))) else (if t633 = true then (some 1) else (if (Op.bytesLess a0.toList a1.toList) = true then (some (-1)) else (if a0.toList = a1.toList then (some 0) else (some 1))))))
theorem cmp_Compare_string.calls (a0 : ByteArray) (a1 : ByteArray) (r : Int) (w : World) (h : cmp_Compare_string.f a0 a1 = some r) :
  Calls Try.prog 110 #[.string a0, .string a1] w fun e w' => e = .returned (.int .i64 r) ∧ Drawn0 w w' := by
 have H : ((cmp_isNaN_string.f a0).bind fun t632 => ((cmp_isNaN_string.f a1).bind fun t633 => (if t632 = true then (if t633 = true then (some 0) else (some (-1))) else (if t633 = true then (some 1) else (if (Op.bytesLess a0.toList a1.toList) = true then (some (-1)) else (if a0.toList = a1.toList then (some 0) else (some 1))))))) = some r := h
 clear h
 replace H := Option.bind_eq_some_iff.mp H
 obtain ⟨t632, A30, H⟩ := H
 try dsimp only at H
 have A3 := ak A30
 clear A30
 replace H := Option.bind_eq_some_iff.mp H
 obtain ⟨t633, A40, H⟩ := H
 try dsimp only at H
 have A4 := ak A40
 clear A40
 by_cases c5 : t632 = true
 ·subst c5
  rw [if_pos rfl] at H
  by_cases c6 : t633 = true
  ·subst c6
   rw [if_pos rfl] at H
   obtain rfl := Option.some.inj H
   go_enter Try.func110, Try.ntmps110
   go_wp2_with (first | ((with_reducible refine gate_callee (f := 116) rfl ?_); refine goesL_ (some 8) rfl rfl Try.func116 (by kernel_rfl) rfl #[.string a0] rfl (by (try simp only [List.map_toArray, List.map_cons, List.map_nil]); first | done | rfl | (simp only [List.length_drop, List.length_take]; rfl)) ?_; (with_reducible refine (cmp_isNaN_string.calls a0 true _ A3.out).mono ?_); rintro e w' ⟨rfl, ⟨nd, rfl⟩⟩; refine ⟨_, rfl, ?_⟩) | ((with_reducible refine gate_callee (f := 116) rfl ?_); refine goesL_ (some 10) rfl rfl Try.func116 (by kernel_rfl) rfl #[.string a1] rfl (by (try simp only [List.map_toArray, List.map_cons, List.map_nil]); first | done | rfl | (simp only [List.length_drop, List.length_take]; rfl)) ?_; (with_reducible refine (cmp_isNaN_string.calls a1 true _ A4.out).mono ?_); rintro e w' ⟨rfl, ⟨nd, rfl⟩⟩; refine ⟨_, rfl, ?_⟩))
   go_ret
   exact ⟨by first | rfl | (simp; done) | (simp [*]; done), by repeat (first | exact Drawn0.refl _ | apply Drawn0.step)⟩
  ·replace c6 := Bool.eq_false_iff.mpr c6
   subst c6
   rw [if_neg (show ¬ (false = true) by decide)] at H
   obtain rfl := Option.some.inj H
   go_enter Try.func110, Try.ntmps110
   go_wp2_with (first | ((with_reducible refine gate_callee (f := 116) rfl ?_); refine goesL_ (some 8) rfl rfl Try.func116 (by kernel_rfl) rfl #[.string a0] rfl (by (try simp only [List.map_toArray, List.map_cons, List.map_nil]); first | done | rfl | (simp only [List.length_drop, List.length_take]; rfl)) ?_; (with_reducible refine (cmp_isNaN_string.calls a0 true _ A3.out).mono ?_); rintro e w' ⟨rfl, ⟨nd, rfl⟩⟩; refine ⟨_, rfl, ?_⟩) | ((with_reducible refine gate_callee (f := 116) rfl ?_); refine goesL_ (some 10) rfl rfl Try.func116 (by kernel_rfl) rfl #[.string a1] rfl (by (try simp only [List.map_toArray, List.map_cons, List.map_nil]); first | done | rfl | (simp only [List.length_drop, List.length_take]; rfl)) ?_; (with_reducible refine (cmp_isNaN_string.calls a1 false _ A4.out).mono ?_); rintro e w' ⟨rfl, ⟨nd, rfl⟩⟩; refine ⟨_, rfl, ?_⟩))
   go_ret
   exact ⟨by first | rfl | (simp; done) | (simp [*]; done), by repeat (first | exact Drawn0.refl _ | apply Drawn0.step)⟩
 ·replace c5 := Bool.eq_false_iff.mpr c5
  subst c5
  rw [if_neg (show ¬ (false = true) by decide)] at H
  by_cases c7 : t633 = true
  ·subst c7
   rw [if_pos rfl] at H
   obtain rfl := Option.some.inj H
   go_enter Try.func110, Try.ntmps110
   go_wp2_with (first | ((with_reducible refine gate_callee (f := 116) rfl ?_); refine goesL_ (some 8) rfl rfl Try.func116 (by kernel_rfl) rfl #[.string a0] rfl (by (try simp only [List.map_toArray, List.map_cons, List.map_nil]); first | done | rfl | (simp only [List.length_drop, List.length_take]; rfl)) ?_; (with_reducible refine (cmp_isNaN_string.calls a0 false _ A3.out).mono ?_); rintro e w' ⟨rfl, ⟨nd, rfl⟩⟩; refine ⟨_, rfl, ?_⟩) | ((with_reducible refine gate_callee (f := 116) rfl ?_); refine goesL_ (some 10) rfl rfl Try.func116 (by kernel_rfl) rfl #[.string a1] rfl (by (try simp only [List.map_toArray, List.map_cons, List.map_nil]); first | done | rfl | (simp only [List.length_drop, List.length_take]; rfl)) ?_; (with_reducible refine (cmp_isNaN_string.calls a1 true _ A4.out).mono ?_); rintro e w' ⟨rfl, ⟨nd, rfl⟩⟩; refine ⟨_, rfl, ?_⟩))
   go_ret
   exact ⟨by first | rfl | (simp; done) | (simp [*]; done), by repeat (first | exact Drawn0.refl _ | apply Drawn0.step)⟩
  ·replace c7 := Bool.eq_false_iff.mpr c7
   subst c7
   rw [if_neg (show ¬ (false = true) by decide)] at H
   by_cases c8 : (Op.bytesLess a0.toList a1.toList) = true
   ·rw [if_pos c8] at H
    have c8b0 : (Op.bytesLess a0.toList a1.toList) = true := c8
    clear c8
    obtain rfl := Option.some.inj H
    go_enter Try.func110, Try.ntmps110
    go_wp2_with (first | ((with_reducible refine gate_callee (f := 116) rfl ?_); refine goesL_ (some 8) rfl rfl Try.func116 (by kernel_rfl) rfl #[.string a0] rfl (by (try simp only [List.map_toArray, List.map_cons, List.map_nil]); first | done | rfl | (simp only [List.length_drop, List.length_take]; rfl)) ?_; (with_reducible refine (cmp_isNaN_string.calls a0 false _ A3.out).mono ?_); rintro e w' ⟨rfl, ⟨nd, rfl⟩⟩; refine ⟨_, rfl, ?_⟩) | ((with_reducible refine gate_callee (f := 116) rfl ?_); refine goesL_ (some 10) rfl rfl Try.func116 (by kernel_rfl) rfl #[.string a1] rfl (by (try simp only [List.map_toArray, List.map_cons, List.map_nil]); first | done | rfl | (simp only [List.length_drop, List.length_take]; rfl)) ?_; (with_reducible refine (cmp_isNaN_string.calls a1 false _ A4.out).mono ?_); rintro e w' ⟨rfl, ⟨nd, rfl⟩⟩; refine ⟨_, rfl, ?_⟩))
    go_ret
    exact ⟨by first | rfl | (simp; done) | (simp [*]; done), by repeat (first | exact Drawn0.refl _ | apply Drawn0.step)⟩
   ·rw [if_neg c8] at H
    have c8b0 : (Op.bytesLess a0.toList a1.toList) = false := by simpa using c8
    clear c8
    by_cases c9 : a0.toList = a1.toList
    ·rw [if_pos c9] at H
     have c9b0 : (a0.toList == a1.toList) = true := beq_iff_eq.mpr c9
     have c9b1 : (a0.toList != a1.toList) = false := bne_eq_false_iff_eq.mpr c9
     clear c9
     obtain rfl := Option.some.inj H
     go_enter Try.func110, Try.ntmps110
     go_wp2_with (first | ((with_reducible refine gate_callee (f := 116) rfl ?_); refine goesL_ (some 8) rfl rfl Try.func116 (by kernel_rfl) rfl #[.string a0] rfl (by (try simp only [List.map_toArray, List.map_cons, List.map_nil]); first | done | rfl | (simp only [List.length_drop, List.length_take]; rfl)) ?_; (with_reducible refine (cmp_isNaN_string.calls a0 false _ A3.out).mono ?_); rintro e w' ⟨rfl, ⟨nd, rfl⟩⟩; refine ⟨_, rfl, ?_⟩) | ((with_reducible refine gate_callee (f := 116) rfl ?_); refine goesL_ (some 10) rfl rfl Try.func116 (by kernel_rfl) rfl #[.string a1] rfl (by (try simp only [List.map_toArray, List.map_cons, List.map_nil]); first | done | rfl | (simp only [List.length_drop, List.length_take]; rfl)) ?_; (with_reducible refine (cmp_isNaN_string.calls a1 false _ A4.out).mono ?_); rintro e w' ⟨rfl, ⟨nd, rfl⟩⟩; refine ⟨_, rfl, ?_⟩))
     go_ret
     exact ⟨by first | rfl | (simp; done) | (simp [*]; done), by repeat (first | exact Drawn0.refl _ | apply Drawn0.step)⟩
    ·rw [if_neg c9] at H
     have c9b0 : (a0.toList == a1.toList) = false := beq_eq_false_iff_ne.mpr c9
     have c9b1 : (a0.toList != a1.toList) = true := bne_iff_ne.mpr c9
     obtain rfl := Option.some.inj H
     go_enter Try.func110, Try.ntmps110
     go_wp2_with (first | ((with_reducible refine gate_callee (f := 116) rfl ?_); refine goesL_ (some 8) rfl rfl Try.func116 (by kernel_rfl) rfl #[.string a0] rfl (by (try simp only [List.map_toArray, List.map_cons, List.map_nil]); first | done | rfl | (simp only [List.length_drop, List.length_take]; rfl)) ?_; (with_reducible refine (cmp_isNaN_string.calls a0 false _ A3.out).mono ?_); rintro e w' ⟨rfl, ⟨nd, rfl⟩⟩; refine ⟨_, rfl, ?_⟩) | ((with_reducible refine gate_callee (f := 116) rfl ?_); refine goesL_ (some 10) rfl rfl Try.func116 (by kernel_rfl) rfl #[.string a1] rfl (by (try simp only [List.map_toArray, List.map_cons, List.map_nil]); first | done | rfl | (simp only [List.length_drop, List.length_take]; rfl)) ?_; (with_reducible refine (cmp_isNaN_string.calls a1 false _ A4.out).mono ?_); rintro e w' ⟨rfl, ⟨nd, rfl⟩⟩; refine ⟨_, rfl, ?_⟩))
     go_ret
     exact ⟨by first | rfl | (simp; done) | (simp [*]; done), by repeat (first | exact Drawn0.refl _ | apply Drawn0.step)⟩

/-! ### impl_pairPlace_1: function 109 -/
def impl_pairPlace_1.f (a0_0 : ByteArray) (a0_1 : Int) (a1 : ByteArray) : Option (Int) := (cmp_Compare_string.f a0_0 a1).bind fun t635 => (some t635)
theorem impl_pairPlace_1.calls (a0_0 : ByteArray) (a0_1 : Int) (a1 : ByteArray) (r : Int) (w : World) (h : impl_pairPlace_1.f a0_0 a0_1 a1 = some r) :
  Calls Try.prog 109 #[.agg #[.string a0_0, .int .i64 a0_1], .string a1] w fun e w' => e = .returned (.int .i64 r) ∧ Below w.heap.size w w' := by
 have hu71 := Try.underlying71
 have HB := ak (Below.refl w.heap.size w)
 have H : ((cmp_Compare_string.f a0_0 a1).bind fun t635 => (some t635)) = some r := h
 clear h
 replace H := Option.bind_eq_some_iff.mp H
 obtain ⟨t635, A30, H⟩ := H
 try dsimp only at H
 have A3 := ak A30
 clear A30
 obtain rfl := Option.some.inj H
 go_enter Try.func109, Try.ntmps109
 go_wp2_with (first | ((with_reducible refine gate_dst (N := 2) rfl ?_); refine box_event ?hg (N := 2) ?hd (cs := #[.string a0_0, .int .i64 a0_1]) (t := 71) ?hr ?_; (case hd => rfl); (case hg => rfl); (case hr => first | (go_simp; done) | (go_simp; rfl)); intro gb634 hg w4 hbox hb; have n0_ := ak (below_step (by exact hopb HB.out) hb); have n1_ := ak (hbox); have n2_ := ak ((by rw [hg]; exact (below_size (by exact hopb HB.out)) : w.heap.size ≤ gb634)); have n3_ := n2_; clear HB; have HB := n0_; have BK634 := n1_; have GW634 := n2_; have GE634 := n3_; clear n0_ n1_ n2_ n3_; clear hb hbox hg; have hcz5_0 : w4.cell? ⟨gb634, 0, none⟩ = some (.string a0_0) := (blk_cell BK634.out 0).trans rfl; have hcz5_1 : w4.cell? ⟨gb634, 1, none⟩ = some (.int .i64 a0_1) := (blk_cell BK634.out 1).trans rfl; have hfz5_0 := blk_frozen BK634.out 0; have hfz5_1 := blk_frozen BK634.out 1) | ((with_reducible refine gate_callee (f := 110) rfl ?_); refine goesL_ (some 8) rfl rfl Try.func110 (by kernel_rfl) rfl #[.string a0_0, .string a1] rfl (by (try simp only [List.map_toArray, List.map_cons, List.map_nil]); first | done | rfl | (simp only [List.length_drop, List.length_take]; rfl)) ?_; (with_reducible refine (cmp_Compare_string.calls a0_0 a1 t635 _ A3.out).mono ?_); rintro e w' ⟨rfl, ⟨nd, rfl⟩⟩; refine ⟨_, rfl, ?_⟩))
 go_ret
 exact ⟨by first | rfl | (simp only [u8_w_, w64_u8_] <;> rfl) | (simp [errW_none, errW_some] <;> rfl) | (simp [*, errW_none, errW_some] <;> rfl), by repeat (first | exact HB.out | apply bA | apply bN | apply bD | refine bS ?_ GE634.out)⟩

/-! ### impl_pairPlace: function 85 -/
/-- what cmp.Compare says of two strings -/
def impl_pairPlace.cs (a b : ByteArray) : Int := if (Op.bytesLess a.toList b.toList) = true then -1 else if a.toList = b.toList then 0 else 1
/-- the search between lo and hi, with so many rounds left -/
def impl_pairPlace.bs (l : List (S71)) (key : ByteArray) : Nat → Nat → Nat → Option (Int × Bool)
 | 0, _, _ => none
 | k + 1, lo, hi => if lo < hi then (if impl_pairPlace.cs (rd_T71 l (((lo + hi) / 2 : Nat) : Int)).f0 key < 0 then impl_pairPlace.bs l key k ((lo + hi) / 2 + 1) hi else impl_pairPlace.bs l key k lo ((lo + hi) / 2))
   else if lo < l.length then some ((lo : Int), decide (impl_pairPlace.cs (rd_T71 l (lo : Int)).f0 key = 0)) else some ((lo : Int), false)
def impl_pairPlace.f (l0 : List (S71)) (a1 : ByteArray) : Option (Int × Bool) := if l0.length < 5864062014805 then impl_pairPlace.bs l0 a1 (l0.length + 1) 0 l0.length else none
theorem impl_pairPlace.cmp_f (a0 : ByteArray) (a1 : Int) (b : ByteArray) : impl_pairPlace_1.f a0 a1 b = some (impl_pairPlace.cs a0 b) := by
 unfold impl_pairPlace_1.f cmp_Compare_string.f cmp_isNaN_string.f impl_pairPlace.cs
 simp only [bne_self_eq_false, Option.bind_some, Bool.false_eq_true, if_false]
 by_cases h1 : (Op.bytesLess a0.toList b.toList) = true
 ·simp only [if_pos h1, Option.bind_some]
 ·by_cases h2 : a0.toList = b.toList
  ·simp only [if_neg h1, if_pos h2, Option.bind_some]
  ·simp only [if_neg h1, if_neg h2, Option.bind_some]
theorem impl_pairPlace.search (A0 : Option Addr) (c0 : Nat) (l0 : List (S71)) (key : ByteArray) (r1 : Int) (r2 : Bool) (w : World) (hr0 : Kd.C k71 w A0 l0.length l0) (hl : l0.length < 5864062014805) (h : impl_pairPlace.bs l0 key (l0.length + 1) 0 l0.length = some (r1, r2)) :
  Calls Try.prog 108 #[.slice A0 l0.length c0, .string key, .func (.func 109) #[] #[]] w fun e w' => e = .returned (.tuple #[.int .i64 r1, .bool r2]) ∧ Below w.heap.size w w' := by
 have hu71 := Try.underlying71
 have HR0 := ak hr0
 clear hr0
 have H' := ak h
 clear h
 have HB := ak (Below.refl w.heap.size w)
 go_enter Try.func108, Try.ntmps108
 go_wp2
 go_loopg [9, 10] l0.length (fun kx s9 s10 wr => ∃ lo hi fuel : Nat, s9 = .int .i64 lo ∧ s10 = .int .i64 hi ∧ lo ≤ hi ∧ hi ≤ l0.length ∧ hi - lo ≤ kx ∧ Aside0 (impl_pairPlace.bs l0 key fuel lo hi = some (r1, r2)) ∧ Aside0 (Below w.heap.size w wr))
 case atStart => exact ⟨0, l0.length, l0.length + 1, rfl, rfl, Nat.zero_le _, Nat.le_refl _, by omega, H', HB⟩
 case round =>
  clear H' HB
  obtain ⟨lo, hi, fuel, rfl, rfl, hlh, hin, hg, HA, HB⟩ := hrel
  cases fuel with
  | zero => exact absurd HA.out (by simp [impl_pairPlace.bs])
  | succ fuel =>
   have H := HA.out
   clear HA
   rw [impl_pairPlace.bs] at H
   by_cases hlt : lo < hi
   ·rw [if_pos hlt] at H
    obtain ⟨ad, e0, hx0, hx1⟩ := at_T71 HR0.out (((lo + hi) / 2 : Nat) : Int) (by omega) (by omega)
    cases e0
    replace hx0 := bc HB.out hx0
    replace hx1 := bc HB.out hx1
    simp only [Int.toNat_natCast] at hx0 hx1
    have hcf := impl_pairPlace.cmp_f (rd_T71 l0 (((lo + hi) / 2 : Nat) : Int)).f0 (rd_T71 l0 (((lo + hi) / 2 : Nat) : Int)).f1 key
    generalize hcc : impl_pairPlace.cs (rd_T71 l0 (((lo + hi) / 2 : Nat) : Int)).f0 key = cv at H hcf
    clear hcc
    have HCF := ak hcf
    clear hcf
    generalize (rd_T71 l0 (((lo + hi) / 2 : Nat) : Int)).f0 = kf at hx0 HCF
    generalize (rd_T71 l0 (((lo + hi) / 2 : Nat) : Int)).f1 = vf at hx1 HCF
    by_cases hc : cv < 0
    ·rw [if_pos hc] at H
     have H2 := ak H
     clear H
     go_wp2_with (go_at_call 109; (with_reducible refine (impl_pairPlace_1.calls kf vf key cv _ HCF.out).mono ?_); rintro e w1 ⟨rfl, hb⟩; have HB1 := ak (below_step (by exact hopb HB.out) hb); clear hb)
     go_roundg (hi - ((lo + hi) / 2 + 1))
     case measure => omega
     case rel => exact ⟨(lo + hi) / 2 + 1, hi, fuel, by rw [show ((lo : Int) + (hi : Int)) / 2 + 1 = (((lo + hi) / 2 + 1 : Nat) : Int) by omega], rfl, by omega, hin, Nat.le_refl _, H2, HB1⟩
    ·rw [if_neg hc] at H
     have H2 := ak H
     clear H
     go_wp2_with (go_at_call 109; (with_reducible refine (impl_pairPlace_1.calls kf vf key cv _ HCF.out).mono ?_); rintro e w1 ⟨rfl, hb⟩; have HB1 := ak (below_step (by exact hopb HB.out) hb); clear hb)
     go_roundg ((lo + hi) / 2 - lo)
     case measure => omega
     case rel => exact ⟨lo, (lo + hi) / 2, fuel, rfl, by rw [show ((lo : Int) + (hi : Int)) / 2 = (((lo + hi) / 2 : Nat) : Int) by omega], by omega, by omega, Nat.le_refl _, H2, HB1⟩
   ·rw [if_neg hlt] at H
    obtain rfl : hi = lo := by omega
    by_cases hn : hi < l0.length
    ·rw [if_pos hn] at H
     simp only [Option.some.injEq, Prod.mk.injEq] at H
     obtain ⟨rfl, rfl⟩ := H
     obtain ⟨ad, e0, hx0, hx1⟩ := at_T71 HR0.out (hi : Int) (by omega) (by omega)
     cases e0
     replace hx0 := bc HB.out hx0
     replace hx1 := bc HB.out hx1
     simp only [Int.toNat_natCast] at hx0 hx1
     have hcf := impl_pairPlace.cmp_f (rd_T71 l0 (hi : Int)).f0 (rd_T71 l0 (hi : Int)).f1 key
     generalize hcv : impl_pairPlace.cs (rd_T71 l0 (hi : Int)).f0 key = cv at hcf
     have HCV := ak hcv
     have HCF := ak hcf
     clear hcf hcv
     generalize (rd_T71 l0 (hi : Int)).f0 = kf at hx0 HCF
     generalize (rd_T71 l0 (hi : Int)).f1 = vf at hx1 HCF
     by_cases hc : cv = 0
     ·subst hc
      go_wp2_with (go_at_call 109; (with_reducible refine (impl_pairPlace_1.calls kf vf key 0 _ HCF.out).mono ?_); rintro e w1 ⟨rfl, hb⟩; have HB1 := ak (below_step (by exact hopb HB.out) hb); clear hb)
      go_ret2
      exact ⟨by rw [HCV.out]; first | rfl | simp, HB1.out⟩
     ·have hcb : (cv == 0) = false := beq_eq_false_iff_ne.mpr hc
      go_wp2_with (go_at_call 109; (with_reducible refine (impl_pairPlace_1.calls kf vf key cv _ HCF.out).mono ?_); rintro e w1 ⟨rfl, hb⟩; have HB1 := ak (below_step (by exact hopb HB.out) hb); clear hb)
      go_ret2
      exact ⟨by rw [HCV.out]; first | rfl | simp [hc], HB1.out⟩
    ·rw [if_neg hn] at H
     simp only [Option.some.injEq, Prod.mk.injEq] at H
     obtain ⟨rfl, rfl⟩ := H
     go_wp2
     go_ret2
     exact ⟨by first | rfl | simp, by exact hopb HB.out⟩
theorem impl_pairPlace.calls (A0 : Option Addr) (c0 : Nat) (l0 : List (S71)) (a1 : ByteArray) (r1 : Int) (r2 : Bool) (w : World) (hr0 : Kd.C k71 w A0 l0.length l0) (hc0 : l0.length ≤ c0) (h : impl_pairPlace.f l0 a1 = some (r1, r2)) :
  Calls Try.prog 85 #[.slice A0 l0.length c0, .string a1] w fun e w' => e = .returned (.tuple #[.int .i64 r1, .bool r2]) ∧ Below w.heap.size w w' := by
 have HR0 := ak hr0
 clear hr0 hc0
 have H : (if l0.length < 5864062014805 then impl_pairPlace.bs l0 a1 (l0.length + 1) 0 l0.length else none) = some (r1, r2) := h
 clear h
 by_cases c3 : l0.length < 5864062014805
 ·rw [if_pos c3] at H
  have LM := ak c3
  clear c3
  have HA := ak H
  clear H
  go_enter Try.func85, Try.ntmps85
  go_wp2_with (go_at_call 108; (with_reducible refine (impl_pairPlace.search A0 c0 l0 a1 r1 r2 _ HR0.out LM.out HA.out).mono ?_); rintro e w1 ⟨rfl, hb⟩; have HB1 := ak hb; clear hb)
  go_ret2
  exact ⟨rfl, HB1.out⟩
 ·rw [if_neg c3] at H
  exact absurd H (by simp)

/-! ### impl_PairGet: function 51 -/
def impl_PairGet.f (k : Nat) (l0 : List (S71)) (a1 : ByteArray) : Option (Int) := (impl_PairsValid.f k l0).bind fun t636 => (if t636 = true then ((impl_pairPlace.f l0 a1).bind fun bt637 => (if bt637.2 = true then (if 0 ≤ bt637.1 then (if bt637.1 < (l0.length : Int) then (some ((rd_T71 l0 bt637.1).f1)) else (none)) else (none)) else (some (-1)))) else (some (-1)))
theorem impl_PairGet.mono : ∀ a0 a1 k, LeO (impl_PairGet.f k a0 a1) (impl_PairGet.f (k + 1) a0 a1) := by
 intro a0 a1 k
 unfold impl_PairGet.f
 repeat' first
   | (with_reducible exact impl_PairsValid.mono _ _)
   | (with_reducible exact LeO.refl _)
   | (with_reducible exact LeO.none _)
   | (with_reducible refine LeO.ite ?_ ?_)
   | (with_reducible refine LeO.bind ?_ (fun _ => ?_))
   | exact LeO.none _
   | refine LeO.ite ?_ ?_
   | refine LeO.bind ?_ (fun _ => ?_)
theorem impl_PairGet.calls (k : Nat) (A0 : Option Addr) (c0 : Nat) (l0 : List (S71)) (a1 : ByteArray) (r : Int) (w : World) (hr0 : Kd.C k71 w A0 l0.length l0) (hc0 : l0.length ≤ c0) (h : impl_PairGet.f k l0 a1 = some r) :
  Calls Try.prog 51 #[.slice A0 l0.length c0, .string a1] w fun e w' => e = .returned (.int .i64 r) ∧ Below w.heap.size w w' := by
 have HR0 := ak hr0
 have HC0 := ak hc0
 clear hr0 hc0
 have HB := ak (Below.refl w.heap.size w)
 have H : ((impl_PairsValid.f k l0).bind fun t636 => (if t636 = true then ((impl_pairPlace.f l0 a1).bind fun bt637 => (if bt637.2 = true then (if 0 ≤ bt637.1 then (if bt637.1 < (l0.length : Int) then (some ((rd_T71 l0 bt637.1).f1)) else (none)) else (none)) else (some (-1)))) else (some (-1)))) = some r := h
 clear h
 replace H := Option.bind_eq_some_iff.mp H
 obtain ⟨t636, A30, H⟩ := H
 try dsimp only at H
 have A3 := ak A30
 clear A30
 by_cases c4 : t636 = true
 ·subst c4
  rw [if_pos rfl] at H
  replace H := Option.bind_eq_some_iff.mp H
  obtain ⟨⟨t637, t638⟩, A50, H⟩ := H
  try dsimp only at H
  have A5 := ak A50
  clear A50
  by_cases c6 : t638 = true
  ·subst c6
   rw [if_pos rfl] at H
   by_cases c7 : 0 ≤ t637
   ·rw [if_pos c7] at H
    have c7b0 : decide (0 ≤ t637) = true := decide_eq_true c7
    clear c7
    by_cases c8 : t637 < (l0.length : Int)
    ·rw [if_pos c8] at H
     have c8b0 : decide (t637 < (l0.length : Int)) = true := decide_eq_true c8
     clear c8
     obtain rfl := Option.some.inj H
     go_enter Try.func51, Try.ntmps51
     go_wp2_with (first | ((with_reducible refine gate_callee (f := 26) rfl ?_); refine goesL_ (some 8) rfl rfl Try.func26 (by kernel_rfl) rfl #[.slice A0 l0.length c0] rfl (by (try simp only [List.map_toArray, List.map_cons, List.map_nil]); first | done | rfl | (simp only [List.length_drop, List.length_take]; rfl)) ?_; (with_reducible refine (impl_PairsValid.calls k _ _ l0 true _ ?side1 ?side2 A3.out).mono ?_); (case side1 => repeat (first | exact HR0.out | (with_reducible refine Kd.C_alloc ?_ _) | (with_reducible refine Kd.C_drewN ?_ _) | (with_reducible refine Kd.C_drew ?_))); (case side2 => exact HC0.out); rintro e w9 ⟨rfl, hb⟩; refine ⟨_, rfl, ?_⟩; replace HB := ak (below_step (by exact hopb HB.out) hb); (try clear hb)) | ((with_reducible refine gate_callee (f := 85) rfl ?_); refine goesL_ (some 13) rfl rfl Try.func85 (by kernel_rfl) rfl #[.slice A0 l0.length c0, .string a1] rfl (by (try simp only [List.map_toArray, List.map_cons, List.map_nil]); first | done | rfl | (simp only [List.length_drop, List.length_take]; rfl)) ?_; (with_reducible refine (impl_pairPlace.calls _ _ l0 a1 t637 true _ ?side1 ?side2 A5.out).mono ?_); (case side1 => repeat (first | exact (Kd.C_below HR0.out HB.out) | (with_reducible refine Kd.C_alloc ?_ _) | (with_reducible refine Kd.C_drewN ?_ _) | (with_reducible refine Kd.C_drew ?_))); (case side2 => exact HC0.out); rintro e w10 ⟨rfl, hb⟩; refine ⟨_, rfl, ?_⟩; replace HB := ak (below_step (by exact hopb HB.out) hb); (try clear hb); have p639 : 0 ≤ (t637 : Int) := of_decide_eq_true (by assumption); have q639 : t637 < (l0.length : Int) := of_decide_eq_true (by assumption); obtain ⟨ad639, e639, hx639_0, hx639_1⟩ := at_T71 HR0.out t637 p639 q639; cases e639; replace hx639_0 := (HB.out.cell (World.block_lt_of_cell? w _ hx639_0)).trans hx639_0; replace hx639_1 := (HB.out.cell (World.block_lt_of_cell? w _ hx639_1)).trans hx639_1; replace p639 := eq_true p639; replace q639 := eq_true q639))
     go_ret
     exact ⟨by first | rfl | (simp only [u8_w_, w64_u8_] <;> rfl) | (simp [errW_none, errW_some] <;> rfl) | (simp [*, errW_none, errW_some] <;> rfl), by exact hopb HB.out⟩
    ·rw [if_neg c8] at H
     exact absurd H (by simp)
   ·rw [if_neg c7] at H
    exact absurd H (by simp)
  ·replace c6 := Bool.eq_false_iff.mpr c6
   subst c6
   rw [if_neg (show ¬ (false = true) by decide)] at H
   obtain rfl := Option.some.inj H
   go_enter Try.func51, Try.ntmps51
   go_wp2_with (first | ((with_reducible refine gate_callee (f := 26) rfl ?_); refine goesL_ (some 8) rfl rfl Try.func26 (by kernel_rfl) rfl #[.slice A0 l0.length c0] rfl (by (try simp only [List.map_toArray, List.map_cons, List.map_nil]); first | done | rfl | (simp only [List.length_drop, List.length_take]; rfl)) ?_; (with_reducible refine (impl_PairsValid.calls k _ _ l0 true _ ?side1 ?side2 A3.out).mono ?_); (case side1 => repeat (first | exact HR0.out | (with_reducible refine Kd.C_alloc ?_ _) | (with_reducible refine Kd.C_drewN ?_ _) | (with_reducible refine Kd.C_drew ?_))); (case side2 => exact HC0.out); rintro e w11 ⟨rfl, hb⟩; refine ⟨_, rfl, ?_⟩; replace HB := ak (below_step (by exact hopb HB.out) hb); (try clear hb)) | ((with_reducible refine gate_callee (f := 85) rfl ?_); refine goesL_ (some 13) rfl rfl Try.func85 (by kernel_rfl) rfl #[.slice A0 l0.length c0, .string a1] rfl (by (try simp only [List.map_toArray, List.map_cons, List.map_nil]); first | done | rfl | (simp only [List.length_drop, List.length_take]; rfl)) ?_; (with_reducible refine (impl_pairPlace.calls _ _ l0 a1 t637 false _ ?side1 ?side2 A5.out).mono ?_); (case side1 => repeat (first | exact (Kd.C_below HR0.out HB.out) | (with_reducible refine Kd.C_alloc ?_ _) | (with_reducible refine Kd.C_drewN ?_ _) | (with_reducible refine Kd.C_drew ?_))); (case side2 => exact HC0.out); rintro e w12 ⟨rfl, hb⟩; refine ⟨_, rfl, ?_⟩; replace HB := ak (below_step (by exact hopb HB.out) hb); (try clear hb)))
   go_ret
   exact ⟨by first | rfl | (simp only [u8_w_, w64_u8_] <;> rfl) | (simp [errW_none, errW_some] <;> rfl) | (simp [*, errW_none, errW_some] <;> rfl), by exact hopb HB.out⟩
 ·replace c4 := Bool.eq_false_iff.mpr c4
  subst c4
  rw [if_neg (show ¬ (false = true) by decide)] at H
  obtain rfl := Option.some.inj H
  go_enter Try.func51, Try.ntmps51
  go_wp2_with (first | ((with_reducible refine gate_callee (f := 26) rfl ?_); refine goesL_ (some 8) rfl rfl Try.func26 (by kernel_rfl) rfl #[.slice A0 l0.length c0] rfl (by (try simp only [List.map_toArray, List.map_cons, List.map_nil]); first | done | rfl | (simp only [List.length_drop, List.length_take]; rfl)) ?_; (with_reducible refine (impl_PairsValid.calls k _ _ l0 false _ ?side1 ?side2 A3.out).mono ?_); (case side1 => repeat (first | exact HR0.out | (with_reducible refine Kd.C_alloc ?_ _) | (with_reducible refine Kd.C_drewN ?_ _) | (with_reducible refine Kd.C_drew ?_))); (case side2 => exact HC0.out); rintro e w13 ⟨rfl, hb⟩; refine ⟨_, rfl, ?_⟩; replace HB := ak (below_step (by exact hopb HB.out) hb); (try clear hb)))
  go_ret
  exact ⟨by first | rfl | (simp only [u8_w_, w64_u8_] <;> rfl) | (simp [errW_none, errW_some] <;> rfl) | (simp [*, errW_none, errW_some] <;> rfl), by exact hopb HB.out⟩

end Go.Proofs.Ytebgpbcbbjpbfaa.PFnPageFind
