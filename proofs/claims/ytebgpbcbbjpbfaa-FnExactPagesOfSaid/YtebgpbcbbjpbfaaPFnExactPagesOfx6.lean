-- Written for this claim by a program of this session (wip/myprint in the proofs' repo)
import Derived.Test.YtebgpbcbbjpbfaaPFnExactPagesOfx0
import Derived.Test.YtebgpbcbbjpbfaaPFnExactPagesOfx1
import Derived.Test.YtebgpbcbbjpbfaaPFnExactPagesOfx4
import Derived.Test.YtebgpbcbbjpbfaaPFnExactPagesOfx5
namespace Go.Proofs.Ytebgpbcbbjpbfaa.PFnExactPagesOf
open Go.RowKit Go.Proofs.YtebgpbcbbjpbfaaW.PrintWords Go.Proofs.YtebgpbcbbjpbfaaW.PrintLast Go.Proofs.YtebgpbcbbjpbfaaW.PrintMore
attribute [local go_sem] max2_int min2_int max_two min_two max_three min_three max_four min_four max2_strs min2_strs   -- for this text's walks alone
set_option linter.unusedVariables false
set_option linter.unusedSimpArgs false

/-! ### laws_markPairS: function 40 -/
def laws_markPairS.l0 : Nat → List (S71) → Int → Int → Option (Int × (List (S71)))
  | 0, _, _, _ => none
  | k + 1, x0, x1, x5 => if x5 < (x0.length : Int) then ((laws_markText.f k x1).bind fun t219 => (if 0 ≤ x5 then ((some (x0.set (x5 : Int).toNat (⟨t219, (rd_T71 x0 x5).f1⟩ : S71) : List (S71))).bind fun y220 => (laws_markPairS.l0 k (y220.set (x5 : Int).toNat (⟨(rd_T71 y220 x5).f0, wrap64 (x1 + 1)⟩ : S71)) (wrap64 ((wrap64 (x1 + 1)) + 1)) (wrap64 (x5 + 1)))) else (none))) else (some (x1, x0))
def laws_markPairS.f (k : Nat) (l0 : List (S71)) (a1 : Int) : Option (Int × (List (S71))) := laws_markPairS.l0 k l0 a1 0
theorem laws_markPairS.mono_l : ∀ k, (∀ y0 y1 y2, LeO (laws_markPairS.l0 k y0 y1 y2) (laws_markPairS.l0 (k + 1) y0 y1 y2))
  | 0 => fun _ _ _ r h => by simp [laws_markPairS.l0] at h
  | k + 1 => by
    have ih0 := laws_markPairS.mono_l k
    · intro y0 y1 y2
      unfold laws_markPairS.l0
      repeat' first
      | (with_reducible exact ih0 _ _ _)
      | (with_reducible exact laws_markText.mono _ _)
      | (with_reducible exact LeO.refl _)
      | (with_reducible exact LeO.none _)
      | (with_reducible refine LeO.ite ?_ ?_)
      | (with_reducible refine LeO.bind ?_ (fun _ => ?_))
      | exact ih0 _ _ _
      | exact laws_markText.mono _ _
      | exact LeO.none _
      | refine LeO.ite ?_ ?_
      | refine LeO.bind ?_ (fun _ => ?_)
theorem laws_markPairS.mono : ∀ a0 a1 k, LeO (laws_markPairS.f k a0 a1) (laws_markPairS.f (k + 1) a0 a1) := by
  intro a0 a1 k
  have ih0 := laws_markPairS.mono_l k
  unfold laws_markPairS.f
  repeat' first
      | (with_reducible exact ih0 _ _ _)
      | (with_reducible exact laws_markText.mono _ _)
      | (with_reducible exact LeO.refl _)
      | (with_reducible exact LeO.none _)
      | (with_reducible refine LeO.ite ?_ ?_)
      | (with_reducible refine LeO.bind ?_ (fun _ => ?_))
      | exact ih0 _ _ _
      | exact laws_markText.mono _ _
      | exact LeO.none _
      | refine LeO.ite ?_ ?_
      | refine LeO.bind ?_ (fun _ => ?_)
set_option maxHeartbeats 8000000 in
set_option maxRecDepth 100000 in
theorem laws_markPairS.calls (k : Nat) (P0_ : Nat → Prop) (u9000_ : Value) (l0 : List (S71)) (a1 : Int) (r1 : Int) (r2 : List (S71)) (w0 w : World) (hB : Below w0.heap.size w0 w) (ho0 : Kd.R k71 71 w w0.heap.size P0_ u9000_ l0) (h : laws_markPairS.f k l0 a1 = some (r1, r2)) :
    Calls Try.prog 40 #[u9000_, .int .i64 a1] w fun e w' => e = .returned (.int .i64 r1) ∧ Kd.R k71 71 w' w0.heap.size (fun k_ => (P0_ k_ ∨ w.heap.size ≤ k_)) u9000_ r2 ∧ Below w0.heap.size w0 w' ∧ Kept w w' (fun k_ => P0_ k_) := by
  have HO0 := Aside0.mk (show Kd.R k71 71 w w0.heap.size (fun k_ => (P0_ k_ ∨ w.heap.size ≤ k_)) u9000_ l0 from Kd.R_mono ho0 (fun k_ hk => (.inl hk)))
  have HK := Aside0.mk (Kept.refl w (fun k_ => P0_ k_))
  have HW0 := Aside0.mk hB.size
  have HB := Aside0.mk hB
  clear hB
  have H : (laws_markPairS.l0 k l0 a1 0) = some (r1, r2) := h
  clear h
  have H' := Aside0.mk H
  clear H
  go_enter Try.func40, Try.ntmps40
  go_wp2
  go_loopg [1, 5] k (fun kq v1 v5 w' => ∃ (x0_1 : List (S71)) (x1_1 : Int) (x5_1 : Int), v1 = .int .i64 x1_1 ∧ v5 = .int .i64 x5_1 ∧ Aside0 (laws_markPairS.l0 kq x0_1 x1_1 x5_1 = some (r1, r2)) ∧ Aside0 (kq ≤ k) ∧ Aside0 (Kd.R k71 71 w' w0.heap.size (fun k_ => (P0_ k_ ∨ w.heap.size ≤ k_)) u9000_ x0_1) ∧ Aside0 (Kept w w' (fun k_ => P0_ k_)) ∧ Aside0 (Below w0.heap.size w0 w'))
  case atStart => exact ⟨(l0), (a1), (0), (by first | rfl | (simp; done) | (simp [bne]; done) | (simp [*]; done)), (by first | rfl | (simp; done) | (simp [bne]; done) | (simp [*]; done)), H', ⟨Nat.le_refl _⟩, ⟨by (with_reducible repeat (first | apply Kd.R_alloc | apply Kd.R_drewN | apply Kd.R_drew)); exact HO0.out⟩, ⟨by repeat (first | (with_reducible first | exact HK.out | apply Kept.alloc | apply Kept.drewN | apply Kept.drew) | exact HK.out)⟩, ⟨by repeat (first | (with_reducible first | exact HB.out | apply below_alloc | apply pw_below_drewN | apply below_drew1) | exact HB.out)⟩⟩
  case round =>
    clear H'
    try clear p2
    obtain ⟨x0_1, x1_1, x5_1, rfl, rfl, HA, HK1, HO_0, HK, HB⟩ := hrel
    cases gk with
    | zero => exact absurd HA.out (by simp [laws_markPairS.l0])
    | succ k1 =>
      have H := HA.out
      clear HA
      simp only [laws_markPairS.l0] at H
      by_cases c3 : x5_1 < (x0_1.length : Int)
      · rw [if_pos c3] at H
        have c3b0 : decide (x5_1 < (x0_1.length : Int)) = true := decide_eq_true c3
        clear c3
        replace H := Option.bind_eq_some_iff.mp H
        obtain ⟨t219, A40, H⟩ := H
        replace H : (if 0 ≤ x5_1 then ((some (x0_1.set (x5_1 : Int).toNat (⟨t219, (rd_T71 x0_1 x5_1).f1⟩ : S71) : List (S71))).bind fun y220 => (laws_markPairS.l0 k1 (y220.set (x5_1 : Int).toNat (⟨(rd_T71 y220 x5_1).f0, wrap64 (x1_1 + 1)⟩ : S71)) (wrap64 ((wrap64 (x1_1 + 1)) + 1)) (wrap64 (x5_1 + 1)))) else (none)) = some (r1, r2) := H
        have A4 := Aside0.mk A40
        clear A40
        by_cases c5 : 0 ≤ x5_1
        · rw [if_pos c5] at H
          have c5b0 : decide (0 ≤ x5_1) = true := decide_eq_true c5
          clear c5
          obtain ⟨y220, hy220⟩ : ∃ y_ : List (S71), y_ = (x0_1.set (x5_1 : Int).toNat (⟨t219, (rd_T71 x0_1 x5_1).f1⟩ : S71)) := ⟨_, rfl⟩
          replace H : (laws_markPairS.l0 k1 (y220.set (x5_1 : Int).toNat (⟨(rd_T71 y220 x5_1).f0, wrap64 (x1_1 + 1)⟩ : S71)) (wrap64 ((wrap64 (x1_1 + 1)) + 1)) (wrap64 (x5_1 + 1))) = some (r1, r2) := by first | (rw [hy220]; with_reducible exact H) | (have H2_ := (Option.bind_some _ _).symm.trans H; rw [hy220]; with_reducible exact H2_) | (have H2_ := (Option.bind_some _ _).symm.trans H; with_reducible exact H2_) | with_reducible exact H | (rw [hy220]; exact H) | exact H
          have Ny220 := Aside0.mk hy220
          clear hy220
          obtain ⟨y221, hy221⟩ : ∃ y_ : List (S71), y_ = (y220.set (x5_1 : Int).toNat (⟨(rd_T71 y220 x5_1).f0, wrap64 (x1_1 + 1)⟩ : S71)) := ⟨_, rfl⟩
          replace H : (laws_markPairS.l0 k1 y221 (wrap64 ((wrap64 (x1_1 + 1)) + 1)) (wrap64 (x5_1 + 1))) = some (r1, r2) := by first | (rw [hy221]; with_reducible exact H) | (have H2_ := (Option.bind_some _ _).symm.trans H; rw [hy221]; with_reducible exact H2_) | (have H2_ := (Option.bind_some _ _).symm.trans H; with_reducible exact H2_) | with_reducible exact H | (rw [hy221]; exact H) | exact H
          have Ny221 := Aside0.mk hy221
          clear hy221
          have H' := Aside0.mk H
          clear H
          obtain ⟨Ao8, co8, eo8⟩ := Kd.R_slice HO_0.out
          subst eo8
          go_wp2_with (first | ((with_reducible refine gate_callee (f := 65) rfl ?_); refine goesL_ (some 15) rfl rfl Try.func65 (by kernel_rfl) rfl #[.int .i64 x1_1] rfl (by (try simp only [List.map_toArray, List.map_cons, List.map_nil]); first | done | rfl | (simp only [List.length_drop, List.length_take]; rfl)) ?_; (with_reducible refine (laws_markText.calls k1 x1_1 t219 _ A4.out).mono ?_); rintro e w9 ⟨rfl, hb⟩; refine ⟨_, rfl, ?_⟩; have n0_ := Aside0.mk (Kd.R_below (by (with_reducible repeat (first | apply Kd.R_alloc | apply Kd.R_drewN | apply Kd.R_drew)); exact HO_0.out) hb); have n1_ := Aside0.mk (Kept.below (S := (fun k_ => P0_ k_)) (by repeat (first | (with_reducible first | exact HK.out | apply Kept.alloc | apply Kept.drewN | apply Kept.drew) | exact HK.out)) hb); have n2_ := Aside0.mk (below_step (by repeat (first | (with_reducible first | exact HB.out | apply below_alloc | apply pw_below_drewN | apply below_drew1) | exact HB.out)) hb); clear HO_0; clear HK; clear HB; have HO_0 := n0_; have HK := n1_; have HB := n2_; clear n0_ n1_ n2_; (try clear hb); (try clear hb2); (try clear hk); (try clear hi); have p6 : 0 ≤ (x5_1 : Int) := of_decide_eq_true (by first | (with_reducible assumption) | assumption); have q6 : (x5_1 : Int) < ((x0_1.length : Int) : Int) := of_decide_eq_true (by first | (with_reducible assumption) | assumption); obtain ⟨go6, co6, eo6, gb6, gl6, cl6, HG6⟩ := Kd.R_form HO_0.out (by omega); (first | cases eo6 | (injection eo6 with ea_ en_ ec_; (first | subst ea_ | (injection ea_ with ea_; subst ea_)); subst ec_; clear en_)); have GB6 := Aside0.mk gb6; have GG6 := Aside0.mk HG6; clear gb6 gl6 HG6; have HMgo6 := Aside0.mk (show (P0_ go6 ∨ w.heap.size ≤ go6) from (HO_0.out.1 _ rfl)); obtain ⟨ce6, hcl6, hM6, hcc6, hfr6⟩ := Kd.R_elem HO_0.out z71 (x5_1 : Int) p6 q6; obtain rfl := k71_openM hM6; have hx6_0 : w9.cell? ⟨go6, (x5_1 : Int).toNat * 2, none⟩ = some (.string ((rd_T71 x0_1 x5_1).f0)) := hcc6 0 _ rfl; have hx6_1 : w9.cell? ⟨go6, (x5_1 : Int).toNat * 2 + 1, none⟩ = some (.int .i64 ((rd_T71 x0_1 x5_1).f1)) := hcc6 1 _ rfl; have hf6_0 : w9.frozen? ⟨go6, (x5_1 : Int).toNat * 2, none⟩ = false := hfr6 0; have hf6_1 : w9.frozen? ⟨go6, (x5_1 : Int).toNat * 2 + 1, none⟩ = false := hfr6 1; clear hcl6 hcc6 hfr6 hM6; replace p6 := eq_true p6; replace q6 := eq_true q6; have HX10 := Aside0.mk (show Kd.R k71 71 w9 w0.heap.size (fun k_ => (P0_ k_ ∨ w.heap.size ≤ k_)) (.slice (some ⟨go6, 0, none⟩) x0_1.length co8) x0_1 from (by (with_reducible repeat (first | apply Kd.R_alloc | apply Kd.R_drewN | apply Kd.R_drew)); exact HO_0.out)); obtain ⟨ce10, hcl10, hM10, hcc10, hfr10⟩ := Kd.R_elem HX10.out z71 (x5_1 : Int) (of_decide_eq_true (by first | (with_reducible assumption) | assumption)) (by have h_ : (x5_1 : Int) < ((x0_1.length : Int) : Int) := of_decide_eq_true (by first | (with_reducible assumption) | assumption); first | exact h_ | (have e_ := (Kd.R_reads' HO_0.out).1; omega) | simpa using h_); obtain rfl := k71_openM hM10; have HP10 := Kd.R_seg HX10.out (x5_1 : Int) (of_decide_eq_true (by first | (with_reducible assumption) | assumption)) (by have h_ : (x5_1 : Int) < ((x0_1.length : Int) : Int) := of_decide_eq_true (by first | (with_reducible assumption) | assumption); first | exact h_ | (have e_ := (Kd.R_reads' HO_0.out).1; omega) | simpa using h_) (seg := [.string t219]) (j := 0) hcl10 hcc10 (show 1 ≤ 2 from by decide) (x' := (⟨t219, (rd_T71 x0_1 x5_1).f1⟩ : S71)) (k71_mkM _ _ _ (⟨t219, (rd_T71 x0_1 x5_1).f1⟩ : S71) ) (fun _ hk => hk); have hx10_0 := hcc10 0 _ rfl; (try simp only [show (k71).sz = 2 from rfl, Nat.mul_one, Nat.add_zero] at hx10_0); have hf10_0 := hfr10 0; (try simp only [show (k71).sz = 2 from rfl, Nat.mul_one, Nat.add_zero] at hf10_0); clear hcl10 hcc10 hfr10 hM10) | ((with_reducible refine gate_store (t := 9) (p := 17) rfl ?_); refine store_event (t := 9) (p := 17) (v := ?vo_w11) (w1 := (w9.setCell ⟨go6, (x5_1 : Int).toNat * 2, none⟩ (.string t219))) ?hg ?ho ?hn ?hr ?_; (case ho => rfl); (case hg => rfl); (case hn => rfl); (case hr => first | (go_simp; done) | (go_simp; rfl)); intro w11 hw; have hg : w9.grownBy w11 (some go6) := (by rw [hw]; exact HP10.2); have hp_ : Kd.R k71 71 w11 w0.heap.size (fun k_ => (P0_ k_ ∨ w.heap.size ≤ k_)) (.slice (some ⟨go6, 0, none⟩) x0_1.length co8) y220 := (by rw [hw, Ny220.out]; exact HP10.1); clear HP10; have n0_ := Aside0.mk (hp_); have n1_ := Aside0.mk ((by rw [hw]; exact below_set (HB.out) GB6.out : Below w0.heap.size w0 w11)); have n2_ := Aside0.mk (Kept.of_grown (S := (fun k_ => P0_ k_)) hg (by repeat (first | (with_reducible first | exact HK.out | apply Kept.alloc | apply Kept.drewN | apply Kept.drew) | exact HK.out)) (fun k_ e_ => (HO_0.out.1 k_ e_))); clear HO_0; clear HB; clear HK; have HO_0 := n0_; have HB := n1_; have HK := n2_; clear n0_ n1_ n2_; clear hg hw hp_; have p7 : 0 ≤ (x5_1 : Int) := of_decide_eq_true (by first | (with_reducible assumption) | assumption); have q7 : (x5_1 : Int) < ((x0_1.length : Int) : Int) := of_decide_eq_true (by first | (with_reducible assumption) | assumption); obtain ⟨ce7, hcl7, hM7, hcc7, hfr7⟩ := Kd.R_elem HO_0.out z71 (x5_1 : Int) p7 q7; obtain rfl := k71_openM hM7; have hx7_0 : w11.cell? ⟨go6, (x5_1 : Int).toNat * 2, none⟩ = some (.string ((rd_T71 y220 x5_1).f0)) := hcc7 0 _ rfl; have hx7_1 : w11.cell? ⟨go6, (x5_1 : Int).toNat * 2 + 1, none⟩ = some (.int .i64 ((rd_T71 y220 x5_1).f1)) := hcc7 1 _ rfl; have hf7_0 : w11.frozen? ⟨go6, (x5_1 : Int).toNat * 2, none⟩ = false := hfr7 0; have hf7_1 : w11.frozen? ⟨go6, (x5_1 : Int).toNat * 2 + 1, none⟩ = false := hfr7 1; clear hcl7 hcc7 hfr7 hM7; replace p7 := eq_true p7; replace q7 := eq_true q7; have HX12 := Aside0.mk (show Kd.R k71 71 w11 w0.heap.size (fun k_ => (P0_ k_ ∨ w.heap.size ≤ k_)) (.slice (some ⟨go6, 0, none⟩) x0_1.length co8) y220 from (by (with_reducible repeat (first | apply Kd.R_alloc | apply Kd.R_drewN | apply Kd.R_drew)); exact HO_0.out)); obtain ⟨ce12, hcl12, hM12, hcc12, hfr12⟩ := Kd.R_elem HX12.out z71 (x5_1 : Int) (of_decide_eq_true (by first | (with_reducible assumption) | assumption)) (by have h_ : (x5_1 : Int) < ((x0_1.length : Int) : Int) := of_decide_eq_true (by first | (with_reducible assumption) | assumption); first | exact h_ | (have e_ := (Kd.R_reads' HO_0.out).1; omega) | simpa using h_); obtain rfl := k71_openM hM12; have HP12 := Kd.R_seg HX12.out (x5_1 : Int) (of_decide_eq_true (by first | (with_reducible assumption) | assumption)) (by have h_ : (x5_1 : Int) < ((x0_1.length : Int) : Int) := of_decide_eq_true (by first | (with_reducible assumption) | assumption); first | exact h_ | (have e_ := (Kd.R_reads' HO_0.out).1; omega) | simpa using h_) (seg := [.int .i64 (wrap64 (x1_1 + 1))]) (j := 1) hcl12 hcc12 (show 2 ≤ 2 from by decide) (x' := (⟨(rd_T71 y220 x5_1).f0, wrap64 (x1_1 + 1)⟩ : S71)) (k71_mkM _ _ _ (⟨(rd_T71 y220 x5_1).f0, wrap64 (x1_1 + 1)⟩ : S71) ) (fun _ hk => hk); have hx12_1 := hcc12 1 _ rfl; (try simp only [show (k71).sz = 2 from rfl, Nat.mul_one, Nat.add_zero] at hx12_1); have hf12_1 := hfr12 1; (try simp only [show (k71).sz = 2 from rfl, Nat.mul_one, Nat.add_zero] at hf12_1); clear hcl12 hcc12 hfr12 hM12) | ((with_reducible refine gate_store (t := 3) (p := 24) rfl ?_); refine store_event (t := 3) (p := 24) (v := ?vo_w13) (w1 := (w11.setCell ⟨go6, (x5_1 : Int).toNat * 2 + 1, none⟩ (.int .i64 (wrap64 (x1_1 + 1))))) ?hg ?ho ?hn ?hr ?_; (case ho => rfl); (case hg => rfl); (case hn => rfl); (case hr => first | (go_simp; done) | (go_simp; rfl)); intro w13 hw; have hg : w11.grownBy w13 (some go6) := (by rw [hw]; exact HP12.2); have hp_ : Kd.R k71 71 w13 w0.heap.size (fun k_ => (P0_ k_ ∨ w.heap.size ≤ k_)) (.slice (some ⟨go6, 0, none⟩) x0_1.length co8) y221 := (by rw [hw, Ny221.out]; exact HP12.1); clear HP12; have n0_ := Aside0.mk (hp_); have n1_ := Aside0.mk ((by rw [hw]; exact below_set (HB.out) GB6.out : Below w0.heap.size w0 w13)); have n2_ := Aside0.mk (Kept.of_grown (S := (fun k_ => P0_ k_)) hg (by repeat (first | (with_reducible first | exact HK.out | apply Kept.alloc | apply Kept.drewN | apply Kept.drew) | exact HK.out)) (fun k_ e_ => (HO_0.out.1 k_ e_))); clear HO_0; clear HB; clear HK; have HO_0 := n0_; have HB := n1_; have HK := n2_; clear n0_ n1_ n2_; clear hg hw hp_))
          go_roundg k1
          case measure => have := HK1.out; omega
          case rel => exact ⟨(y221), (wrap64 ((wrap64 (x1_1 + 1)) + 1)), (wrap64 (x5_1 + 1)), (by first | rfl | (simp; done) | (simp [bne]; done) | (simp [*]; done)), (by first | rfl | (simp; done) | (simp [bne]; done) | (simp [*]; done)), H', ⟨by have := HK1.out; omega⟩, ⟨by (with_reducible repeat (first | apply Kd.R_alloc | apply Kd.R_drewN | apply Kd.R_drew)); exact HO_0.out⟩, ⟨by repeat (first | (with_reducible first | exact HK.out | apply Kept.alloc | apply Kept.drewN | apply Kept.drew) | exact HK.out)⟩, ⟨by repeat (first | (with_reducible first | exact HB.out | apply below_alloc | apply pw_below_drewN | apply below_drew1) | exact HB.out)⟩⟩
        · rw [if_neg c5] at H
          exact absurd H (by simp)
      · rw [if_neg c3] at H
        have c3b0 : decide (x5_1 < (x0_1.length : Int)) = false := decide_eq_false c3
        clear c3
        simp only [Option.some.injEq, Prod.mk.injEq] at H
        obtain ⟨rfl, rfl⟩ := H
        obtain ⟨Ao14, co14, eo14⟩ := Kd.R_slice HO_0.out
        subst eo14
        go_wp2
        go_ret
        exact ⟨by first | rfl | (simp only [u8_w_, w64_u8_]; done) | (simp only [u8_w_, w64_u8_]; rfl) | (simp [errW_none, errW_some] <;> rfl) | (simp [*, errW_none, errW_some] <;> rfl), by (with_reducible repeat (first | apply Kd.R_alloc | apply Kd.R_drewN | apply Kd.R_drew)); exact HO_0.out, by repeat (first | (with_reducible first | exact HB.out | apply below_alloc | apply pw_below_drewN | apply below_drew1) | exact HB.out), by repeat (first | (with_reducible first | exact HK.out | apply Kept.alloc | apply Kept.drewN | apply Kept.drew) | exact HK.out)⟩

/-! ### laws_markPageS: function 41 -/
def laws_markPageS.l0 : Nat → List (S64) → Int → Int → Option (Int × (List (S64)))
  | 0, _, _, _ => none
  | k + 1, x0, x1, x5 => if x5 < (x0.length : Int) then (if 0 ≤ x5 then ((laws_markPairS.f k ((rd_T64 x0 x5).f0) x1).bind fun t => (laws_markPageS.l0 k (x0.set (x5 : Int).toNat (⟨t.2⟩ : S64)) t.1 (wrap64 (x5 + 1)))) else (none)) else (some (x1, x0))
def laws_markPageS.f (k : Nat) (l0 : List (S64)) (a1 : Int) : Option (Int × (List (S64))) := laws_markPageS.l0 k l0 a1 0
theorem laws_markPageS.mono_l : ∀ k, (∀ y0 y1 y2, LeO (laws_markPageS.l0 k y0 y1 y2) (laws_markPageS.l0 (k + 1) y0 y1 y2))
  | 0 => fun _ _ _ r h => by simp [laws_markPageS.l0] at h
  | k + 1 => by
    have ih0 := laws_markPageS.mono_l k
    · intro y0 y1 y2
      unfold laws_markPageS.l0
      repeat' first
      | (with_reducible exact ih0 _ _ _)
      | (with_reducible exact laws_markPairS.mono _ _ _)
      | (with_reducible exact LeO.refl _)
      | (with_reducible exact LeO.none _)
      | (with_reducible refine LeO.ite ?_ ?_)
      | (with_reducible refine LeO.bind ?_ (fun _ => ?_))
theorem laws_markPageS.mono : ∀ a0 a1 k, LeO (laws_markPageS.f k a0 a1) (laws_markPageS.f (k + 1) a0 a1) := by
  intro a0 a1 k
  exact laws_markPageS.mono_l k _ _ _
set_option maxHeartbeats 8000000 in
set_option maxRecDepth 100000 in
theorem laws_markPageS.calls (k : Nat) (P0_ : Nat → Prop) (u9000_ : Value) (l0 : List (S64)) (a1 : Int) (r1 : Int) (r2 : List (S64)) (w0 w : World) (hB : Below w0.heap.size w0 w) (ho0 : Kd.S k64 64 w w0.heap.size P0_ u9000_ l0) (h : laws_markPageS.f k l0 a1 = some (r1, r2)) :
    Calls Try.prog 41 #[u9000_, .int .i64 a1] w fun e w' => e = .returned (.int .i64 r1) ∧ Kd.S k64 64 w' w0.heap.size P0_ u9000_ r2 ∧ Below w0.heap.size w0 w' ∧ Kept w w' P0_ := by
  have HO0 := Aside0.mk ho0
  have HK := Aside0.mk (Kept.refl w P0_)
  have HB := Aside0.mk hB
  clear hB ho0
  have H' := Aside0.mk (show (laws_markPageS.l0 k l0 a1 0) = some (r1, r2) from h)
  clear h
  go_enter Try.func41, Try.ntmps41
  go_wp2
  go_loopg [1, 5] k (fun kq v1 v5 w' => ∃ (x0_1 : List (S64)) (x1_1 : Int) (x5_1 : Int), v1 = .int .i64 x1_1 ∧ v5 = .int .i64 x5_1 ∧ Aside0 (laws_markPageS.l0 kq x0_1 x1_1 x5_1 = some (r1, r2)) ∧ Aside0 (kq ≤ k) ∧ Aside0 (Kd.S k64 64 w' w0.heap.size P0_ u9000_ x0_1) ∧ Aside0 (Kept w w' P0_) ∧ Aside0 (Below w0.heap.size w0 w'))
  case atStart => exact ⟨(l0), (a1), (0), (by first | rfl | (simp; done) | (simp [bne]; done) | (simp [*]; done)), (by first | rfl | (simp; done) | (simp [bne]; done) | (simp [*]; done)), H', ⟨Nat.le_refl _⟩, ⟨by (with_reducible repeat (first | apply Kd.S_alloc | apply Kd.S_drewN | apply Kd.S_drew)); exact HO0.out⟩, ⟨by repeat (first | (with_reducible first | exact HK.out | apply Kept.alloc | apply Kept.drewN | apply Kept.drew) | exact HK.out)⟩, ⟨by repeat (first | (with_reducible first | exact HB.out | apply below_alloc | apply pw_below_drewN | apply below_drew1) | exact HB.out)⟩⟩
  case round =>
    clear H'
    try clear p2
    obtain ⟨x0_1, x1_1, x5_1, rfl, rfl, HA, HK1, HO_0, HK, HB⟩ := hrel
    cases gk with
    | zero => exact absurd HA.out (by simp [laws_markPageS.l0])
    | succ k1 =>
      have H := HA.out
      clear HA
      simp only [laws_markPageS.l0] at H
      by_cases c3 : x5_1 < (x0_1.length : Int)
      · rw [if_pos c3] at H
        have c3b0 : decide (x5_1 < (x0_1.length : Int)) = true := decide_eq_true c3
        clear c3
        by_cases c5 : 0 ≤ x5_1
        · rw [if_pos c5] at H
          have c5b0 : decide (0 ≤ x5_1) = true := decide_eq_true c5
          clear c5
          replace H := Option.bind_eq_some_iff.mp H
          obtain ⟨⟨t1, t2⟩, A40, H⟩ := H
          have A4 := Aside0.mk A40
          clear A40
          obtain ⟨y170, hy170⟩ : ∃ y_ : List (S64), y_ = (x0_1.set (x5_1 : Int).toNat (⟨t2⟩ : S64)) := ⟨_, rfl⟩
          replace H : (laws_markPageS.l0 k1 y170 t1 (wrap64 (x5_1 + 1))) = some (r1, r2) := by rw [hy170]; exact H
          have Ny170 := Aside0.mk hy170
          clear hy170
          have H' := Aside0.mk H
          clear H
          have p6 : 0 ≤ (x5_1 : Int) := of_decide_eq_true (by first | (with_reducible assumption) | assumption)
          have q6 : (x5_1 : Int) < ((x0_1.length : Int) : Int) := of_decide_eq_true (by first | (with_reducible assumption) | assumption)
          obtain ⟨go6, co6, eo6, gb6, gl6, cl6, HG6⟩ := Kd.S_form HO_0.out (by omega)
          subst eo6
          obtain ⟨oki, c, hcl, hM, hcc, hoki, hH⟩ := Kd.S_lend HO_0.out z64 x5_1 p6 (by exact q6)
          obtain ⟨v0, rfl, hv0⟩ := k64_openM hM
          obtain ⟨Ai, ci, ei⟩ := Kd.R_slice hv0
          subst ei
          replace hv0 : Kd.R k71 71 _ w0.heap.size oki (.slice Ai ((rd_T64 x0_1 x5_1).f0).length ci) ((rd_T64 x0_1 x5_1).f0) := hv0
          have hx6_ := hcc 0 _ rfl
          simp only [show (k64).sz = 1 from rfl, Nat.mul_one, Nat.add_zero] at hx6_
          have hx6 : World.cell? _ ⟨go6, (x5_1 : Int).toNat, none⟩ = some (.slice Ai ((rd_T64 x0_1 x5_1).f0).length ci) := hx6_
          clear hx6_
          clear hcl hM hcc gb6 gl6 HG6
          have HV := Aside0.mk hv0
          have HH := Aside0.mk hH
          have HI := Aside0.mk hoki
          clear hv0 hH hoki
          replace p6 := eq_true p6
          replace q6 := eq_true q6
          go_wp2_with (first | ((with_reducible refine gate_callee (f := 40) rfl ?_); refine goesL_ (some 18) rfl rfl Try.func40 (by kernel_rfl) rfl #[.slice Ai ((rd_T64 x0_1 x5_1).f0).length ci, .int .i64 x1_1] rfl (by (try simp only [List.map_toArray, List.map_cons, List.map_nil]); first | done | rfl | (simp only [List.length_drop, List.length_take]; rfl)) ?_; (refine (laws_markPairS.calls k1 oki _ ((rd_T64 x0_1 x5_1).f0) x1_1 t1 t2 w0 _ HB.out HV.out A4.out).mono ?_); rintro e w9 ⟨rfl, hy, hb, hk⟩; refine ⟨_, rfl, ?_⟩; have n0_ := Aside0.mk (show Kd.S k64 64 w9 w0.heap.size P0_ _ y170 from (by rw [Ny170.out]; exact Kd.H_back (Kd.H_step HH.out (fun k_ _ hn_ hlt_ => hk.2 k_ hlt_ hn_)) (k64_mkM w9 w0.heap.size oki (⟨t2⟩ : S64) (Kd.R_mono (Kd.R_tight rfl hy) (fun k_ e_ => HV.out.1 k_ e_.symm))) (fun _ h_ => h_))); have n1_ := Aside0.mk (Kept.then_ HK.out hk (fun k_ h_ => .inl (HI.out k_ h_).1)); clear HO_0 HK HB HH HV; have HO_0 := n0_; have HK := n1_; have HB := Aside0.mk hb; clear n0_ n1_ hy hb hk))
          go_roundg k1
          case measure => have := HK1.out; omega
          case rel => exact ⟨(y170), t1, (wrap64 (x5_1 + 1)), (by first | rfl | (simp; done) | (simp [bne]; done) | (simp [*]; done)), (by first | rfl | (simp; done) | (simp [bne]; done) | (simp [*]; done)), H', ⟨by have := HK1.out; omega⟩, ⟨by (with_reducible repeat (first | apply Kd.S_alloc | apply Kd.S_drewN | apply Kd.S_drew)); exact HO_0.out⟩, ⟨by repeat (first | (with_reducible first | exact HK.out | apply Kept.alloc | apply Kept.drewN | apply Kept.drew) | exact HK.out)⟩, ⟨by repeat (first | (with_reducible first | exact HB.out | apply below_alloc | apply pw_below_drewN | apply below_drew1) | exact HB.out)⟩⟩
        · rw [if_neg c5] at H
          exact absurd H (by simp)
      · rw [if_neg c3] at H
        have c3b0 : decide (x5_1 < (x0_1.length : Int)) = false := decide_eq_false c3
        clear c3
        simp only [Option.some.injEq, Prod.mk.injEq] at H
        obtain ⟨rfl, rfl⟩ := H
        obtain ⟨Ao14, co14, eo14⟩ := Kd.S_slice HO_0.out
        subst eo14
        go_wp2
        go_ret
        exact ⟨by first | rfl | (simp only [u8_w_, w64_u8_]; done) | (simp only [u8_w_, w64_u8_]; rfl) | (simp [errW_none, errW_some] <;> rfl) | (simp [*, errW_none, errW_some] <;> rfl), by (with_reducible repeat (first | apply Kd.S_alloc | apply Kd.S_drewN | apply Kd.S_drew)); exact HO_0.out, by repeat (first | (with_reducible first | exact HB.out | apply below_alloc | apply pw_below_drewN | apply below_drew1) | exact HB.out), by repeat (first | (with_reducible first | exact HK.out | apply Kept.alloc | apply Kept.drewN | apply Kept.drew) | exact HK.out)⟩

/-! ### laws_heldPairS: function 44 -/
def laws_heldPairS.l0 : Nat → List (S71) → Int → Int → Option (Int)
  | 0, _, _, _ => none
  | k + 1, x0, x1, x5 => if x5 < (x0.length : Int) then (if 0 ≤ x5 then ((laws_markText.f k x1).bind fun t223 => (if ((rd_T71 x0 x5).f0).toList = t223.toList then (if ((rd_T71 x0 x5).f1) = (wrap64 (x1 + 1)) then (laws_heldPairS.l0 k x0 (wrap64 ((wrap64 (x1 + 1)) + 1)) (wrap64 (x5 + 1))) else (some (-1))) else (some (-1)))) else (none)) else (some x1)
def laws_heldPairS.f (k : Nat) (l0 : List (S71)) (a1 : Int) : Option (Int) := laws_heldPairS.l0 k l0 a1 0
theorem laws_heldPairS.mono_l : ∀ k, (∀ y0 y1 y2, LeO (laws_heldPairS.l0 k y0 y1 y2) (laws_heldPairS.l0 (k + 1) y0 y1 y2))
  | 0 => fun _ _ _ r h => by simp [laws_heldPairS.l0] at h
  | k + 1 => by
    have ih0 := laws_heldPairS.mono_l k
    · intro y0 y1 y2
      unfold laws_heldPairS.l0
      repeat' first
      | (with_reducible exact ih0 _ _ _)
      | (with_reducible exact laws_markText.mono _ _)
      | (with_reducible exact LeO.refl _)
      | (with_reducible exact LeO.none _)
      | (with_reducible refine LeO.ite ?_ ?_)
      | (with_reducible refine LeO.bind ?_ (fun _ => ?_))
      | exact ih0 _ _ _
      | exact laws_markText.mono _ _
      | exact LeO.none _
      | refine LeO.ite ?_ ?_
      | refine LeO.bind ?_ (fun _ => ?_)
theorem laws_heldPairS.mono : ∀ a0 a1 k, LeO (laws_heldPairS.f k a0 a1) (laws_heldPairS.f (k + 1) a0 a1) := by
  intro a0 a1 k
  have ih0 := laws_heldPairS.mono_l k
  unfold laws_heldPairS.f
  repeat' first
      | (with_reducible exact ih0 _ _ _)
      | (with_reducible exact laws_markText.mono _ _)
      | (with_reducible exact LeO.refl _)
      | (with_reducible exact LeO.none _)
      | (with_reducible refine LeO.ite ?_ ?_)
      | (with_reducible refine LeO.bind ?_ (fun _ => ?_))
      | exact ih0 _ _ _
      | exact laws_markText.mono _ _
      | exact LeO.none _
      | refine LeO.ite ?_ ?_
      | refine LeO.bind ?_ (fun _ => ?_)
def laws_heldPairS.T4 : Bool × List (List Nat × List Nat) := (true, [([], []), ([], []), ([0, 1], [0, 1]), ([2], [2]), ([3], [3]), ([], []), ([5], [5]), ([4, 6], [4, 6])])
def laws_heldPairS.B4 : List Nat := [0, 0, 3, 7, 15, 0, 32, 127]
theorem laws_heldPairS.tab4 : rtab .any (opsOf Try.f44 4) = laws_heldPairS.T4 := by kernel_rfl
theorem laws_heldPairS.bits4 : waitsOk laws_heldPairS.T4.2 laws_heldPairS.B4 = true := by kernel_rfl
set_option maxHeartbeats 8000000 in
set_option maxRecDepth 100000 in
theorem laws_heldPairS.calls (k : Nat) (A0 : Option Addr) (c0 : Nat) (l0 : List (S71)) (a1 : Int) (r : Int) (w : World) (hr0 : Kd.C k71 w A0 l0.length l0) (hc0 : l0.length ≤ c0) (h : laws_heldPairS.f k l0 a1 = some r) :
    Calls Try.prog 44 #[.slice A0 l0.length c0, .int .i64 a1] w fun e w' => e = .returned (.int .i64 r) ∧ Below w.heap.size w w' := by
  have HR0 := Aside0.mk hr0
  have HC0 := Aside0.mk hc0
  clear hr0 hc0
  have HB := Aside0.mk (Below.refl w.heap.size w)
  have H : (laws_heldPairS.l0 k l0 a1 0) = some r := h
  clear h
  have H' := Aside0.mk H
  clear H
  go_enter Try.func44, Try.ntmps44
  go_wp2
  go_loopg [1, 5] k (fun kq v1 v5 w' => ∃ (x1_1 : Int) (x5_1 : Int), v1 = .int .i64 x1_1 ∧ v5 = .int .i64 x5_1 ∧ Aside0 (laws_heldPairS.l0 kq l0 x1_1 x5_1 = some r) ∧ Aside0 (kq ≤ k) ∧ Aside0 (Below w.heap.size w w'))
  case atStart => exact ⟨(a1), (0), (by first | rfl | (simp; done) | (simp [bne]; done) | (simp [*]; done)), (by first | rfl | (simp; done) | (simp [bne]; done) | (simp [*]; done)), H', ⟨Nat.le_refl _⟩, ⟨by repeat (first | (with_reducible first | exact HB.out | apply below_alloc | apply pw_below_drewN | apply below_drew1) | exact HB.out)⟩⟩
  case round =>
    clear H'
    try clear p2
    obtain ⟨x1_1, x5_1, rfl, rfl, HA, HK1, HB⟩ := hrel
    cases gk with
    | zero => exact absurd HA.out (by simp [laws_heldPairS.l0])
    | succ k1 =>
      have H := HA.out
      clear HA
      simp only [laws_heldPairS.l0] at H
      by_cases c3 : x5_1 < (l0.length : Int)
      · rw [if_pos c3] at H
        have c3b0 : decide (x5_1 < (l0.length : Int)) = true := decide_eq_true c3
        clear c3
        by_cases c4 : 0 ≤ x5_1
        · rw [if_pos c4] at H
          have c4b0 : decide (0 ≤ x5_1) = true := decide_eq_true c4
          clear c4
          replace H := Option.bind_eq_some_iff.mp H
          obtain ⟨t223, A50, H⟩ := H
          replace H : (if ((rd_T71 l0 x5_1).f0).toList = t223.toList then (if ((rd_T71 l0 x5_1).f1) = (wrap64 (x1_1 + 1)) then (laws_heldPairS.l0 k1 l0 (wrap64 ((wrap64 (x1_1 + 1)) + 1)) (wrap64 (x5_1 + 1))) else (some (-1))) else (some (-1))) = some r := H
          have A5 := Aside0.mk A50
          clear A50
          by_cases c6 : ((rd_T71 l0 x5_1).f0).toList = t223.toList
          · rw [if_pos c6] at H
            have c6b0 : (((rd_T71 l0 x5_1).f0).toList == t223.toList) = true := beq_iff_eq.mpr c6
            have c6b1 : (((rd_T71 l0 x5_1).f0).toList != t223.toList) = false := bne_eq_false_iff_eq.mpr c6
            clear c6
            by_cases c7 : ((rd_T71 l0 x5_1).f1) = (wrap64 (x1_1 + 1))
            · rw [if_pos c7] at H
              have c7b0 : (((rd_T71 l0 x5_1).f1) == (wrap64 (x1_1 + 1))) = true := beq_iff_eq.mpr c7
              have c7b1 : (((rd_T71 l0 x5_1).f1) != (wrap64 (x1_1 + 1))) = false := bne_eq_false_iff_eq.mpr c7
              clear c7
              have H' := Aside0.mk H
              clear H
              try go_wp2
              have n0_ := Aside0.mk (below_drew1 HB.out)
              clear HB
              have HB := n0_
              clear n0_
              have p222 : 0 ≤ (x5_1 : Int) := of_decide_eq_true (by first | (with_reducible assumption) | assumption)
              have q222 : x5_1 < (l0.length : Int) := of_decide_eq_true (by first | (with_reducible assumption) | assumption)
              obtain ⟨ad222, e222, hx222_0, hx222_1⟩ := at_T71 HR0.out x5_1 p222 q222
              have hw222_1 := hx222_1
              have hw222_0 := hx222_0
              cases e222
              replace hx222_0 := (HB.out.cell (World.block_lt_of_cell? w _ hx222_0)).trans hx222_0
              replace hx222_1 := (HB.out.cell (World.block_lt_of_cell? w _ hx222_1)).trans hx222_1
              replace p222 := eq_true p222
              replace q222 := eq_true q222
              refine start_ (n := 8) (S := fun w' => w'.cell? (ad222.add ((x5_1).toNat * 2)) = some (.string ((rd_T71 l0 x5_1).f0)) ∧ w'.cell? ⟨(ad222.add ((x5_1).toNat * 2)).block, (ad222.add ((x5_1).toNat * 2)).off + 1, none⟩ = some (.int .i64 ((rd_T71 l0 x5_1).f1))) (ds := []) #[false, false, false, false, false, false, false, false] (by kernel_rfl) rfl rfl ⟨((HB.out.cell (World.block_lt_of_cell? w _ hw222_0)).trans hw222_0), ((HB.out.cell (World.block_lt_of_cell? w _ hw222_1)).trans hw222_1)⟩ (fun hHeld => ?_); refine with_tabW laws_heldPairS.tab4 laws_heldPairS.bits4 (fun HT_ HW_ => ?_)
              generalize wr.drew = w8 at HB hx222_0 hx222_1 hHeld ⊢
              refine pure_ (i := 0) (N := some 12) (v := ?_) (a' := ?_) #[true, false, false, false, false, false, false, false] rfl rfl (any_of HT_.out (by kernel_rfl)) (fun _ _ _ h => h) (Or.inl ⟨by rfl, ?_⟩) ?_ ?_
              rotate_left
              · intro w'
                go_simp
                with_reducible rfl
              rotate_left
              · simp only [Act.put, List.setIfInBounds_toArray, List.set_cons_zero, List.set_cons_succ, i64_w, i32_w]
                rfl
              refine pure_ (i := 1) (N := some 13) (v := ?_) (a' := ?_) #[true, true, false, false, false, false, false, false] rfl rfl (any_of HT_.out (by kernel_rfl)) (fun _ _ _ h => h) (Or.inl ⟨by rfl, ?_⟩) ?_ ?_
              rotate_left
              · intro w'
                go_simp
                with_reducible rfl
              rotate_left
              · simp only [Act.put, List.setIfInBounds_toArray, List.set_cons_zero, List.set_cons_succ, i64_w, i32_w]
                rfl
              refine pure_ (i := 2) (N := some 14) (v := ?_) (a' := ?_) #[true, true, true, false, false, false, false, false] rfl rfl (any_of HT_.out (by kernel_rfl)) (fun _ _ _ h => h) (Or.inl ⟨by rfl, ?_⟩) ?_ ?_
              rotate_left
              · intro w'
                go_simp
                with_reducible rfl
              rotate_left
              · simp only [Act.put, List.setIfInBounds_toArray, List.set_cons_zero, List.set_cons_succ, i64_w, i32_w]
                rfl
              refine pure_ (i := 3) (N := some 15) (v := ?_) (a' := ?_) #[true, true, true, true, false, false, false, false] rfl rfl (any_of HT_.out (by kernel_rfl)) (fun _ _ _ h => h) (Or.inl ⟨by rfl, ?_⟩) ?_ ?_
              rotate_left
              · intro w'
                go_simp
                with_reducible rfl
              rotate_left
              · simp only [Act.put, List.setIfInBounds_toArray, List.set_cons_zero, List.set_cons_succ, i64_w, i32_w]
                rfl
              refine pure_ (i := 5) (N := some 17) (v := ?_) (a' := ?_) #[true, true, true, true, false, true, false, false] rfl rfl (any_of HT_.out (by kernel_rfl)) (fun _ _ _ h => h) (Or.inl ⟨by rfl, ?_⟩) ?_ ?_
              rotate_left
              · intro w'
                go_simp
                with_reducible rfl
              rotate_left
              · simp only [Act.put, List.setIfInBounds_toArray, List.set_cons_zero, List.set_cons_succ, i64_w, i32_w]
                rfl
              refine take_ (i := 4) (N := some 16) (v := ?_) (a' := ?_) #[true, true, true, true, true, true, false, false] rfl rfl (take_ofW HT_.out HW_.out (by kernel_rfl)) (fun _ _ _ h => h) (Or.inl ⟨by rfl, ?_⟩) hHeld ?_ ?_
              rotate_left
              · rintro w' ⟨s0, s1⟩
                go_simp
                with_reducible rfl
              rotate_left
              · simp only [Act.put, List.setIfInBounds_toArray, List.set_cons_zero, List.set_cons_succ, i64_w, i32_w]
                rfl
              refine one_ (i := 6) (N := some 18) #[true, true, true, true, true, true, true, false] rfl rfl (one_of HT_.out (by kernel_rfl)) (by decide) (fun K hK => ?_)
              refine goes_ Try.func65 (by kernel_rfl) rfl #[.int .i64 x1_1] (by rfl) rfl rfl (by (try simp only [List.map_toArray, List.map_cons, List.map_nil]); first | done | rfl | (simp only [List.length_drop, List.length_take]; rfl)) ?_
              with_reducible refine (laws_markText.calls k1 x1_1 t223 _ A5.out).mono ?_
              rintro e w9 ⟨rfl, hb⟩
              refine ⟨_, rfl, ?_⟩
              have n0_ := Aside0.mk (below_step (by repeat (first | (with_reducible first | exact HB.out | apply below_alloc | apply pw_below_drewN | apply below_drew1) | exact HB.out)) hb)
              clear HB
              have HB := n0_
              clear n0_
              (try clear hb)
              (try clear hb2)
              (try clear hk)
              (try clear hi)
              refine hK.out _ _ ⟨((HB.out.cell (World.block_lt_of_cell? w _ hw222_0)).trans hw222_0), ((HB.out.cell (World.block_lt_of_cell? w _ hw222_1)).trans hw222_1)⟩ (fun hHeld => ?_)
              clear hK K
              refine norm_ (a' := ?_) ?_ ?_
              rotate_left
              · show Act.put _ (some 18) _ = _
                simp only [Act.put, List.setIfInBounds_toArray, List.set_cons_zero, List.set_cons_succ, i64_w, i32_w]
                rfl
              refine pure_ (i := 7) (N := some 19) (v := ?_) (a' := ?_) #[true, true, true, true, true, true, true, true] rfl rfl (any_of HT_.out (by kernel_rfl)) (fun _ _ _ h => h) (Or.inl ⟨by rfl, ?_⟩) ?_ ?_
              rotate_left
              · intro w'
                go_simp
                with_reducible rfl
              rotate_left
              · simp only [Act.put, List.setIfInBounds_toArray, List.set_cons_zero, List.set_cons_succ, i64_w, i32_w]
                rfl
              refine done_ (done_of HT_.out (by kernel_rfl)) ?_
              have p224 : 0 ≤ (x5_1 : Int) := of_decide_eq_true (by first | (with_reducible assumption) | assumption)
              have q224 : x5_1 < (l0.length : Int) := of_decide_eq_true (by first | (with_reducible assumption) | assumption)
              obtain ⟨ad224, e224, hx224_0, hx224_1⟩ := at_T71 HR0.out x5_1 p224 q224
              obtain rfl : ad222 = ad224 := (by injection e224)
              replace hx224_0 := (HB.out.cell (World.block_lt_of_cell? w _ hx224_0)).trans hx224_0
              replace hx224_1 := (HB.out.cell (World.block_lt_of_cell? w _ hx224_1)).trans hx224_1
              replace p224 := eq_true p224
              replace q224 := eq_true q224
              try go_wp2
              go_roundg k1
              case measure => have := HK1.out; omega
              case rel => exact ⟨(wrap64 ((wrap64 (x1_1 + 1)) + 1)), (wrap64 (x5_1 + 1)), (by first | rfl | (simp; done) | (simp [bne]; done) | (simp [*]; done)), (by first | rfl | (simp; done) | (simp [bne]; done) | (simp [*]; done)), H', ⟨by have := HK1.out; omega⟩, ⟨by repeat (first | (with_reducible first | exact HB.out | apply below_alloc | apply pw_below_drewN | apply below_drew1) | exact HB.out)⟩⟩
            · rw [if_neg c7] at H
              have c7b0 : (((rd_T71 l0 x5_1).f1) == (wrap64 (x1_1 + 1))) = false := beq_eq_false_iff_ne.mpr c7
              have c7b1 : (((rd_T71 l0 x5_1).f1) != (wrap64 (x1_1 + 1))) = true := bne_iff_ne.mpr c7
              obtain rfl := Option.some.inj H
              try go_wp2
              have n0_ := Aside0.mk (below_drew1 HB.out)
              clear HB
              have HB := n0_
              clear n0_
              have p222 : 0 ≤ (x5_1 : Int) := of_decide_eq_true (by first | (with_reducible assumption) | assumption)
              have q222 : x5_1 < (l0.length : Int) := of_decide_eq_true (by first | (with_reducible assumption) | assumption)
              obtain ⟨ad222, e222, hx222_0, hx222_1⟩ := at_T71 HR0.out x5_1 p222 q222
              have hw222_1 := hx222_1
              have hw222_0 := hx222_0
              cases e222
              replace hx222_0 := (HB.out.cell (World.block_lt_of_cell? w _ hx222_0)).trans hx222_0
              replace hx222_1 := (HB.out.cell (World.block_lt_of_cell? w _ hx222_1)).trans hx222_1
              replace p222 := eq_true p222
              replace q222 := eq_true q222
              refine start_ (n := 8) (S := fun w' => w'.cell? (ad222.add ((x5_1).toNat * 2)) = some (.string ((rd_T71 l0 x5_1).f0)) ∧ w'.cell? ⟨(ad222.add ((x5_1).toNat * 2)).block, (ad222.add ((x5_1).toNat * 2)).off + 1, none⟩ = some (.int .i64 ((rd_T71 l0 x5_1).f1))) (ds := []) #[false, false, false, false, false, false, false, false] (by kernel_rfl) rfl rfl ⟨((HB.out.cell (World.block_lt_of_cell? w _ hw222_0)).trans hw222_0), ((HB.out.cell (World.block_lt_of_cell? w _ hw222_1)).trans hw222_1)⟩ (fun hHeld => ?_); refine with_tabW laws_heldPairS.tab4 laws_heldPairS.bits4 (fun HT_ HW_ => ?_)
              generalize wr.drew = w10 at HB hx222_0 hx222_1 hHeld ⊢
              refine pure_ (i := 0) (N := some 12) (v := ?_) (a' := ?_) #[true, false, false, false, false, false, false, false] rfl rfl (any_of HT_.out (by kernel_rfl)) (fun _ _ _ h => h) (Or.inl ⟨by rfl, ?_⟩) ?_ ?_
              rotate_left
              · intro w'
                go_simp
                with_reducible rfl
              rotate_left
              · simp only [Act.put, List.setIfInBounds_toArray, List.set_cons_zero, List.set_cons_succ, i64_w, i32_w]
                rfl
              refine pure_ (i := 1) (N := some 13) (v := ?_) (a' := ?_) #[true, true, false, false, false, false, false, false] rfl rfl (any_of HT_.out (by kernel_rfl)) (fun _ _ _ h => h) (Or.inl ⟨by rfl, ?_⟩) ?_ ?_
              rotate_left
              · intro w'
                go_simp
                with_reducible rfl
              rotate_left
              · simp only [Act.put, List.setIfInBounds_toArray, List.set_cons_zero, List.set_cons_succ, i64_w, i32_w]
                rfl
              refine pure_ (i := 2) (N := some 14) (v := ?_) (a' := ?_) #[true, true, true, false, false, false, false, false] rfl rfl (any_of HT_.out (by kernel_rfl)) (fun _ _ _ h => h) (Or.inl ⟨by rfl, ?_⟩) ?_ ?_
              rotate_left
              · intro w'
                go_simp
                with_reducible rfl
              rotate_left
              · simp only [Act.put, List.setIfInBounds_toArray, List.set_cons_zero, List.set_cons_succ, i64_w, i32_w]
                rfl
              refine pure_ (i := 3) (N := some 15) (v := ?_) (a' := ?_) #[true, true, true, true, false, false, false, false] rfl rfl (any_of HT_.out (by kernel_rfl)) (fun _ _ _ h => h) (Or.inl ⟨by rfl, ?_⟩) ?_ ?_
              rotate_left
              · intro w'
                go_simp
                with_reducible rfl
              rotate_left
              · simp only [Act.put, List.setIfInBounds_toArray, List.set_cons_zero, List.set_cons_succ, i64_w, i32_w]
                rfl
              refine pure_ (i := 5) (N := some 17) (v := ?_) (a' := ?_) #[true, true, true, true, false, true, false, false] rfl rfl (any_of HT_.out (by kernel_rfl)) (fun _ _ _ h => h) (Or.inl ⟨by rfl, ?_⟩) ?_ ?_
              rotate_left
              · intro w'
                go_simp
                with_reducible rfl
              rotate_left
              · simp only [Act.put, List.setIfInBounds_toArray, List.set_cons_zero, List.set_cons_succ, i64_w, i32_w]
                rfl
              refine take_ (i := 4) (N := some 16) (v := ?_) (a' := ?_) #[true, true, true, true, true, true, false, false] rfl rfl (take_ofW HT_.out HW_.out (by kernel_rfl)) (fun _ _ _ h => h) (Or.inl ⟨by rfl, ?_⟩) hHeld ?_ ?_
              rotate_left
              · rintro w' ⟨s0, s1⟩
                go_simp
                with_reducible rfl
              rotate_left
              · simp only [Act.put, List.setIfInBounds_toArray, List.set_cons_zero, List.set_cons_succ, i64_w, i32_w]
                rfl
              refine one_ (i := 6) (N := some 18) #[true, true, true, true, true, true, true, false] rfl rfl (one_of HT_.out (by kernel_rfl)) (by decide) (fun K hK => ?_)
              refine goes_ Try.func65 (by kernel_rfl) rfl #[.int .i64 x1_1] (by rfl) rfl rfl (by (try simp only [List.map_toArray, List.map_cons, List.map_nil]); first | done | rfl | (simp only [List.length_drop, List.length_take]; rfl)) ?_
              with_reducible refine (laws_markText.calls k1 x1_1 t223 _ A5.out).mono ?_
              rintro e w11 ⟨rfl, hb⟩
              refine ⟨_, rfl, ?_⟩
              have n0_ := Aside0.mk (below_step (by repeat (first | (with_reducible first | exact HB.out | apply below_alloc | apply pw_below_drewN | apply below_drew1) | exact HB.out)) hb)
              clear HB
              have HB := n0_
              clear n0_
              (try clear hb)
              (try clear hb2)
              (try clear hk)
              (try clear hi)
              refine hK.out _ _ ⟨((HB.out.cell (World.block_lt_of_cell? w _ hw222_0)).trans hw222_0), ((HB.out.cell (World.block_lt_of_cell? w _ hw222_1)).trans hw222_1)⟩ (fun hHeld => ?_)
              clear hK K
              refine norm_ (a' := ?_) ?_ ?_
              rotate_left
              · show Act.put _ (some 18) _ = _
                simp only [Act.put, List.setIfInBounds_toArray, List.set_cons_zero, List.set_cons_succ, i64_w, i32_w]
                rfl
              refine pure_ (i := 7) (N := some 19) (v := ?_) (a' := ?_) #[true, true, true, true, true, true, true, true] rfl rfl (any_of HT_.out (by kernel_rfl)) (fun _ _ _ h => h) (Or.inl ⟨by rfl, ?_⟩) ?_ ?_
              rotate_left
              · intro w'
                go_simp
                with_reducible rfl
              rotate_left
              · simp only [Act.put, List.setIfInBounds_toArray, List.set_cons_zero, List.set_cons_succ, i64_w, i32_w]
                rfl
              refine done_ (done_of HT_.out (by kernel_rfl)) ?_
              have p224 : 0 ≤ (x5_1 : Int) := of_decide_eq_true (by first | (with_reducible assumption) | assumption)
              have q224 : x5_1 < (l0.length : Int) := of_decide_eq_true (by first | (with_reducible assumption) | assumption)
              obtain ⟨ad224, e224, hx224_0, hx224_1⟩ := at_T71 HR0.out x5_1 p224 q224
              obtain rfl : ad222 = ad224 := (by injection e224)
              replace hx224_0 := (HB.out.cell (World.block_lt_of_cell? w _ hx224_0)).trans hx224_0
              replace hx224_1 := (HB.out.cell (World.block_lt_of_cell? w _ hx224_1)).trans hx224_1
              replace p224 := eq_true p224
              replace q224 := eq_true q224
              try go_wp2
              go_ret
              exact ⟨by first | rfl | (simp only [u8_w_, w64_u8_]; done) | (simp only [u8_w_, w64_u8_]; rfl) | (simp [errW_none, errW_some] <;> rfl) | (simp [*, errW_none, errW_some] <;> rfl), by repeat (first | (with_reducible first | exact HB.out | apply below_alloc | apply pw_below_drewN | apply below_drew1) | exact HB.out)⟩
          · rw [if_neg c6] at H
            have c6b0 : (((rd_T71 l0 x5_1).f0).toList == t223.toList) = false := beq_eq_false_iff_ne.mpr c6
            have c6b1 : (((rd_T71 l0 x5_1).f0).toList != t223.toList) = true := bne_iff_ne.mpr c6
            obtain rfl := Option.some.inj H
            try go_wp2
            have n0_ := Aside0.mk (below_drew1 HB.out)
            clear HB
            have HB := n0_
            clear n0_
            have p222 : 0 ≤ (x5_1 : Int) := of_decide_eq_true (by first | (with_reducible assumption) | assumption)
            have q222 : x5_1 < (l0.length : Int) := of_decide_eq_true (by first | (with_reducible assumption) | assumption)
            obtain ⟨ad222, e222, hx222_0, hx222_1⟩ := at_T71 HR0.out x5_1 p222 q222
            have hw222_1 := hx222_1
            have hw222_0 := hx222_0
            cases e222
            replace hx222_0 := (HB.out.cell (World.block_lt_of_cell? w _ hx222_0)).trans hx222_0
            replace hx222_1 := (HB.out.cell (World.block_lt_of_cell? w _ hx222_1)).trans hx222_1
            replace p222 := eq_true p222
            replace q222 := eq_true q222
            refine start_ (n := 8) (S := fun w' => w'.cell? (ad222.add ((x5_1).toNat * 2)) = some (.string ((rd_T71 l0 x5_1).f0)) ∧ w'.cell? ⟨(ad222.add ((x5_1).toNat * 2)).block, (ad222.add ((x5_1).toNat * 2)).off + 1, none⟩ = some (.int .i64 ((rd_T71 l0 x5_1).f1))) (ds := []) #[false, false, false, false, false, false, false, false] (by kernel_rfl) rfl rfl ⟨((HB.out.cell (World.block_lt_of_cell? w _ hw222_0)).trans hw222_0), ((HB.out.cell (World.block_lt_of_cell? w _ hw222_1)).trans hw222_1)⟩ (fun hHeld => ?_); refine with_tabW laws_heldPairS.tab4 laws_heldPairS.bits4 (fun HT_ HW_ => ?_)
            generalize wr.drew = w12 at HB hx222_0 hx222_1 hHeld ⊢
            refine pure_ (i := 0) (N := some 12) (v := ?_) (a' := ?_) #[true, false, false, false, false, false, false, false] rfl rfl (any_of HT_.out (by kernel_rfl)) (fun _ _ _ h => h) (Or.inl ⟨by rfl, ?_⟩) ?_ ?_
            rotate_left
            · intro w'
              go_simp
              with_reducible rfl
            rotate_left
            · simp only [Act.put, List.setIfInBounds_toArray, List.set_cons_zero, List.set_cons_succ, i64_w, i32_w]
              rfl
            refine pure_ (i := 1) (N := some 13) (v := ?_) (a' := ?_) #[true, true, false, false, false, false, false, false] rfl rfl (any_of HT_.out (by kernel_rfl)) (fun _ _ _ h => h) (Or.inl ⟨by rfl, ?_⟩) ?_ ?_
            rotate_left
            · intro w'
              go_simp
              with_reducible rfl
            rotate_left
            · simp only [Act.put, List.setIfInBounds_toArray, List.set_cons_zero, List.set_cons_succ, i64_w, i32_w]
              rfl
            refine pure_ (i := 2) (N := some 14) (v := ?_) (a' := ?_) #[true, true, true, false, false, false, false, false] rfl rfl (any_of HT_.out (by kernel_rfl)) (fun _ _ _ h => h) (Or.inl ⟨by rfl, ?_⟩) ?_ ?_
            rotate_left
            · intro w'
              go_simp
              with_reducible rfl
            rotate_left
            · simp only [Act.put, List.setIfInBounds_toArray, List.set_cons_zero, List.set_cons_succ, i64_w, i32_w]
              rfl
            refine pure_ (i := 3) (N := some 15) (v := ?_) (a' := ?_) #[true, true, true, true, false, false, false, false] rfl rfl (any_of HT_.out (by kernel_rfl)) (fun _ _ _ h => h) (Or.inl ⟨by rfl, ?_⟩) ?_ ?_
            rotate_left
            · intro w'
              go_simp
              with_reducible rfl
            rotate_left
            · simp only [Act.put, List.setIfInBounds_toArray, List.set_cons_zero, List.set_cons_succ, i64_w, i32_w]
              rfl
            refine pure_ (i := 5) (N := some 17) (v := ?_) (a' := ?_) #[true, true, true, true, false, true, false, false] rfl rfl (any_of HT_.out (by kernel_rfl)) (fun _ _ _ h => h) (Or.inl ⟨by rfl, ?_⟩) ?_ ?_
            rotate_left
            · intro w'
              go_simp
              with_reducible rfl
            rotate_left
            · simp only [Act.put, List.setIfInBounds_toArray, List.set_cons_zero, List.set_cons_succ, i64_w, i32_w]
              rfl
            refine take_ (i := 4) (N := some 16) (v := ?_) (a' := ?_) #[true, true, true, true, true, true, false, false] rfl rfl (take_ofW HT_.out HW_.out (by kernel_rfl)) (fun _ _ _ h => h) (Or.inl ⟨by rfl, ?_⟩) hHeld ?_ ?_
            rotate_left
            · rintro w' ⟨s0, s1⟩
              go_simp
              with_reducible rfl
            rotate_left
            · simp only [Act.put, List.setIfInBounds_toArray, List.set_cons_zero, List.set_cons_succ, i64_w, i32_w]
              rfl
            refine one_ (i := 6) (N := some 18) #[true, true, true, true, true, true, true, false] rfl rfl (one_of HT_.out (by kernel_rfl)) (by decide) (fun K hK => ?_)
            refine goes_ Try.func65 (by kernel_rfl) rfl #[.int .i64 x1_1] (by rfl) rfl rfl (by (try simp only [List.map_toArray, List.map_cons, List.map_nil]); first | done | rfl | (simp only [List.length_drop, List.length_take]; rfl)) ?_
            with_reducible refine (laws_markText.calls k1 x1_1 t223 _ A5.out).mono ?_
            rintro e w13 ⟨rfl, hb⟩
            refine ⟨_, rfl, ?_⟩
            have n0_ := Aside0.mk (below_step (by repeat (first | (with_reducible first | exact HB.out | apply below_alloc | apply pw_below_drewN | apply below_drew1) | exact HB.out)) hb)
            clear HB
            have HB := n0_
            clear n0_
            (try clear hb)
            (try clear hb2)
            (try clear hk)
            (try clear hi)
            refine hK.out _ _ ⟨((HB.out.cell (World.block_lt_of_cell? w _ hw222_0)).trans hw222_0), ((HB.out.cell (World.block_lt_of_cell? w _ hw222_1)).trans hw222_1)⟩ (fun hHeld => ?_)
            clear hK K
            refine norm_ (a' := ?_) ?_ ?_
            rotate_left
            · show Act.put _ (some 18) _ = _
              simp only [Act.put, List.setIfInBounds_toArray, List.set_cons_zero, List.set_cons_succ, i64_w, i32_w]
              rfl
            refine pure_ (i := 7) (N := some 19) (v := ?_) (a' := ?_) #[true, true, true, true, true, true, true, true] rfl rfl (any_of HT_.out (by kernel_rfl)) (fun _ _ _ h => h) (Or.inl ⟨by rfl, ?_⟩) ?_ ?_
            rotate_left
            · intro w'
              go_simp
              with_reducible rfl
            rotate_left
            · simp only [Act.put, List.setIfInBounds_toArray, List.set_cons_zero, List.set_cons_succ, i64_w, i32_w]
              rfl
            refine done_ (done_of HT_.out (by kernel_rfl)) ?_
            try go_wp2
            go_ret
            exact ⟨by first | rfl | (simp only [u8_w_, w64_u8_]; done) | (simp only [u8_w_, w64_u8_]; rfl) | (simp [errW_none, errW_some] <;> rfl) | (simp [*, errW_none, errW_some] <;> rfl), by repeat (first | (with_reducible first | exact HB.out | apply below_alloc | apply pw_below_drewN | apply below_drew1) | exact HB.out)⟩
        · rw [if_neg c4] at H
          exact absurd H (by simp)
      · rw [if_neg c3] at H
        have c3b0 : decide (x5_1 < (l0.length : Int)) = false := decide_eq_false c3
        clear c3
        obtain rfl := Option.some.inj H
        go_wp2
        go_ret
        exact ⟨by first | rfl | (simp only [u8_w_, w64_u8_]; done) | (simp only [u8_w_, w64_u8_]; rfl) | (simp [errW_none, errW_some] <;> rfl) | (simp [*, errW_none, errW_some] <;> rfl), by repeat (first | (with_reducible first | exact HB.out | apply below_alloc | apply pw_below_drewN | apply below_drew1) | exact HB.out)⟩

/-! ### laws_heldPageS: function 42 -/
def laws_heldPageS.l0 : Nat → List (S64) → Int → Int → Option (Int)
  | 0, _, _, _ => none
  | k + 1, x0, x1, x5 => if x5 < (x0.length : Int) then (if 0 ≤ x5 then ((laws_heldPairS.f k ((rd_T64 x0 x5).f0) x1).bind fun t226 => (if t226 < 0 then (some (-1)) else (laws_heldPageS.l0 k x0 t226 (wrap64 (x5 + 1))))) else (none)) else (some x1)
def laws_heldPageS.f (k : Nat) (l0 : List (S64)) (a1 : Int) : Option (Int) := laws_heldPageS.l0 k l0 a1 0
theorem laws_heldPageS.mono_l : ∀ k, (∀ y0 y1 y2, LeO (laws_heldPageS.l0 k y0 y1 y2) (laws_heldPageS.l0 (k + 1) y0 y1 y2))
  | 0 => fun _ _ _ r h => by simp [laws_heldPageS.l0] at h
  | k + 1 => by
    have ih0 := laws_heldPageS.mono_l k
    · intro y0 y1 y2
      unfold laws_heldPageS.l0
      repeat' first
      | (with_reducible exact ih0 _ _ _)
      | (with_reducible exact laws_heldPairS.mono _ _ _)
      | (with_reducible exact LeO.refl _)
      | (with_reducible exact LeO.none _)
      | (with_reducible refine LeO.ite ?_ ?_)
      | (with_reducible refine LeO.bind ?_ (fun _ => ?_))
      | exact ih0 _ _ _
      | exact laws_heldPairS.mono _ _ _
      | exact LeO.none _
      | refine LeO.ite ?_ ?_
      | refine LeO.bind ?_ (fun _ => ?_)
theorem laws_heldPageS.mono : ∀ a0 a1 k, LeO (laws_heldPageS.f k a0 a1) (laws_heldPageS.f (k + 1) a0 a1) := by
  intro a0 a1 k
  have ih0 := laws_heldPageS.mono_l k
  unfold laws_heldPageS.f
  repeat' first
      | (with_reducible exact ih0 _ _ _)
      | (with_reducible exact laws_heldPairS.mono _ _ _)
      | (with_reducible exact LeO.refl _)
      | (with_reducible exact LeO.none _)
      | (with_reducible refine LeO.ite ?_ ?_)
      | (with_reducible refine LeO.bind ?_ (fun _ => ?_))
      | exact ih0 _ _ _
      | exact laws_heldPairS.mono _ _ _
      | exact LeO.none _
      | refine LeO.ite ?_ ?_
      | refine LeO.bind ?_ (fun _ => ?_)
set_option maxHeartbeats 8000000 in
set_option maxRecDepth 100000 in
theorem laws_heldPageS.calls (k : Nat) (A0 : Option Addr) (c0 : Nat) (l0 : List (S64)) (a1 : Int) (r : Int) (w : World) (hr0 : Kd.C k64 w A0 l0.length l0) (hc0 : l0.length ≤ c0) (h : laws_heldPageS.f k l0 a1 = some r) :
    Calls Try.prog 42 #[.slice A0 l0.length c0, .int .i64 a1] w fun e w' => e = .returned (.int .i64 r) ∧ Below w.heap.size w w' := by
  have HR0 := Aside0.mk hr0
  have HC0 := Aside0.mk hc0
  clear hr0 hc0
  have HB := Aside0.mk (Below.refl w.heap.size w)
  have H : (laws_heldPageS.l0 k l0 a1 0) = some r := h
  clear h
  have H' := Aside0.mk H
  clear H
  go_enter Try.func42, Try.ntmps42
  go_wp2
  go_loopg [1, 5] k (fun kq v1 v5 w' => ∃ (x1_1 : Int) (x5_1 : Int), v1 = .int .i64 x1_1 ∧ v5 = .int .i64 x5_1 ∧ Aside0 (laws_heldPageS.l0 kq l0 x1_1 x5_1 = some r) ∧ Aside0 (kq ≤ k) ∧ Aside0 (Below w.heap.size w w'))
  case atStart => exact ⟨(a1), (0), (by first | rfl | (simp; done) | (simp [bne]; done) | (simp [*]; done)), (by first | rfl | (simp; done) | (simp [bne]; done) | (simp [*]; done)), H', ⟨Nat.le_refl _⟩, ⟨by repeat (first | (with_reducible first | exact HB.out | apply below_alloc | apply pw_below_drewN | apply below_drew1) | exact HB.out)⟩⟩
  case round =>
    clear H'
    try clear p2
    obtain ⟨x1_1, x5_1, rfl, rfl, HA, HK1, HB⟩ := hrel
    cases gk with
    | zero => exact absurd HA.out (by simp [laws_heldPageS.l0])
    | succ k1 =>
      have H := HA.out
      clear HA
      simp only [laws_heldPageS.l0] at H
      by_cases c3 : x5_1 < (l0.length : Int)
      · rw [if_pos c3] at H
        have c3b0 : decide (x5_1 < (l0.length : Int)) = true := decide_eq_true c3
        clear c3
        by_cases c4 : 0 ≤ x5_1
        · rw [if_pos c4] at H
          have c4b0 : decide (0 ≤ x5_1) = true := decide_eq_true c4
          clear c4
          replace H := Option.bind_eq_some_iff.mp H
          obtain ⟨t226, A50, H⟩ := H
          replace H : (if t226 < 0 then (some (-1)) else (laws_heldPageS.l0 k1 l0 t226 (wrap64 (x5_1 + 1)))) = some r := H
          have A5 := Aside0.mk A50
          clear A50
          by_cases c6 : t226 < 0
          · rw [if_pos c6] at H
            have c6b0 : decide (t226 < 0) = true := decide_eq_true c6
            clear c6
            obtain rfl := Option.some.inj H
            have p225 : 0 ≤ (x5_1 : Int) := of_decide_eq_true (by first | (with_reducible assumption) | assumption)
            have q225 : x5_1 < (l0.length : Int) := of_decide_eq_true (by first | (with_reducible assumption) | assumption)
            obtain ⟨ad225, A225_0, c225_0, e225, hx225_0, hl225_0, hi225_0⟩ := at_T64 HR0.out x5_1 p225 q225
            cases e225
            replace hx225_0 := (HB.out.cell (World.block_lt_of_cell? w _ hx225_0)).trans hx225_0
            have HR225_0 := Aside0.mk hi225_0
            have HC225_0 := Aside0.mk hl225_0
            clear hi225_0 hl225_0
            replace p225 := eq_true p225
            replace q225 := eq_true q225
            go_wp2_with (first | ((with_reducible refine gate_callee (f := 44) rfl ?_); refine goesL_ (some 18) rfl rfl Try.func44 (by kernel_rfl) rfl #[.slice A225_0 ((rd_T64 l0 x5_1).f0).length c225_0, .int .i64 x1_1] rfl (by (try simp only [List.map_toArray, List.map_cons, List.map_nil]); first | done | rfl | (simp only [List.length_drop, List.length_take]; rfl)) ?_; (with_reducible refine (laws_heldPairS.calls k1 _ _ ((rd_T64 l0 x5_1).f0) x1_1 t226 _ ?side1 ?side2 A5.out).mono ?_); (case side1 => repeat (first | exact (Kd.C_below HR225_0.out HB.out) | (with_reducible refine Kd.C_alloc ?_ _) | (with_reducible refine Kd.C_drewN ?_ _) | (with_reducible refine Kd.C_drew ?_))); (case side2 => exact HC225_0.out); rintro e w7 ⟨rfl, hb⟩; refine ⟨_, rfl, ?_⟩; have n0_ := Aside0.mk (below_step (by repeat (first | (with_reducible first | exact HB.out | apply below_alloc | apply pw_below_drewN | apply below_drew1) | exact HB.out)) hb); clear HB; have HB := n0_; clear n0_; (try clear hb); (try clear hb2); (try clear hk); (try clear hi)))
            go_ret
            exact ⟨by first | rfl | (simp only [u8_w_, w64_u8_]; done) | (simp only [u8_w_, w64_u8_]; rfl) | (simp [errW_none, errW_some] <;> rfl) | (simp [*, errW_none, errW_some] <;> rfl), by repeat (first | (with_reducible first | exact HB.out | apply below_alloc | apply pw_below_drewN | apply below_drew1) | exact HB.out)⟩
          · rw [if_neg c6] at H
            have c6b0 : decide (t226 < 0) = false := decide_eq_false c6
            clear c6
            have H' := Aside0.mk H
            clear H
            have p225 : 0 ≤ (x5_1 : Int) := of_decide_eq_true (by first | (with_reducible assumption) | assumption)
            have q225 : x5_1 < (l0.length : Int) := of_decide_eq_true (by first | (with_reducible assumption) | assumption)
            obtain ⟨ad225, A225_0, c225_0, e225, hx225_0, hl225_0, hi225_0⟩ := at_T64 HR0.out x5_1 p225 q225
            cases e225
            replace hx225_0 := (HB.out.cell (World.block_lt_of_cell? w _ hx225_0)).trans hx225_0
            have HR225_0 := Aside0.mk hi225_0
            have HC225_0 := Aside0.mk hl225_0
            clear hi225_0 hl225_0
            replace p225 := eq_true p225
            replace q225 := eq_true q225
            go_wp2_with (first | ((with_reducible refine gate_callee (f := 44) rfl ?_); refine goesL_ (some 18) rfl rfl Try.func44 (by kernel_rfl) rfl #[.slice A225_0 ((rd_T64 l0 x5_1).f0).length c225_0, .int .i64 x1_1] rfl (by (try simp only [List.map_toArray, List.map_cons, List.map_nil]); first | done | rfl | (simp only [List.length_drop, List.length_take]; rfl)) ?_; (with_reducible refine (laws_heldPairS.calls k1 _ _ ((rd_T64 l0 x5_1).f0) x1_1 t226 _ ?side1 ?side2 A5.out).mono ?_); (case side1 => repeat (first | exact (Kd.C_below HR225_0.out HB.out) | (with_reducible refine Kd.C_alloc ?_ _) | (with_reducible refine Kd.C_drewN ?_ _) | (with_reducible refine Kd.C_drew ?_))); (case side2 => exact HC225_0.out); rintro e w8 ⟨rfl, hb⟩; refine ⟨_, rfl, ?_⟩; have n0_ := Aside0.mk (below_step (by repeat (first | (with_reducible first | exact HB.out | apply below_alloc | apply pw_below_drewN | apply below_drew1) | exact HB.out)) hb); clear HB; have HB := n0_; clear n0_; (try clear hb); (try clear hb2); (try clear hk); (try clear hi)))
            go_roundg k1
            case measure => have := HK1.out; omega
            case rel => exact ⟨(t226), (wrap64 (x5_1 + 1)), (by first | rfl | (simp; done) | (simp [bne]; done) | (simp [*]; done)), (by first | rfl | (simp; done) | (simp [bne]; done) | (simp [*]; done)), H', ⟨by have := HK1.out; omega⟩, ⟨by repeat (first | (with_reducible first | exact HB.out | apply below_alloc | apply pw_below_drewN | apply below_drew1) | exact HB.out)⟩⟩
        · rw [if_neg c4] at H
          exact absurd H (by simp)
      · rw [if_neg c3] at H
        have c3b0 : decide (x5_1 < (l0.length : Int)) = false := decide_eq_false c3
        clear c3
        obtain rfl := Option.some.inj H
        go_wp2
        go_ret
        exact ⟨by first | rfl | (simp only [u8_w_, w64_u8_]; done) | (simp only [u8_w_, w64_u8_]; rfl) | (simp [errW_none, errW_some] <;> rfl) | (simp [*, errW_none, errW_some] <;> rfl), by repeat (first | (with_reducible first | exact HB.out | apply below_alloc | apply pw_below_drewN | apply below_drew1) | exact HB.out)⟩

/-! ### laws_FnExactPagesOf: function 7 -/
def laws_FnExactPagesOf.f (k : Nat) (l0 : List (S96)) : Option (Bool) := ((laws_szPairS.f k l0 1048576).bind fun t0 => (if t0 < 0 then (some true) else ((laws_toPairS.f k l0).bind fun t1 => ((spec_PagesOf.f k t1).bind fun t2 => ((impl_PagesOf.f k t1).bind fun t3 => ((laws_eqPageS.f k t3 t2).bind fun t4 => ((laws_eqPairS.f k t1 t1).bind fun t5 => ((laws_markPairS.f k t1 1).bind fun t6 => ((laws_markPageS.f k t3 1).bind fun t7 => ((laws_heldPageS.f k t7.2 1).bind fun t8 => (if t4 = true ∧ t5 = true ∧ 0 ≤ t6.1 ∧ 0 ≤ t8 ∧ t8 = t7.1 then (some true) else (none))))))))))))
set_option maxHeartbeats 8000000 in
set_option maxRecDepth 100000 in
theorem laws_FnExactPagesOf.calls (k : Nat) (A0 : Option Addr) (c0 : Nat) (l0 : List (S96)) (r : Bool) (w : World) (hr0 : Kd.C k96 w A0 l0.length l0) (hc0 : l0.length ≤ c0) (h : laws_FnExactPagesOf.f k l0 = some r) :
    Calls Try.prog 7 #[.slice A0 l0.length c0] w fun e w' => e = .returned (.bool r) ∧ Below w.heap.size w w' := by
  have HR0 := Aside0.mk hr0
  have HC0 := Aside0.mk hc0
  clear hr0 hc0
  have HB := Aside0.mk (Below.refl w.heap.size w)
  unfold laws_FnExactPagesOf.f at h
  obtain ⟨t0, B00, h⟩ := Option.bind_eq_some_iff.mp h
  have B0 := Aside0.mk B00
  clear B00
  by_cases c1_ : t0 < 0
  · rw [if_pos c1_] at h
    have c1b0 : decide (t0 < 0) = true := decide_eq_true c1_
    clear c1_
    obtain rfl := Option.some.inj h
    clear h
    go_enter Try.func7, Try.ntmps7
    go_wp2_with (first | ((with_reducible refine gate_callee (f := 37) rfl ?_); refine goesL_ (some 13) rfl rfl Try.func37 (by kernel_rfl) rfl #[.slice A0 l0.length c0, .int .i64 1048576] rfl (by (try simp only [List.map_toArray, List.map_cons, List.map_nil]); first | done | rfl) ?_; refine (laws_szPairS.calls k _ _ l0 1048576 t0 _ (by repeat (first | exact (Kd.C_below HR0.out HB.out) | exact HR0.out | (with_reducible refine Kd.C_alloc ?_ _) | (with_reducible refine Kd.C_drewN ?_ _) | (with_reducible refine Kd.C_drew ?_))) HC0.out B0.out).mono ?_; rintro e w1 ⟨rfl, hb⟩; refine ⟨_, rfl, ?_⟩; have n0_ := Aside0.mk (show w.heap.size ≤ w1.heap.size from hb.size); have n1_ := Aside0.mk (below_step (by repeat (first | (with_reducible first | exact HB.out | apply below_alloc | apply pw_below_drewN | apply below_drew1) | exact HB.out)) hb); clear  HB; have HB := n1_; have Z1 := n0_; clear n0_ n1_ hb))
    go_ret
    exact ⟨rfl, (by repeat (first | (with_reducible first | exact HB.out | apply below_alloc | apply pw_below_drewN | apply below_drew1) | exact HB.out))⟩
  rw [if_neg c1_] at h
  have c1b0 : decide (t0 < 0) = false := decide_eq_false c1_
  clear c1_
  obtain ⟨t1, B10, h⟩ := Option.bind_eq_some_iff.mp h
  have B1 := Aside0.mk B10
  clear B10
  obtain ⟨t2, B20, h⟩ := Option.bind_eq_some_iff.mp h
  have B2 := Aside0.mk B20
  clear B20
  obtain ⟨t3, B30, h⟩ := Option.bind_eq_some_iff.mp h
  have B3 := Aside0.mk B30
  clear B30
  obtain ⟨t4, B40, h⟩ := Option.bind_eq_some_iff.mp h
  have B4 := Aside0.mk B40
  clear B40
  obtain ⟨t5, B50, h⟩ := Option.bind_eq_some_iff.mp h
  have B5 := Aside0.mk B50
  clear B50
  obtain ⟨⟨m6, y6⟩, B60, h⟩ := Option.bind_eq_some_iff.mp h
  have B6 := Aside0.mk B60
  clear B60
  obtain ⟨⟨m7, y7⟩, B70, h⟩ := Option.bind_eq_some_iff.mp h
  have B7 := Aside0.mk B70
  clear B70
  obtain ⟨t8, B80, h⟩ := Option.bind_eq_some_iff.mp h
  have B8 := Aside0.mk B80
  clear B80
  by_cases cc_ : t4 = true ∧ t5 = true ∧ 0 ≤ m6 ∧ 0 ≤ t8 ∧ t8 = m7
  · obtain ⟨rfl, rfl, h6_, h8_, he_⟩ := cc_
    have c6b0 : decide (m6 < 0) = false := decide_eq_false (by omega)
    have c8b0 : decide (t8 < 0) = false := decide_eq_false (by omega)
    have c8b1 : (t8 == m7) = true := beq_iff_eq.mpr he_
    have c8b2 : (t8 != m7) = false := bne_eq_false_iff_eq.mpr he_
    have hr_ : r = true := by
      have h1_ := h
      rw [if_pos ⟨rfl, rfl, h6_, h8_, he_⟩] at h1_
      exact (Option.some.inj h1_).symm
    subst hr_
    clear h h6_ h8_ he_
    go_enter Try.func7, Try.ntmps7
    go_wp2_with (first | ((with_reducible refine gate_callee (f := 37) rfl ?_); refine goesL_ (some 13) rfl rfl Try.func37 (by kernel_rfl) rfl #[.slice A0 l0.length c0, .int .i64 1048576] rfl (by (try simp only [List.map_toArray, List.map_cons, List.map_nil]); first | done | rfl) ?_; refine (laws_szPairS.calls k _ _ l0 1048576 t0 _ (by repeat (first | exact (Kd.C_below HR0.out HB.out) | exact HR0.out | (with_reducible refine Kd.C_alloc ?_ _) | (with_reducible refine Kd.C_drewN ?_ _) | (with_reducible refine Kd.C_drew ?_))) HC0.out B0.out).mono ?_; rintro e w1 ⟨rfl, hb⟩; refine ⟨_, rfl, ?_⟩; have n0_ := Aside0.mk (show w.heap.size ≤ w1.heap.size from hb.size); have n1_ := Aside0.mk (below_step (by repeat (first | (with_reducible first | exact HB.out | apply below_alloc | apply pw_below_drewN | apply below_drew1) | exact HB.out)) hb); clear  HB; have HB := n1_; have Z1 := n0_; clear n0_ n1_ hb) | ((with_reducible refine gate_callee (f := 38) rfl ?_); refine goesL_ (some 17) rfl rfl Try.func38 (by kernel_rfl) rfl #[.slice A0 l0.length c0] rfl (by (try simp only [List.map_toArray, List.map_cons, List.map_nil]); first | done | rfl) ?_; refine (laws_toPairS.calls k _ _ l0 t1 _ (by repeat (first | exact (Kd.C_below HR0.out HB.out) | exact HR0.out | (with_reducible refine Kd.C_alloc ?_ _) | (with_reducible refine Kd.C_drewN ?_ _) | (with_reducible refine Kd.C_drew ?_))) HC0.out B1.out).mono ?_; rintro e w2 ⟨v2_, rfl, ho, hb⟩; refine ⟨_, rfl, ?_⟩; have n0_ := Aside0.mk (show w1.heap.size ≤ w2.heap.size from hb.size); have n1_ := Aside0.mk (below_step (by repeat (first | (with_reducible first | exact HB.out | apply below_alloc | apply pw_below_drewN | apply below_drew1) | exact HB.out)) hb); have n2_ := Aside0.mk (show Kd.R k71 71 w2 w.heap.size (fun k_ => w1.heap.size ≤ k_ ∧ k_ < w2.heap.size) v2_ t1 from Kd.R_lower (Kd.R_mono (Kd.R_bound ho) (fun k_ hk_ => ⟨hk_.2.1, hk_.2.2.1⟩)) (below_size (by repeat (first | (with_reducible first | exact HB.out | apply below_alloc | apply pw_below_drewN | apply below_drew1) | exact HB.out)))); clear  HB; have HB := n1_; have Z2 := n0_; have HO2 := n2_; clear ho; obtain ⟨Ao2, co2, eo2⟩ := Kd.R_slice HO2.out; subst eo2; clear n0_ n1_ n2_ hb) | ((with_reducible refine gate_callee (f := 25) rfl ?_); refine goesL_ (some 18) rfl rfl Try.func25 (by kernel_rfl) rfl #[.slice Ao2 t1.length co2] rfl (by (try simp only [List.map_toArray, List.map_cons, List.map_nil]); first | done | rfl) ?_; refine (spec_PagesOf.calls k _ _ t1 t2 _ (by repeat (first | exact (Kd.R_reads' HO2.out).2.2 | (with_reducible refine Kd.C_alloc ?_ _) | (with_reducible refine Kd.C_drewN ?_ _) | (with_reducible refine Kd.C_drew ?_))) (by have h1_ := (Kd.R_reads' HO2.out).1; have h2_ := (Kd.R_reads' HO2.out).2.1; omega) B2.out).mono ?_; rintro e w3 ⟨v3_, rfl, ho, hb⟩; refine ⟨_, rfl, ?_⟩; have n0_ := Aside0.mk (Kd.R_below (by (with_reducible repeat (first | apply Kd.R_alloc | apply Kd.R_drewN | apply Kd.R_drew)); exact HO2.out) hb); have n1_ := Aside0.mk (show w2.heap.size ≤ w3.heap.size from hb.size); have n2_ := Aside0.mk (below_step (by repeat (first | (with_reducible first | exact HB.out | apply below_alloc | apply pw_below_drewN | apply below_drew1) | exact HB.out)) hb); have n3_ := Aside0.mk (show Kd.S k64 64 w3 w.heap.size (fun k_ => w2.heap.size ≤ k_ ∧ k_ < w3.heap.size) v3_ t2 from Kd.S_lower (Kd.S_mono (Kd.S_bound ho) (fun k_ hk_ => ⟨hk_.2.1, hk_.2.2.1⟩)) (below_size (by repeat (first | (with_reducible first | exact HB.out | apply below_alloc | apply pw_below_drewN | apply below_drew1) | exact HB.out)))); clear HO2 HB; have HO2 := n0_; have HB := n2_; have Z3 := n1_; have HO3 := n3_; clear ho; obtain ⟨Ao3, co3, eo3⟩ := Kd.S_slice HO3.out; subst eo3; clear n0_ n1_ n2_ n3_ hb; clear HO2) | ((with_reducible refine gate_callee (f := 38) rfl ?_); refine goesL_ (some 20) rfl rfl Try.func38 (by kernel_rfl) rfl #[.slice A0 l0.length c0] rfl (by (try simp only [List.map_toArray, List.map_cons, List.map_nil]); first | done | rfl) ?_; refine (laws_toPairS.calls k _ _ l0 t1 _ (by repeat (first | exact (Kd.C_below HR0.out HB.out) | exact HR0.out | (with_reducible refine Kd.C_alloc ?_ _) | (with_reducible refine Kd.C_drewN ?_ _) | (with_reducible refine Kd.C_drew ?_))) HC0.out B1.out).mono ?_; rintro e w4 ⟨v4_, rfl, ho, hb⟩; refine ⟨_, rfl, ?_⟩; have n0_ := Aside0.mk (Kd.S_below (by (with_reducible repeat (first | apply Kd.S_alloc | apply Kd.S_drewN | apply Kd.S_drew)); exact HO3.out) hb); have n1_ := Aside0.mk (show w3.heap.size ≤ w4.heap.size from hb.size); have n2_ := Aside0.mk (below_step (by repeat (first | (with_reducible first | exact HB.out | apply below_alloc | apply pw_below_drewN | apply below_drew1) | exact HB.out)) hb); have n3_ := Aside0.mk (show Kd.R k71 71 w4 w.heap.size (fun k_ => w3.heap.size ≤ k_ ∧ k_ < w4.heap.size) v4_ t1 from Kd.R_lower (Kd.R_mono (Kd.R_bound ho) (fun k_ hk_ => ⟨hk_.2.1, hk_.2.2.1⟩)) (below_size (by repeat (first | (with_reducible first | exact HB.out | apply below_alloc | apply pw_below_drewN | apply below_drew1) | exact HB.out)))); clear HO3 HB; have HO3 := n0_; have HB := n2_; have Z4 := n1_; have HO4 := n3_; clear ho; obtain ⟨Ao4, co4, eo4⟩ := Kd.R_slice HO4.out; subst eo4; clear n0_ n1_ n2_ n3_ hb) | ((with_reducible refine gate_callee (f := 23) rfl ?_); refine goesL_ (some 22) rfl rfl Try.func23 (by kernel_rfl) rfl #[.slice Ao4 t1.length co4] rfl (by (try simp only [List.map_toArray, List.map_cons, List.map_nil]); first | done | rfl) ?_; refine (impl_PagesOf.calls k _ _ t1 t3 _ (by repeat (first | exact (Kd.R_reads' HO4.out).2.2 | (with_reducible refine Kd.C_alloc ?_ _) | (with_reducible refine Kd.C_drewN ?_ _) | (with_reducible refine Kd.C_drew ?_))) (by have h1_ := (Kd.R_reads' HO4.out).1; have h2_ := (Kd.R_reads' HO4.out).2.1; omega) B3.out).mono ?_; rintro e w5 ⟨v5_, rfl, ho, hb⟩; refine ⟨_, rfl, ?_⟩; have n0_ := Aside0.mk (Kd.S_below (by (with_reducible repeat (first | apply Kd.S_alloc | apply Kd.S_drewN | apply Kd.S_drew)); exact HO3.out) hb); have n1_ := Aside0.mk (Kd.R_below (by (with_reducible repeat (first | apply Kd.R_alloc | apply Kd.R_drewN | apply Kd.R_drew)); exact HO4.out) hb); have n2_ := Aside0.mk (show w4.heap.size ≤ w5.heap.size from hb.size); have n3_ := Aside0.mk (below_step (by repeat (first | (with_reducible first | exact HB.out | apply below_alloc | apply pw_below_drewN | apply below_drew1) | exact HB.out)) hb); have n4_ := Aside0.mk (show Kd.S k64 64 w5 w.heap.size (fun k_ => w4.heap.size ≤ k_ ∧ k_ < w5.heap.size) v5_ t3 from Kd.S_lower (Kd.S_mono (Kd.S_bound ho) (fun k_ hk_ => ⟨hk_.2.1, hk_.2.2.1⟩)) (below_size (by repeat (first | (with_reducible first | exact HB.out | apply below_alloc | apply pw_below_drewN | apply below_drew1) | exact HB.out)))); clear HO3 HO4 HB; have HO3 := n0_; have HO4 := n1_; have HB := n3_; have Z5 := n2_; have HO5 := n4_; clear ho; obtain ⟨Ao5, co5, eo5⟩ := Kd.S_slice HO5.out; subst eo5; clear n0_ n1_ n2_ n3_ n4_ hb) | ((with_reducible refine gate_callee (f := 34) rfl ?_); refine goesL_ (some 25) rfl rfl Try.func34 (by kernel_rfl) rfl #[.slice Ao5 t3.length co5, .slice Ao3 t2.length co3] rfl (by (try simp only [List.map_toArray, List.map_cons, List.map_nil]); first | done | rfl) ?_; refine (laws_eqPageS.calls k _ _ t3 _ _ t2 true _ (by repeat (first | exact (Kd.S_reads' HO5.out).2.2 | (with_reducible refine Kd.C_alloc ?_ _) | (with_reducible refine Kd.C_drewN ?_ _) | (with_reducible refine Kd.C_drew ?_))) (by have h1_ := (Kd.S_reads' HO5.out).1; have h2_ := (Kd.S_reads' HO5.out).2.1; omega) (by repeat (first | exact (Kd.S_reads' HO3.out).2.2 | (with_reducible refine Kd.C_alloc ?_ _) | (with_reducible refine Kd.C_drewN ?_ _) | (with_reducible refine Kd.C_drew ?_))) (by have h1_ := (Kd.S_reads' HO3.out).1; have h2_ := (Kd.S_reads' HO3.out).2.1; omega) B4.out).mono ?_; rintro e w6 ⟨rfl, hb⟩; refine ⟨_, rfl, ?_⟩; have n0_ := Aside0.mk (Kd.S_below (by (with_reducible repeat (first | apply Kd.S_alloc | apply Kd.S_drewN | apply Kd.S_drew)); exact HO3.out) hb); have n1_ := Aside0.mk (Kd.R_below (by (with_reducible repeat (first | apply Kd.R_alloc | apply Kd.R_drewN | apply Kd.R_drew)); exact HO4.out) hb); have n2_ := Aside0.mk (Kd.S_below (by (with_reducible repeat (first | apply Kd.S_alloc | apply Kd.S_drewN | apply Kd.S_drew)); exact HO5.out) hb); have n3_ := Aside0.mk (show w5.heap.size ≤ w6.heap.size from hb.size); have n4_ := Aside0.mk (below_step (by repeat (first | (with_reducible first | exact HB.out | apply below_alloc | apply pw_below_drewN | apply below_drew1) | exact HB.out)) hb); clear HO3 HO4 HO5 HB; have HO3 := n0_; have HO4 := n1_; have HO5 := n2_; have HB := n4_; have Z6 := n3_; clear n0_ n1_ n2_ n3_ n4_ hb) | ((with_reducible refine gate_callee (f := 38) rfl ?_); refine goesL_ (some 29) rfl rfl Try.func38 (by kernel_rfl) rfl #[.slice A0 l0.length c0] rfl (by (try simp only [List.map_toArray, List.map_cons, List.map_nil]); first | done | rfl) ?_; refine (laws_toPairS.calls k _ _ l0 t1 _ (by repeat (first | exact (Kd.C_below HR0.out HB.out) | exact HR0.out | (with_reducible refine Kd.C_alloc ?_ _) | (with_reducible refine Kd.C_drewN ?_ _) | (with_reducible refine Kd.C_drew ?_))) HC0.out B1.out).mono ?_; rintro e w7 ⟨v7_, rfl, ho, hb⟩; refine ⟨_, rfl, ?_⟩; have n0_ := Aside0.mk (Kd.S_below (by (with_reducible repeat (first | apply Kd.S_alloc | apply Kd.S_drewN | apply Kd.S_drew)); exact HO3.out) hb); have n1_ := Aside0.mk (Kd.R_below (by (with_reducible repeat (first | apply Kd.R_alloc | apply Kd.R_drewN | apply Kd.R_drew)); exact HO4.out) hb); have n2_ := Aside0.mk (Kd.S_below (by (with_reducible repeat (first | apply Kd.S_alloc | apply Kd.S_drewN | apply Kd.S_drew)); exact HO5.out) hb); have n3_ := Aside0.mk (show w6.heap.size ≤ w7.heap.size from hb.size); have n4_ := Aside0.mk (below_step (by repeat (first | (with_reducible first | exact HB.out | apply below_alloc | apply pw_below_drewN | apply below_drew1) | exact HB.out)) hb); have n5_ := Aside0.mk (show Kd.R k71 71 w7 w.heap.size (fun k_ => w6.heap.size ≤ k_ ∧ k_ < w7.heap.size) v7_ t1 from Kd.R_lower (Kd.R_mono (Kd.R_bound ho) (fun k_ hk_ => ⟨hk_.2.1, hk_.2.2.1⟩)) (below_size (by repeat (first | (with_reducible first | exact HB.out | apply below_alloc | apply pw_below_drewN | apply below_drew1) | exact HB.out)))); clear HO3 HO4 HO5 HB; have HO3 := n0_; have HO4 := n1_; have HO5 := n2_; have HB := n4_; have Z7 := n3_; have HO7 := n5_; clear ho; obtain ⟨Ao7, co7, eo7⟩ := Kd.R_slice HO7.out; subst eo7; clear n0_ n1_ n2_ n3_ n4_ n5_ hb) | ((with_reducible refine gate_callee (f := 39) rfl ?_); refine goesL_ (some 30) rfl rfl Try.func39 (by kernel_rfl) rfl #[.slice Ao4 t1.length co4, .slice Ao7 t1.length co7] rfl (by (try simp only [List.map_toArray, List.map_cons, List.map_nil]); first | done | rfl) ?_; refine (laws_eqPairS.calls k _ _ t1 _ _ t1 true _ (by repeat (first | exact (Kd.R_reads' HO4.out).2.2 | (with_reducible refine Kd.C_alloc ?_ _) | (with_reducible refine Kd.C_drewN ?_ _) | (with_reducible refine Kd.C_drew ?_))) (by have h1_ := (Kd.R_reads' HO4.out).1; have h2_ := (Kd.R_reads' HO4.out).2.1; omega) (by repeat (first | exact (Kd.R_reads' HO7.out).2.2 | (with_reducible refine Kd.C_alloc ?_ _) | (with_reducible refine Kd.C_drewN ?_ _) | (with_reducible refine Kd.C_drew ?_))) (by have h1_ := (Kd.R_reads' HO7.out).1; have h2_ := (Kd.R_reads' HO7.out).2.1; omega) B5.out).mono ?_; rintro e w8 ⟨rfl, hb⟩; refine ⟨_, rfl, ?_⟩; have n0_ := Aside0.mk (Kd.S_below (by (with_reducible repeat (first | apply Kd.S_alloc | apply Kd.S_drewN | apply Kd.S_drew)); exact HO3.out) hb); have n1_ := Aside0.mk (Kd.R_below (by (with_reducible repeat (first | apply Kd.R_alloc | apply Kd.R_drewN | apply Kd.R_drew)); exact HO4.out) hb); have n2_ := Aside0.mk (Kd.S_below (by (with_reducible repeat (first | apply Kd.S_alloc | apply Kd.S_drewN | apply Kd.S_drew)); exact HO5.out) hb); have n3_ := Aside0.mk (Kd.R_below (by (with_reducible repeat (first | apply Kd.R_alloc | apply Kd.R_drewN | apply Kd.R_drew)); exact HO7.out) hb); have n4_ := Aside0.mk (show w7.heap.size ≤ w8.heap.size from hb.size); have n5_ := Aside0.mk (below_step (by repeat (first | (with_reducible first | exact HB.out | apply below_alloc | apply pw_below_drewN | apply below_drew1) | exact HB.out)) hb); clear HO3 HO4 HO5 HO7 HB; have HO3 := n0_; have HO4 := n1_; have HO5 := n2_; have HO7 := n3_; have HB := n5_; have Z8 := n4_; clear n0_ n1_ n2_ n3_ n4_ n5_ hb; clear HO7) | ((with_reducible refine gate_callee (f := 40) rfl ?_); refine goesL_ (some 34) rfl rfl Try.func40 (by kernel_rfl) rfl #[.slice Ao4 t1.length co4, .int .i64 1] rfl (by (try simp only [List.map_toArray, List.map_cons, List.map_nil]); first | done | rfl) ?_; refine (laws_markPairS.calls k (fun k_ => w3.heap.size ≤ k_ ∧ k_ < w4.heap.size) _ t1 1 m6 y6 w _ (by repeat (first | (with_reducible first | exact HB.out | apply below_alloc | apply pw_below_drewN | apply below_drew1) | exact HB.out)) (by (with_reducible repeat (first | apply Kd.R_alloc | apply Kd.R_drewN | apply Kd.R_drew)); exact HO4.out) B6.out).mono ?_; rintro e w9 ⟨rfl, hy, hb, hk⟩; refine ⟨_, rfl, ?_⟩; have n0_ := Aside0.mk (show Kd.R k71 71 w9 w.heap.size (fun k_ => w3.heap.size ≤ k_ ∧ k_ < w4.heap.size) (.slice Ao4 t1.length co4) y6 from Kd.R_mono (Kd.R_tight rfl hy) (fun k_ e_ => HO4.out.1 k_ e_.symm)); have n1_ := Aside0.mk (Kd.S_kept (by (with_reducible repeat (first | apply Kd.S_alloc | apply Kd.S_drewN | apply Kd.S_drew)); exact HO3.out) hk (fun k_ (h1_ : w2.heap.size ≤ k_ ∧ k_ < w3.heap.size) (h2_ : w3.heap.size ≤ k_ ∧ k_ < w4.heap.size) => by have z1_ := Z1.out; have z2_ := Z2.out; have z3_ := Z3.out; have z4_ := Z4.out; have z5_ := Z5.out; have z6_ := Z6.out; have z7_ := Z7.out; have z8_ := Z8.out; omega)); have n2_ := Aside0.mk (Kd.S_kept (by (with_reducible repeat (first | apply Kd.S_alloc | apply Kd.S_drewN | apply Kd.S_drew)); exact HO5.out) hk (fun k_ (h1_ : w4.heap.size ≤ k_ ∧ k_ < w5.heap.size) (h2_ : w3.heap.size ≤ k_ ∧ k_ < w4.heap.size) => by have z1_ := Z1.out; have z2_ := Z2.out; have z3_ := Z3.out; have z4_ := Z4.out; have z5_ := Z5.out; have z6_ := Z6.out; have z7_ := Z7.out; have z8_ := Z8.out; omega)); have n3_ := Aside0.mk (show w8.heap.size ≤ w9.heap.size from hk.1); have n4_ := Aside0.mk (hb); have n5_ := Aside0.mk (show t1.length = y6.length from (Kd.R_reads' n0_.out).1); clear HO3 HO4 HO5 HB; have HO3 := n1_; have HO4 := n0_; have HO5 := n2_; have HB := n4_; have Z9 := n3_; have LN9 := n5_; clear n0_ n1_ n2_ n3_ n4_ n5_ hy hb hk; clear HO4) | (go_at_call 34; refine (laws_eqPageS.calls k _ _ t3 _ _ t2 true _ (by repeat (first | exact (Kd.S_reads' HO5.out).2.2 | (with_reducible refine Kd.C_alloc ?_ _) | (with_reducible refine Kd.C_drewN ?_ _) | (with_reducible refine Kd.C_drew ?_))) (by have h1_ := (Kd.S_reads' HO5.out).1; have h2_ := (Kd.S_reads' HO5.out).2.1; omega) (by repeat (first | exact (Kd.S_reads' HO3.out).2.2 | (with_reducible refine Kd.C_alloc ?_ _) | (with_reducible refine Kd.C_drewN ?_ _) | (with_reducible refine Kd.C_drew ?_))) (by have h1_ := (Kd.S_reads' HO3.out).1; have h2_ := (Kd.S_reads' HO3.out).2.1; omega) B4.out).mono ?_; rintro e w10 ⟨rfl, hb⟩; have n0_ := Aside0.mk (Kd.S_below (by (with_reducible repeat (first | apply Kd.S_alloc | apply Kd.S_drewN | apply Kd.S_drew)); exact HO3.out) hb); have n1_ := Aside0.mk (Kd.S_below (by (with_reducible repeat (first | apply Kd.S_alloc | apply Kd.S_drewN | apply Kd.S_drew)); exact HO5.out) hb); have n2_ := Aside0.mk (show w9.heap.size ≤ w10.heap.size from hb.size); have n3_ := Aside0.mk (below_step (by repeat (first | (with_reducible first | exact HB.out | apply below_alloc | apply pw_below_drewN | apply below_drew1) | exact HB.out)) hb); clear HO3 HO5 HB; have HO3 := n0_; have HO5 := n1_; have HB := n3_; have Z10 := n2_; clear n0_ n1_ n2_ n3_ hb) | ((with_reducible refine gate_callee (f := 41) rfl ?_); refine goesL_ (some 45) rfl rfl Try.func41 (by kernel_rfl) rfl #[.slice Ao5 t3.length co5, .int .i64 1] rfl (by (try simp only [List.map_toArray, List.map_cons, List.map_nil]); first | done | rfl) ?_; refine (laws_markPageS.calls k (fun k_ => w4.heap.size ≤ k_ ∧ k_ < w5.heap.size) _ t3 1 m7 y7 w _ (by repeat (first | (with_reducible first | exact HB.out | apply below_alloc | apply pw_below_drewN | apply below_drew1) | exact HB.out)) (by (with_reducible repeat (first | apply Kd.S_alloc | apply Kd.S_drewN | apply Kd.S_drew)); exact HO5.out) B7.out).mono ?_; rintro e w11 ⟨rfl, hy, hb, hk⟩; refine ⟨_, rfl, ?_⟩; have n0_ := Aside0.mk (show Kd.S k64 64 w11 w.heap.size (fun k_ => w4.heap.size ≤ k_ ∧ k_ < w5.heap.size) (.slice Ao5 t3.length co5) y7 from hy); have n1_ := Aside0.mk (Kd.S_kept (by (with_reducible repeat (first | apply Kd.S_alloc | apply Kd.S_drewN | apply Kd.S_drew)); exact HO3.out) hk (fun k_ (h1_ : w2.heap.size ≤ k_ ∧ k_ < w3.heap.size) (h2_ : w4.heap.size ≤ k_ ∧ k_ < w5.heap.size) => by have z1_ := Z1.out; have z2_ := Z2.out; have z3_ := Z3.out; have z4_ := Z4.out; have z5_ := Z5.out; have z6_ := Z6.out; have z7_ := Z7.out; have z8_ := Z8.out; have z9_ := Z9.out; have z10_ := Z10.out; omega)); have n2_ := Aside0.mk (show w10.heap.size ≤ w11.heap.size from hk.1); have n3_ := Aside0.mk (hb); have n4_ := Aside0.mk (show t3.length = y7.length from (Kd.S_reads' n0_.out).1); clear HO3 HO5 HB; have HO3 := n1_; have HO5 := n0_; have HB := n3_; have Z11 := n2_; have LN11 := n4_; clear n0_ n1_ n2_ n3_ n4_ hy hb hk) | ((with_reducible refine gate_callee (f := 42) rfl ?_); refine goesL_ (some 48) rfl rfl Try.func42 (by kernel_rfl) rfl #[.slice Ao5 t3.length co5, .int .i64 1] rfl (by (try simp only [List.map_toArray, List.map_cons, List.map_nil]); first | done | rfl) ?_; refine calls_of_args (args' := #[.slice Ao5 y7.length co5, .int .i64 1]) (by rw [LN11.out]) ?_; refine (laws_heldPageS.calls k _ _ y7 1 t8 _ (by repeat (first | exact (Kd.S_reads' HO5.out).2.2 | (with_reducible refine Kd.C_alloc ?_ _) | (with_reducible refine Kd.C_drewN ?_ _) | (with_reducible refine Kd.C_drew ?_))) (by have h1_ := (Kd.S_reads' HO5.out).1; have h2_ := (Kd.S_reads' HO5.out).2.1; omega) B8.out).mono ?_; rintro e w12 ⟨rfl, hb⟩; refine ⟨_, rfl, ?_⟩; have n0_ := Aside0.mk (Kd.S_below (by (with_reducible repeat (first | apply Kd.S_alloc | apply Kd.S_drewN | apply Kd.S_drew)); exact HO3.out) hb); have n1_ := Aside0.mk (Kd.S_below (by (with_reducible repeat (first | apply Kd.S_alloc | apply Kd.S_drewN | apply Kd.S_drew)); exact HO5.out) hb); have n2_ := Aside0.mk (show w11.heap.size ≤ w12.heap.size from hb.size); have n3_ := Aside0.mk (below_step (by repeat (first | (with_reducible first | exact HB.out | apply below_alloc | apply pw_below_drewN | apply below_drew1) | exact HB.out)) hb); clear HO3 HO5 HB; have HO3 := n0_; have HO5 := n1_; have HB := n3_; have Z12 := n2_; clear n0_ n1_ n2_ n3_ hb) | ((with_reducible refine gate_callee (f := 38) rfl ?_); refine goesL_ (some 55) rfl rfl Try.func38 (by kernel_rfl) rfl #[.slice A0 l0.length c0] rfl (by (try simp only [List.map_toArray, List.map_cons, List.map_nil]); first | done | rfl) ?_; refine (laws_toPairS.calls k _ _ l0 t1 _ (by repeat (first | exact (Kd.C_below HR0.out HB.out) | exact HR0.out | (with_reducible refine Kd.C_alloc ?_ _) | (with_reducible refine Kd.C_drewN ?_ _) | (with_reducible refine Kd.C_drew ?_))) HC0.out B1.out).mono ?_; rintro e w13 ⟨v13_, rfl, ho, hb⟩; refine ⟨_, rfl, ?_⟩; have n0_ := Aside0.mk (Kd.S_below (by (with_reducible repeat (first | apply Kd.S_alloc | apply Kd.S_drewN | apply Kd.S_drew)); exact HO3.out) hb); have n1_ := Aside0.mk (Kd.S_below (by (with_reducible repeat (first | apply Kd.S_alloc | apply Kd.S_drewN | apply Kd.S_drew)); exact HO5.out) hb); have n2_ := Aside0.mk (show w12.heap.size ≤ w13.heap.size from hb.size); have n3_ := Aside0.mk (below_step (by repeat (first | (with_reducible first | exact HB.out | apply below_alloc | apply pw_below_drewN | apply below_drew1) | exact HB.out)) hb); have n4_ := Aside0.mk (show Kd.R k71 71 w13 w.heap.size (fun k_ => w12.heap.size ≤ k_ ∧ k_ < w13.heap.size) v13_ t1 from Kd.R_lower (Kd.R_mono (Kd.R_bound ho) (fun k_ hk_ => ⟨hk_.2.1, hk_.2.2.1⟩)) (below_size (by repeat (first | (with_reducible first | exact HB.out | apply below_alloc | apply pw_below_drewN | apply below_drew1) | exact HB.out)))); clear HO3 HO5 HB; have HO3 := n0_; have HO5 := n1_; have HB := n3_; have Z13 := n2_; have HO13 := n4_; clear ho; obtain ⟨Ao13, co13, eo13⟩ := Kd.R_slice HO13.out; subst eo13; clear n0_ n1_ n2_ n3_ n4_ hb) | ((with_reducible refine gate_callee (f := 23) rfl ?_); refine goesL_ (some 56) rfl rfl Try.func23 (by kernel_rfl) rfl #[.slice Ao13 t1.length co13] rfl (by (try simp only [List.map_toArray, List.map_cons, List.map_nil]); first | done | rfl) ?_; refine (impl_PagesOf.calls k _ _ t1 t3 _ (by repeat (first | exact (Kd.R_reads' HO13.out).2.2 | (with_reducible refine Kd.C_alloc ?_ _) | (with_reducible refine Kd.C_drewN ?_ _) | (with_reducible refine Kd.C_drew ?_))) (by have h1_ := (Kd.R_reads' HO13.out).1; have h2_ := (Kd.R_reads' HO13.out).2.1; omega) B3.out).mono ?_; rintro e w14 ⟨v14_, rfl, ho, hb⟩; refine ⟨_, rfl, ?_⟩; have n0_ := Aside0.mk (Kd.S_below (by (with_reducible repeat (first | apply Kd.S_alloc | apply Kd.S_drewN | apply Kd.S_drew)); exact HO3.out) hb); have n1_ := Aside0.mk (Kd.S_below (by (with_reducible repeat (first | apply Kd.S_alloc | apply Kd.S_drewN | apply Kd.S_drew)); exact HO5.out) hb); have n2_ := Aside0.mk (Kd.R_below (by (with_reducible repeat (first | apply Kd.R_alloc | apply Kd.R_drewN | apply Kd.R_drew)); exact HO13.out) hb); have n3_ := Aside0.mk (show w13.heap.size ≤ w14.heap.size from hb.size); have n4_ := Aside0.mk (below_step (by repeat (first | (with_reducible first | exact HB.out | apply below_alloc | apply pw_below_drewN | apply below_drew1) | exact HB.out)) hb); have n5_ := Aside0.mk (show Kd.S k64 64 w14 w.heap.size (fun k_ => w13.heap.size ≤ k_ ∧ k_ < w14.heap.size) v14_ t3 from Kd.S_lower (Kd.S_mono (Kd.S_bound ho) (fun k_ hk_ => ⟨hk_.2.1, hk_.2.2.1⟩)) (below_size (by repeat (first | (with_reducible first | exact HB.out | apply below_alloc | apply pw_below_drewN | apply below_drew1) | exact HB.out)))); clear HO3 HO5 HO13 HB; have HO3 := n0_; have HO5 := n1_; have HO13 := n2_; have HB := n4_; have Z14 := n3_; have HO14 := n5_; clear ho; obtain ⟨Ao14, co14, eo14⟩ := Kd.S_slice HO14.out; subst eo14; clear n0_ n1_ n2_ n3_ n4_ n5_ hb; clear HO13) | ((with_reducible refine gate_callee (f := 34) rfl ?_); refine goesL_ (some 59) rfl rfl Try.func34 (by kernel_rfl) rfl #[.slice Ao14 t3.length co14, .slice Ao3 t2.length co3] rfl (by (try simp only [List.map_toArray, List.map_cons, List.map_nil]); first | done | rfl) ?_; refine (laws_eqPageS.calls k _ _ t3 _ _ t2 true _ (by repeat (first | exact (Kd.S_reads' HO14.out).2.2 | (with_reducible refine Kd.C_alloc ?_ _) | (with_reducible refine Kd.C_drewN ?_ _) | (with_reducible refine Kd.C_drew ?_))) (by have h1_ := (Kd.S_reads' HO14.out).1; have h2_ := (Kd.S_reads' HO14.out).2.1; omega) (by repeat (first | exact (Kd.S_reads' HO3.out).2.2 | (with_reducible refine Kd.C_alloc ?_ _) | (with_reducible refine Kd.C_drewN ?_ _) | (with_reducible refine Kd.C_drew ?_))) (by have h1_ := (Kd.S_reads' HO3.out).1; have h2_ := (Kd.S_reads' HO3.out).2.1; omega) B4.out).mono ?_; rintro e w15 ⟨rfl, hb⟩; refine ⟨_, rfl, ?_⟩; have n0_ := Aside0.mk (Kd.S_below (by (with_reducible repeat (first | apply Kd.S_alloc | apply Kd.S_drewN | apply Kd.S_drew)); exact HO3.out) hb); have n1_ := Aside0.mk (Kd.S_below (by (with_reducible repeat (first | apply Kd.S_alloc | apply Kd.S_drewN | apply Kd.S_drew)); exact HO5.out) hb); have n2_ := Aside0.mk (Kd.S_below (by (with_reducible repeat (first | apply Kd.S_alloc | apply Kd.S_drewN | apply Kd.S_drew)); exact HO14.out) hb); have n3_ := Aside0.mk (show w14.heap.size ≤ w15.heap.size from hb.size); have n4_ := Aside0.mk (below_step (by repeat (first | (with_reducible first | exact HB.out | apply below_alloc | apply pw_below_drewN | apply below_drew1) | exact HB.out)) hb); clear HO3 HO5 HO14 HB; have HO3 := n0_; have HO5 := n1_; have HO14 := n2_; have HB := n4_; have Z15 := n3_; clear n0_ n1_ n2_ n3_ n4_ hb; clear HO3; clear HO14) | ((with_reducible refine gate_callee (f := 42) rfl ?_); refine goesL_ (some 63) rfl rfl Try.func42 (by kernel_rfl) rfl #[.slice Ao5 t3.length co5, .int .i64 1] rfl (by (try simp only [List.map_toArray, List.map_cons, List.map_nil]); first | done | rfl) ?_; refine calls_of_args (args' := #[.slice Ao5 y7.length co5, .int .i64 1]) (by rw [LN11.out]) ?_; refine (laws_heldPageS.calls k _ _ y7 1 t8 _ (by repeat (first | exact (Kd.S_reads' HO5.out).2.2 | (with_reducible refine Kd.C_alloc ?_ _) | (with_reducible refine Kd.C_drewN ?_ _) | (with_reducible refine Kd.C_drew ?_))) (by have h1_ := (Kd.S_reads' HO5.out).1; have h2_ := (Kd.S_reads' HO5.out).2.1; omega) B8.out).mono ?_; rintro e w16 ⟨rfl, hb⟩; refine ⟨_, rfl, ?_⟩; have n0_ := Aside0.mk (Kd.S_below (by (with_reducible repeat (first | apply Kd.S_alloc | apply Kd.S_drewN | apply Kd.S_drew)); exact HO5.out) hb); have n1_ := Aside0.mk (show w15.heap.size ≤ w16.heap.size from hb.size); have n2_ := Aside0.mk (below_step (by repeat (first | (with_reducible first | exact HB.out | apply below_alloc | apply pw_below_drewN | apply below_drew1) | exact HB.out)) hb); clear HO5 HB; have HO5 := n0_; have HB := n2_; have Z16 := n1_; clear n0_ n1_ n2_ hb))
    go_ret
    exact ⟨rfl, (by repeat (first | (with_reducible first | exact HB.out | apply below_alloc | apply pw_below_drewN | apply below_drew1) | exact HB.out))⟩
  · exfalso
    rw [if_neg cc_] at h
    exact absurd h (by simp)

end Go.Proofs.Ytebgpbcbbjpbfaa.PFnExactPagesOf
