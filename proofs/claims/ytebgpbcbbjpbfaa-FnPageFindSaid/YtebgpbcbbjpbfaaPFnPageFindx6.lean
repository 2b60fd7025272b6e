-- Written for this claim by a program of this session (wip/myprint in the proofs' repo)
import Derived.Test.YtebgpbcbbjpbfaaPFnPageFindx0
import Derived.Test.YtebgpbcbbjpbfaaPFnPageFindx4
import Derived.Test.YtebgpbcbbjpbfaaPFnPageFindx5
import Derived.Test.YtebgpbcbbjpbfaaWZip
-- slim3
namespace Go.Proofs.Ytebgpbcbbjpbfaa.PFnPageFind
open Go.RowKit Go.Proofs.YtebgpbcbbjpbfaaW.PrintWords Go.Proofs.YtebgpbcbbjpbfaaW.PrintLast Go.Proofs.YtebgpbcbbjpbfaaW.PrintMore
attribute [local go_sem] max2_int min2_int max_two min_two max_three min_three max_four min_four max2_strs min2_strs   -- for this text's walks alone
set_option linter.unusedVariables false
set_option linter.unusedSimpArgs false
set_option maxHeartbeats 8000000
set_option maxRecDepth 100000

/-! ### spec_PagesList: function 43 -/
def spec_PagesList.l0 : Nat → List (S64) → List (S71) → Int → Option ((List (S71)))
 | 0, _, _, _ => none
 | k + 1, x0, x3, x4 => if x4 < (x0.length : Int) then ((spec_PagesValid.f k x0).bind fun t163 => (if t163 = true then (if 0 ≤ x4 then (if x3.length + ((rd_T64 x0 x4).f0).length < 5864062014805 then (spec_PagesList.l0 k x0 (x3 ++ ((rd_T64 x0 x4).f0)) (wrap64 (x4 + 1))) else (none)) else (none)) else (some x3))) else (some x3)
def spec_PagesList.f (k : Nat) (l0 : List (S64)) : Option ((List (S71))) := spec_PagesList.l0 k l0 (([] : List (S71))) 0
theorem spec_PagesList.mono_l : ∀ k, (∀ y0 y1 y2, LeO (spec_PagesList.l0 k y0 y1 y2) (spec_PagesList.l0 (k + 1) y0 y1 y2))
 | 0 => fun _ _ _ r h => by simp [spec_PagesList.l0] at h
 | k + 1 => by
  have ih0 := spec_PagesList.mono_l k
  ·intro y0 y1 y2
   unfold spec_PagesList.l0
   repeat' first
   | (with_reducible exact ih0 _ _ _)
   | (with_reducible exact spec_PagesValid.mono _ _)
   | (with_reducible exact LeO.refl _)
   | (with_reducible exact LeO.none _)
   | (with_reducible refine LeO.ite ?_ ?_)
   | (with_reducible refine LeO.bind ?_ (fun _ => ?_))
   | exact ih0 _ _ _
   | exact LeO.none _
   | refine LeO.ite ?_ ?_
   | refine LeO.bind ?_ (fun _ => ?_)
theorem spec_PagesList.mono : ∀ a0 k, LeO (spec_PagesList.f k a0) (spec_PagesList.f (k + 1) a0) := by
 intro a0 k
 have ih0 := spec_PagesList.mono_l k
 unfold spec_PagesList.f
 repeat' first
   | (with_reducible exact ih0 _ _ _)
   | (with_reducible exact spec_PagesValid.mono _ _)
   | (with_reducible exact LeO.refl _)
   | (with_reducible exact LeO.none _)
   | (with_reducible refine LeO.ite ?_ ?_)
   | (with_reducible refine LeO.bind ?_ (fun _ => ?_))
   | exact ih0 _ _ _
   | exact LeO.none _
   | refine LeO.ite ?_ ?_
   | refine LeO.bind ?_ (fun _ => ?_)
theorem spec_PagesList.calls (k : Nat) (A0 : Option Addr) (c0 : Nat) (l0 : List (S64)) (r : List (S71)) (w : World) (hr0 : Kd.C k64 w A0 l0.length l0) (hc0 : l0.length ≤ c0) (h : spec_PagesList.f k l0 = some r) :
  Calls Try.prog 43 #[.slice A0 l0.length c0] w fun e w' => ∃ v0_ : Value, e = .returned (v0_) ∧ Kd.R k71 71 w' w.heap.size (fun _ => True) v0_ r ∧ Below w.heap.size w w' := by
 have HR0 := ak hr0
 have HC0 := ak hc0
 clear hr0 hc0
 have HB := ak (Below.refl w.heap.size w)
 have H : (spec_PagesList.l0 k l0 (([] : List (S71))) 0) = some r := h
 clear h
 obtain ⟨y160, hy160⟩ : ∃ y_ : List (S71), y_ = (([] : List (S71))) := ⟨_, rfl⟩
 replace H : (spec_PagesList.l0 k l0 y160 0) = some r := by first | (rw [hy160]; exact H) | exact H
 have Ny160 := ak hy160
 clear hy160
 have H' := ak H
 clear H
 go_enter Try.func43, Try.ntmps43
 go_wp2_with (first | ((with_reducible refine gate_dst (N := 5) rfl ?_); refine Kd.R_lit k71 _ 71 ?hg (N := 5) ?hd (xs := ([] : List (S71))) (inner := []) (ok := fun _ => True) (okp := fun _ => True) ?hr ?hp (fun _ hk => hk) trivial (Below.refl _ _) (Nat.le_refl _) (by simp) ?_; (case hd => rfl); (case hg => rfl); (case hr => first | (go_simp; done) | (go_simp; rfl)); (case hp => exact (Reps.none _ _)); intro v161 w2 ho3 hb hg_ hnew_; clear hg_ hnew_; (first | rw [← Ny160.out] at ho3 | (simp only [Int.reduceToNat] at ho3; rw [← Ny160.out] at ho3)); have HO162 := ak (Kd.R_lower ho3 (below_size (by exact hopb HB.out))); replace HB := ak (below_step (by exact hopb HB.out) hb); clear hb ho3))
 go_loopg [3, 4] k (fun kq v3 v4 w' => ∃ (x3_1 : List (S71)) (x4_1 : Int), v4 = .int .i64 x4_1 ∧ Aside0 (spec_PagesList.l0 kq l0 x3_1 x4_1 = some r) ∧ Aside0 (kq ≤ k) ∧ Aside0 (Kd.R k71 71 w' w.heap.size (fun _ => True) v3 x3_1) ∧ Aside0 (Below w.heap.size w w'))
 case atStart => exact ⟨(y160), (0), (by first | rfl | (simp; done) | (simp [bne]; done) | (simp [*]; done)), H', ⟨Nat.le_refl _⟩, ⟨by (with_reducible repeat (first | apply Kd.R_alloc | apply Kd.R_drewN | apply Kd.R_drew)); exact HO162.out⟩, ⟨by exact hopb HB.out⟩⟩
 case round =>
  clear H'
  try clear p2
  obtain ⟨x3_1, x4_1, rfl, HA, HK1, HO_3, HB⟩ := hrel
  cases gk with
  | zero => exact absurd HA.out (by simp [spec_PagesList.l0])
  | succ k1 =>
   have H := HA.out
   clear HA
   simp only [spec_PagesList.l0] at H
   by_cases c4 : x4_1 < (l0.length : Int)
   ·rw [if_pos c4] at H
    have c4b0 : decide (x4_1 < (l0.length : Int)) = true := decide_eq_true c4
    clear c4
    replace H := Option.bind_eq_some_iff.mp H
    obtain ⟨t163, A50, H⟩ := H
    try dsimp only at H
    have A5 := ak A50
    clear A50
    by_cases c6 : t163 = true
    ·subst c6
     rw [if_pos rfl] at H
     by_cases c7 : 0 ≤ x4_1
     ·rw [if_pos c7] at H
      have c7b0 : decide (0 ≤ x4_1) = true := decide_eq_true c7
      clear c7
      by_cases c8 : x3_1.length + ((rd_T64 l0 x4_1).f0).length < 5864062014805
      ·rw [if_pos c8] at H
       have LMc8 := ak c8
       clear c8
       obtain ⟨y165, hy165⟩ : ∃ y_ : List (S71), y_ = (x3_1 ++ ((rd_T64 l0 x4_1).f0)) := ⟨_, rfl⟩
       replace H : (spec_PagesList.l0 k1 l0 y165 (wrap64 (x4_1 + 1))) = some r := by first | (rw [hy165]; exact H) | exact H
       have Ny165 := ak hy165
       clear hy165
       have H' := ak H
       clear H
       go_wp2_with (first | (go_at_call 32; (with_reducible refine (spec_PagesValid.calls k1 _ _ l0 true _ ?side1 ?side2 A5.out).mono ?_); (case side1 => repeat (first | exact (Kd.C_below HR0.out HB.out) | (with_reducible refine Kd.C_alloc ?_ _) | (with_reducible refine Kd.C_drewN ?_ _) | (with_reducible refine Kd.C_drew ?_))); (case side2 => exact HC0.out); rintro e w9 ⟨rfl, hb⟩; replace HO_3 := ak (Kd.R_below (by (with_reducible repeat (first | apply Kd.R_alloc | apply Kd.R_drewN | apply Kd.R_drew)); exact HO_3.out) hb); replace HB := ak (below_step (by exact hopb HB.out) hb); (try clear hb); have p164 : 0 ≤ (x4_1 : Int) := of_decide_eq_true (by assumption); have q164 : x4_1 < (l0.length : Int) := of_decide_eq_true (by assumption); obtain ⟨ad164, A164_0, c164_0, e164, hx164_0, hl164_0, hi164_0⟩ := at_T64 HR0.out x4_1 p164 q164; cases e164; replace hx164_0 := (HB.out.cell (World.block_lt_of_cell? w _ hx164_0)).trans hx164_0; have HR164_0 := ak hi164_0; have HC164_0 := ak hl164_0; clear hi164_0 hl164_0; replace p164 := eq_true p164; replace q164 := eq_true q164) | ((with_reducible refine gate_builtin (b := .append) (xs := #[.tmp 16, .tmp 21]) rfl ?_); at_builtin; refine Kd.R_append_rows k71 (w0 := w) w.heap.size rfl (.tmp 16) (.tmp 21) 32 71 (.agg #[(.string ⟨#[]⟩), (.int .i64 0)]) 24 rfl Try.underlying32 info71 rfl (by decide) (by omega) u3 x3_1 ((rd_T64 l0 x4_1).f0) _ _ _ (fun _ => True) (fun _ => False) rfl rfl ?aO ?aR (fun _ _ h => h) (fun _ h => h.elim) ?aF ?aB ?aS ?aL ?_; (case aR => repeat (first | exact (Kd.C_below HR164_0.out HB.out) | (with_reducible refine Kd.C_alloc ?_ _) | (with_reducible refine Kd.C_drewN ?_ _) | (with_reducible refine Kd.C_drew ?_))); (case aB => exact (by exact hopb HB.out)); (case aF => exact (fun _ _ => trivial)); (case aO => exact (by (with_reducible repeat (first | apply Kd.R_alloc | apply Kd.R_drewN | apply Kd.R_drew)); exact HO_3.out)); (case aS => exact (below_size (by exact hopb HB.out))); (case aL => have := LMc8.out; omega); intro v166 w10 ho hb hg hat; rw [← Ny165.out] at ho; replace HB := ak (hb); have HO167 := ak (ho); clear HO_3; clear ho hb hg hat))
       go_roundg k1
       case measure => have := HK1.out; omega
       case rel => exact ⟨(y165), (wrap64 (x4_1 + 1)), (by first | rfl | (simp; done) | (simp [bne]; done) | (simp [*]; done)), H', ⟨by have := HK1.out; omega⟩, ⟨by (with_reducible repeat (first | apply Kd.R_alloc | apply Kd.R_drewN | apply Kd.R_drew)); exact HO167.out⟩, ⟨by exact hopb HB.out⟩⟩
      ·rw [if_neg c8] at H
       exact absurd H (by simp)
     ·rw [if_neg c7] at H
      exact absurd H (by simp)
    ·replace c6 := Bool.eq_false_iff.mpr c6
     subst c6
     rw [if_neg (show ¬ (false = true) by decide)] at H
     obtain rfl := Option.some.inj H
     go_wp2_with (first | (go_at_call 32; (with_reducible refine (spec_PagesValid.calls k1 _ _ l0 false _ ?side1 ?side2 A5.out).mono ?_); (case side1 => repeat (first | exact (Kd.C_below HR0.out HB.out) | (with_reducible refine Kd.C_alloc ?_ _) | (with_reducible refine Kd.C_drewN ?_ _) | (with_reducible refine Kd.C_drew ?_))); (case side2 => exact HC0.out); rintro e w11 ⟨rfl, hb⟩; replace HO_3 := ak (Kd.R_below (by (with_reducible repeat (first | apply Kd.R_alloc | apply Kd.R_drewN | apply Kd.R_drew)); exact HO_3.out) hb); replace HB := ak (below_step (by exact hopb HB.out) hb); (try clear hb)))
     go_ret
     exact ⟨_, by first | rfl | (simp only [u8_w_, w64_u8_] <;> rfl) | (simp [errW_none, errW_some] <;> rfl) | (simp [*, errW_none, errW_some] <;> rfl), by (with_reducible repeat (first | apply Kd.R_alloc | apply Kd.R_drewN | apply Kd.R_drew)); exact HO_3.out, by exact hopb HB.out⟩
   ·rw [if_neg c4] at H
    have c4b0 : decide (x4_1 < (l0.length : Int)) = false := decide_eq_false c4
    clear c4
    obtain rfl := Option.some.inj H
    go_wp2
    go_ret
    exact ⟨_, by first | rfl | (simp only [u8_w_, w64_u8_] <;> rfl) | (simp [errW_none, errW_some] <;> rfl) | (simp [*, errW_none, errW_some] <;> rfl), by (with_reducible repeat (first | apply Kd.R_alloc | apply Kd.R_drewN | apply Kd.R_drew)); exact HO_3.out, by exact hopb HB.out⟩

/-- A state of type 116 at block g of W; what its slices lead to came in by w0. -/
def IsS116 (w0 W : World) (g : Nat) (f0 : List Int) (f1 : Int) : Prop := ∃ A0 c0, W.heap[g]? = some (.cells #[.slice A0 f0.length c0, .int .i64 f1] 116 (0, 0)) ∧ w0.heap.size ≤ g ∧ Kd.C (Kd.int .u8) w0 A0 f0.length f0
theorem IsS116.grown {w0 W : World} {g : Nat} {f0 : List Int} {f1 : Int} {W1 : World} {row : Option Nat} (h : IsS116 w0 W g f0 f1) (hw : W.grownBy W1 row) (hne : some g ≠ row) : IsS116 w0 W1 g f0 f1 := by
 obtain ⟨A0, c0, hb, hg, hr0⟩ := h
 exact ⟨A0, c0, blk_grown hb hw hne, hg, hr0⟩
theorem IsS116.own_neN {w0 W : World} {g : Nat} {f0 : List Int} {f1 : Int} {α : Type} {d : Kd α} {e : Nat} {base : Nat} {ok : Nat → Prop} {v : Value} {xs : List α} (h : IsS116 w0 W g f0 f1) (ho : Kd.N d e W base ok v xs) (ht : e ≠ 116) : some g ≠ v.ownBlock := by
 obtain ⟨A0, c0, hb, hg, hr0⟩ := h
 exact Kd.N_ne ho hb ht
theorem IsS116.fresh {w0 W : World} {g : Nat} {f0 : List Int} {f1 : Int} (h : IsS116 w0 W g f0 f1) : ∀ k, W.heap.size ≤ k → k ≠ g := by
 obtain ⟨A0, c0, hb, hg, hr0⟩ := h
 exact Kd.freshB hb
theorem IsS116.kept {w0 W : World} {g : Nat} {f0 : List Int} {f1 : Int} {W1 : World} {S : Nat → Prop} (h : IsS116 w0 W g f0 f1) (hk : Kept W W1 S) (hne : ¬ S g) : IsS116 w0 W1 g f0 f1 := by
 obtain ⟨A0, c0, hb, hg, hr0⟩ := h
 exact ⟨A0, c0, blk_kept hb hk hne, hg, hr0⟩
theorem IsS116.below {w0 W : World} {g : Nat} {f0 : List Int} {f1 : Int} {W1 : World} (h : IsS116 w0 W g f0 f1) (hw : Below W.heap.size W W1) : IsS116 w0 W1 g f0 f1 := h.grown (grown_of_below hw none) (by simp)
theorem IsS116.alloc {w0 W : World} {g : Nat} {f0 : List Int} {f1 : Int} (h : IsS116 w0 W g f0 f1) (o : Obj) : IsS116 w0 (W.alloc o) g f0 f1 := h.below (below_alloc (Below.refl _ _) o)
theorem IsS116.drewN {w0 W : World} {g : Nat} {f0 : List Int} {f1 : Int} (h : IsS116 w0 W g f0 f1) (m : Nat) : IsS116 w0 (W.drewN m) g f0 f1 := h
theorem IsS116.drew {w0 W : World} {g : Nat} {f0 : List Int} {f1 : Int} (h : IsS116 w0 W g f0 f1) : IsS116 w0 W.drew g f0 f1 := h
theorem IsS116.at_ {w0 W : World} {g : Nat} {f0 : List Int} {f1 : Int} {w' : World} {m : Nat} (hq : W.drewN m = w') (h : IsS116 w0 W g f0 f1) : IsS116 w0 w' g f0 f1 := by subst hq; exact IsS116.drewN h m
theorem IsS116.apart {w0 W : World} {g : Nat} {f0 : List Int} {f1 : Int} {α : Type} {d : Kd α} {e : Nat} {base : Nat} {ok : Nat → Prop} {v : Value} {xs : List α} (h : IsS116 w0 W g f0 f1) (ho : d.R e W base ok v xs) (ht : ∀ q, q ∈ e :: d.E → q ≠ 116) : d.R e W base (fun k => ok k ∧ k ≠ g) v xs := by
 obtain ⟨A0, c0, hb, hg, hr0⟩ := h
 exact Kd.R_types ho hb ht
theorem IsS116.own_ne {w0 W : World} {g : Nat} {f0 : List Int} {f1 : Int} {α : Type} {d : Kd α} {e : Nat} {base : Nat} {ok : Nat → Prop} {v : Value} {xs : List α} (h : IsS116 w0 W g f0 f1) (ho : d.R e W base ok v xs) (ht : e ≠ 116) : some g ≠ v.ownBlock := by
 obtain ⟨A0, c0, hb, hg, hr0⟩ := h
 exact Kd.R_ne ho hb ht
theorem IsS116.apartQ {w0 W : World} {g : Nat} {f0 : List Int} {f1 : Int} {α : Type} {d : Kd α} {e : Nat} {base : Nat} {ok : Nat → Prop} {v : Value} {xs : List α} (h : IsS116 w0 W g f0 f1) (ho : d.Q e W base ok v xs) (ht : ∀ q, q ∈ e :: d.E → q ≠ 116) : d.Q e W base (fun k => ok k ∧ k ≠ g) v xs := by
 obtain ⟨A0, c0, hb, hg, hr0⟩ := h
 exact Kd.Q_types ho hb ht
theorem IsS116.own_neQ {w0 W : World} {g : Nat} {f0 : List Int} {f1 : Int} {α : Type} {d : Kd α} {e : Nat} {base : Nat} {ok : Nat → Prop} {v : Value} {xs : List α} (h : IsS116 w0 W g f0 f1) (ho : d.Q e W base ok v xs) (ht : e ≠ 116) : some g ≠ v.ownBlock := by
 obtain ⟨A0, c0, hb, hg, hr0⟩ := h
 exact Kd.Q_ne ho hb ht
theorem IsS116.apartS {w0 W : World} {g : Nat} {f0 : List Int} {f1 : Int} {α : Type} {d : Kd α} {e : Nat} {base : Nat} {ok : Nat → Prop} {v : Value} {xs : List α} (h : IsS116 w0 W g f0 f1) (ho : d.S e W base ok v xs) (ht : ∀ q, q ∈ e :: d.E → q ≠ 116) : d.S e W base (fun k => ok k ∧ k ≠ g) v xs := by
 obtain ⟨A0, c0, hb, hg, hr0⟩ := h
 exact Kd.S_types ho hb ht
theorem IsS116.own_neS {w0 W : World} {g : Nat} {f0 : List Int} {f1 : Int} {α : Type} {d : Kd α} {e : Nat} {base : Nat} {ok : Nat → Prop} {v : Value} {xs : List α} (h : IsS116 w0 W g f0 f1) (ho : d.S e W base ok v xs) (ht : e ≠ 116) : some g ≠ v.ownBlock := by
 obtain ⟨A0, c0, hb, hg, hr0⟩ := h
 exact Kd.S_ne ho hb ht
theorem IsS116.lt {w0 W : World} {g : Nat} {f0 : List Int} {f1 : Int} (h : IsS116 w0 W g f0 f1) : g < W.heap.size := by
 obtain ⟨A0, c0, hb, hg, hr0⟩ := h
 exact blk_lt hb
theorem IsS116.ge {w0 W : World} {g : Nat} {f0 : List Int} {f1 : Int} (h : IsS116 w0 W g f0 f1) : w0.heap.size ≤ g := by
 obtain ⟨A0, c0, hb, hg, hr0⟩ := h
 exact hg
theorem IsS116.ne_blk {w0 W : World} {g : Nat} {f0 : List Int} {f1 : Int} {a : Nat} {cs : Array Value} {t : TypeId} {fr : Nat × Nat} (h : IsS116 w0 W g f0 f1) (hb2 : W.heap[a]? = some (.cells cs t fr)) (ht : t ≠ 116) : g ≠ a := by
 obtain ⟨A0, c0, hb, hg, hr0⟩ := h
 rintro rfl
 rw [hb] at hb2
 injection hb2 with hb2
 injection hb2 with _ ht2
 exact ht ht2.symm
theorem IsS116.far {w0 W : World} {g : Nat} {f0 : List Int} {f1 : Int} {p : Addr} (h : IsS116 w0 W g f0 f1) (hne : g ≠ p.block) (u : Value) : IsS116 w0 (W.setCell p u) g f0 f1 := by
 obtain ⟨A0, c0, hb, hg, hr0⟩ := h
 exact ⟨A0, c0, blk_far hb hne u, hg, hr0⟩
theorem cellS116_0 {W : World} {g : Nat} {A0 : Option Addr} {c0 : Nat} {f0 : List Int} {f1 : Int} (h : W.heap[g]? = some (.cells #[.slice A0 f0.length c0, .int .i64 f1] 116 (0, 0))) : W.cell? ⟨g, 0, none⟩ = some (.slice A0 f0.length c0) := (blk_cell h 0).trans rfl
theorem cellS116_1 {W : World} {g : Nat} {A0 : Option Addr} {c0 : Nat} {f0 : List Int} {f1 : Int} (h : W.heap[g]? = some (.cells #[.slice A0 f0.length c0, .int .i64 f1] 116 (0, 0))) : W.cell? ⟨g, 1, none⟩ = some (.int .i64 f1) := (blk_cell h 1).trans rfl
theorem IsS116.set_1 {w0 W : World} {g : Nat} {f0 : List Int} {f1 : Int} (h : IsS116 w0 W g f0 f1) (x : Int) : IsS116 w0 (W.setCell ⟨g, 1, none⟩ (.int .i64 x)) g f0 x := by
 obtain ⟨A0, c0, hb, hg, hr0⟩ := h
 exact ⟨A0, c0, by simpa using blk_set hb 1 (.int .i64 x), hg, hr0⟩
theorem IsS116.new (w0 W : World) (A0 : Option Addr) (c0 : Nat) (f0 : List Int) (f1 : Int) (hB : Below w0.heap.size w0 W) (hr0 : Kd.C (Kd.int .u8) w0 A0 f0.length f0) : IsS116 w0 (W.alloc (.cells #[.slice A0 f0.length c0, .int .i64 f1] 116)) W.heap.size f0 f1 := ⟨A0, c0, by simpa using heap_alloc_new W _, hB.size, hr0⟩

/-! ### spec_l20Open: function 67 -/
def spec_l20Open.f (l0 : List Int) : Option (List Int × Int) := if (l0.length : Int) > 2000 then (if 2000 ≤ (l0.length : Int) then (some (l0.take 2000, 0)) else (none)) else (some (l0, 0))
theorem spec_l20Open.calls (A0 : Option Addr) (c0 : Nat) (l0 : List Int) (r1 : List Int) (r2 : Int) (w0 w : World) (hB : Below w0.heap.size w0 w) (hr0 : Kd.C (Kd.int .u8) w0 A0 l0.length l0) (hc0 : l0.length ≤ c0) (h : spec_l20Open.f l0 = some (r1, r2)) :
  Calls Try.prog 67 #[.slice A0 l0.length c0] w fun e w' => ∃ g_ : Nat, e = .returned (.pointer (some ⟨g_, 0, none⟩)) ∧ IsS116 w0 w' g_ r1 r2 ∧ Below w0.heap.size w0 w' ∧ Below w.heap.size w w' := by
 have hu116 := Try.underlying116
 have HR0 := ak hr0
 have HC0 := ak hc0
 clear hr0 hc0
 have HBW := ak (Below.refl w.heap.size w)
 have HW0 := ak hB.size
 have HB := ak hB
 clear hB
 have H : (if (l0.length : Int) > 2000 then (if 2000 ≤ (l0.length : Int) then (some (l0.take 2000, 0)) else (none)) else (some (l0, 0))) = some (r1, r2) := h
 clear h
 by_cases c2 : (l0.length : Int) > 2000
 ·rw [if_pos c2] at H
  have c2b0 : decide (2000 < (l0.length : Int)) = true := decide_eq_true c2
  have c2b1 : decide (2000 < l0.length) = true := decide_eq_true (by omega)
  clear c2
  by_cases c3 : 2000 ≤ (l0.length : Int)
  ·rw [if_pos c3] at H
   have c3b0 := eq_true c3
   have c3b1 : decide (2000 ≤ (l0.length : Int)) = true := decide_eq_true c3
   clear c3
   simp only [Option.some.injEq, Prod.mk.injEq] at H
   obtain ⟨rfl, rfl⟩ := H
   obtain ⟨i04, hi04, _, hsz4, _⟩ := info_parts info5
   obtain ⟨hcut4, hA4, hC4⟩ := print_take_of (P := Try.prog) (Value.int .u8) 0 31 5 .i64 Try.underlying31 hi04 hsz4 A0 c0 l0 2000 (by omega) (of_decide_eq_true (by assumption)) HC0.out
   have HR168 := ak (Kd.C_of_reads (h1 := fun _ => rfl) (hA4 _ (Kd.reads_of_C HR0.out)))
   have HC168 := ak hC4
   clear hA4 hC4 hi04 hsz4
   go_enter Try.func67, Try.ntmps67
   go_wp2_with (first | ((with_reducible refine gate_dst (N := 10) rfl ?_); refine box_event ?hg (N := 10) ?hd (cs := #[.slice A0 (l0.take 2000).length c0, .int .i64 0]) (t := 116) ?hr ?_; (case hd => rfl); (case hg => rfl); (case hr => first | (go_simp; done) | (go_simp; rfl)); intro gb169 hg w5 hbox hb; replace HB := ak (below_step (by exact hopb HB.out) hb); have BK169 := ak (hbox); have GW169 := ak ((by rw [hg]; exact (below_size (by repeat (first | exact HBW.out | apply bA | apply bN | apply bD))) : w.heap.size ≤ gb169)); have GE169 := ak ((Nat.le_trans HW0.out (by rw [hg]; exact (below_size (by repeat (first | exact HBW.out | apply bA | apply bN | apply bD))) : w.heap.size ≤ gb169) : w0.heap.size ≤ gb169)); replace HBW := ak (below_step HBW.out hb); clear hb hbox hg))
   go_ret
   exact ⟨_, rfl, (show IsS116 w0 _ gb169 (l0.take 2000) 0 from ⟨_, _, by exact hop BK169.out, GE169.out, HR168.out⟩), by repeat (first | exact HB.out | apply bA | apply bN | apply bD | refine bS ?_ GE169.out), by repeat (first | exact HBW.out | apply bA | apply bN | apply bD | refine bS ?_ GW169.out)⟩
  ·rw [if_neg c3] at H
   exact absurd H (by simp)
 ·rw [if_neg c2] at H
  have c2b0 : decide (2000 < (l0.length : Int)) = false := decide_eq_false c2
  have c2b1 : decide (2000 < l0.length) = false := decide_eq_false (by omega)
  clear c2
  simp only [Option.some.injEq, Prod.mk.injEq] at H
  obtain ⟨rfl, rfl⟩ := H
  go_enter Try.func67, Try.ntmps67
  go_wp2_with (first | ((with_reducible refine gate_dst (N := 10) rfl ?_); refine box_event ?hg (N := 10) ?hd (cs := #[.slice A0 l0.length c0, .int .i64 0]) (t := 116) ?hr ?_; (case hd => rfl); (case hg => rfl); (case hr => first | (go_simp; done) | (go_simp; rfl)); intro gb170 hg w6 hbox hb; replace HB := ak (below_step (by exact hopb HB.out) hb); have BK170 := ak (hbox); have GW170 := ak ((by rw [hg]; exact (below_size (by repeat (first | exact HBW.out | apply bA | apply bN | apply bD))) : w.heap.size ≤ gb170)); have GE170 := ak ((Nat.le_trans HW0.out (by rw [hg]; exact (below_size (by repeat (first | exact HBW.out | apply bA | apply bN | apply bD))) : w.heap.size ≤ gb170) : w0.heap.size ≤ gb170)); replace HBW := ak (below_step HBW.out hb); clear hb hbox hg))
  go_ret
  exact ⟨_, rfl, (show IsS116 w0 _ gb170 l0 0 from ⟨_, _, by exact hop BK170.out, GE170.out, HR0.out⟩), by repeat (first | exact HB.out | apply bA | apply bN | apply bD | refine bS ?_ GE170.out), by repeat (first | exact HBW.out | apply bA | apply bN | apply bD | refine bS ?_ GW170.out)⟩

/-! ### spec_PagesOf: function 25 -/
def spec_PagesOf.l0 : Nat → List (S71) → List (S64) → Int → Option ((List (S64)))
 | 0, _, _, _ => none
 | k + 1, x0, x3, x4 => if x4 < (x0.length : Int) then (if (wrap64 ((x0.length : Int) - (mn (x0.length : Int) (wrap64 (x4 + 4))))) = 1 then ((some (([] : List (S71)) : List (S71))).bind fun y175 => (if 0 ≤ x4 then (if x4 ≤ (wrap64 ((mn (x0.length : Int) (wrap64 (x4 + 4))) - 1)) then (if (wrap64 ((mn (x0.length : Int) (wrap64 (x4 + 4))) - 1)) ≤ (x0.length : Int) then ((some ((x0.take ((wrap64 ((mn (x0.length : Int) (wrap64 (x4 + 4))) - 1)) : Int).toNat).drop (x4 : Int).toNat : List (S71))).bind fun y178 => (if y175.length + y178.length < 5864062014805 then (if x3.length < 5864062014805 then ((some (x3 ++ [(⟨(y175 ++ y178)⟩ : S64)] : List (S64))).bind fun y185 => (if (wrap64 ((mn (x0.length : Int) (wrap64 (x4 + 4))) - 1)) < (wrap64 (x4 + 4)) then (if (wrap64 ((mn (x0.length : Int) (wrap64 (x4 + 4))) - 1)) < (x0.length : Int) then ((some (([] : List (S71)) : List (S71))).bind fun y188 => (if 0 ≤ (wrap64 ((mn (x0.length : Int) (wrap64 (x4 + 4))) - 1)) then ((some (x0.drop ((wrap64 ((mn (x0.length : Int) (wrap64 (x4 + 4))) - 1)) : Int).toNat : List (S71))).bind fun y191 => (if y188.length + y191.length < 5864062014805 then (if y185.length < 5864062014805 then (some (y185 ++ [(⟨(y188 ++ y191)⟩ : S64)])) else (none)) else (none))) else (none))) else (spec_PagesOf.l0 k x0 y185 (wrap64 (x4 + 4)))) else (spec_PagesOf.l0 k x0 y185 (wrap64 (x4 + 4))))) else (none)) else (none))) else (none)) else (none)) else (none))) else ((some (([] : List (S71)) : List (S71))).bind fun y201 => (if 0 ≤ x4 then (if x4 ≤ (mn (x0.length : Int) (wrap64 (x4 + 4))) then (if (mn (x0.length : Int) (wrap64 (x4 + 4))) ≤ (x0.length : Int) then ((some ((x0.take ((mn (x0.length : Int) (wrap64 (x4 + 4))) : Int).toNat).drop (x4 : Int).toNat : List (S71))).bind fun y204 => (if y201.length + y204.length < 5864062014805 then (if x3.length < 5864062014805 then ((some (x3 ++ [(⟨(y201 ++ y204)⟩ : S64)] : List (S64))).bind fun y211 => (if (mn (x0.length : Int) (wrap64 (x4 + 4))) < (wrap64 (x4 + 4)) then (if (mn (x0.length : Int) (wrap64 (x4 + 4))) < (x0.length : Int) then ((some (([] : List (S71)) : List (S71))).bind fun y214 => (if 0 ≤ (mn (x0.length : Int) (wrap64 (x4 + 4))) then ((some (x0.drop ((mn (x0.length : Int) (wrap64 (x4 + 4))) : Int).toNat : List (S71))).bind fun y217 => (if y214.length + y217.length < 5864062014805 then (if y211.length < 5864062014805 then (some (y211 ++ [(⟨(y214 ++ y217)⟩ : S64)])) else (none)) else (none))) else (none))) else (spec_PagesOf.l0 k x0 y211 (wrap64 (x4 + 4)))) else (spec_PagesOf.l0 k x0 y211 (wrap64 (x4 + 4))))) else (none)) else (none))) else (none)) else (none)) else (none)))) else (some x3)
def spec_PagesOf.f (k : Nat) (l0 : List (S71)) : Option ((List (S64))) := (some (([] : List (S64)) : List (S64))).bind fun y171 => ((spec_PairsValid.f k l0).bind fun t174 => (if t174 = true then (spec_PagesOf.l0 k l0 y171 0) else (some y171)))
theorem spec_PagesOf.mono_l : ∀ k, (∀ y0 y1 y2, LeO (spec_PagesOf.l0 k y0 y1 y2) (spec_PagesOf.l0 (k + 1) y0 y1 y2))
 | 0 => fun _ _ _ r h => by simp [spec_PagesOf.l0] at h
 | k + 1 => by
  have ih0 := spec_PagesOf.mono_l k
  ·intro y0 y1 y2
   unfold spec_PagesOf.l0
   repeat' first
   | (with_reducible exact ih0 _ _ _)
   | (with_reducible exact spec_PairsValid.mono _ _)
   | (with_reducible exact LeO.refl _)
   | (with_reducible exact LeO.none _)
   | (with_reducible refine LeO.ite ?_ ?_)
   | (with_reducible refine LeO.bind ?_ (fun _ => ?_))
   | exact ih0 _ _ _
   | exact LeO.none _
   | refine LeO.ite ?_ ?_
   | refine LeO.bind ?_ (fun _ => ?_)
theorem spec_PagesOf.mono : ∀ a0 k, LeO (spec_PagesOf.f k a0) (spec_PagesOf.f (k + 1) a0) := by
 intro a0 k
 have ih0 := spec_PagesOf.mono_l k
 unfold spec_PagesOf.f
 repeat' first
   | (with_reducible exact ih0 _ _ _)
   | (with_reducible exact spec_PairsValid.mono _ _)
   | (with_reducible exact LeO.refl _)
   | (with_reducible exact LeO.none _)
   | (with_reducible refine LeO.ite ?_ ?_)
   | (with_reducible refine LeO.bind ?_ (fun _ => ?_))
   | exact ih0 _ _ _
   | exact LeO.none _
   | refine LeO.ite ?_ ?_
   | refine LeO.bind ?_ (fun _ => ?_)
theorem spec_PagesOf.calls (k : Nat) (A0 : Option Addr) (c0 : Nat) (l0 : List (S71)) (r : List (S64)) (w : World) (hr0 : Kd.C k71 w A0 l0.length l0) (hc0 : l0.length ≤ c0) (h : spec_PagesOf.f k l0 = some r) :
  Calls Try.prog 25 #[.slice A0 l0.length c0] w fun e w' => ∃ v0_ : Value, e = .returned (v0_) ∧ Kd.S k64 64 w' w.heap.size (fun _ => True) v0_ r ∧ Below w.heap.size w w' := by
 have hu64 := Try.underlying64
 have HR0 := ak hr0
 have HC0 := ak hc0
 clear hr0 hc0
 have HB := ak (Below.refl w.heap.size w)
 have H : ((some (([] : List (S64)) : List (S64))).bind fun y171 => ((spec_PairsValid.f k l0).bind fun t174 => (if t174 = true then (spec_PagesOf.l0 k l0 y171 0) else (some y171)))) = some r := h
 clear h
 obtain ⟨y171, hy171⟩ : ∃ y_ : List (S64), y_ = (([] : List (S64))) := ⟨_, rfl⟩
 replace H : ((spec_PairsValid.f k l0).bind fun t174 => (if t174 = true then (spec_PagesOf.l0 k l0 y171 0) else (some y171))) = some r := by first | (rw [hy171]; exact H) | exact H
 have Ny171 := ak hy171
 clear hy171
 replace H := Option.bind_eq_some_iff.mp H
 obtain ⟨t174, A20, H⟩ := H
 try dsimp only at H
 have A2 := ak A20
 clear A20
 by_cases c3 : t174 = true
 ·subst c3
  rw [if_pos rfl] at H
  have H' := ak H
  clear H
  go_enter Try.func25, Try.ntmps25
  go_wp2_with (first | ((with_reducible refine gate_dst (N := 6) rfl ?_); (try (refine gate_guard (by rfl) ?_; dsimp only)); refine Kd.S_lit k64 _ 64 ?hg (N := 6) ?hd (xs := ([] : List (S64))) (inner := []) (ok := fun _ => True) (okp := fun _ => True) ?hr ?hp (fun _ hk => hk) trivial (Below.refl _ _) (Nat.le_refl _) (by simp) ?_; (case hd => rfl); (case hg => rfl); (case hr => first | (go_simp; done) | (go_simp; rfl)); (case hp => exact (Reps.none _ _)); intro v172 w4 ho5 hb hg_ hnew_; clear hg_ hnew_; (first | rw [← Ny171.out] at ho5 | (simp only [Int.reduceToNat] at ho5; rw [← Ny171.out] at ho5)); have HO173 := ak (Kd.S_lower ho5 (below_size (by exact hopb HB.out))); replace HB := ak (below_step (by exact hopb HB.out) hb); clear hb ho5) | ((with_reducible refine gate_callee (f := 69) rfl ?_); refine goesL_ (some 8) rfl rfl Try.func69 (by kernel_rfl) rfl #[.slice A0 l0.length c0] rfl (by (try simp only [List.map_toArray, List.map_cons, List.map_nil]); first | done | rfl | (simp only [List.length_drop, List.length_take]; rfl)) ?_; (with_reducible refine (spec_PairsValid.calls k _ _ l0 true _ ?side1 ?side2 A2.out).mono ?_); (case side1 => repeat (first | exact (Kd.C_below HR0.out HB.out) | (with_reducible refine Kd.C_alloc ?_ _) | (with_reducible refine Kd.C_drewN ?_ _) | (with_reducible refine Kd.C_drew ?_))); (case side2 => exact HC0.out); rintro e w6 ⟨rfl, hb⟩; refine ⟨_, rfl, ?_⟩; replace HO173 := ak (Kd.S_below (by (with_reducible repeat (first | apply Kd.S_alloc | apply Kd.S_drewN | apply Kd.S_drew)); exact HO173.out) hb); replace HB := ak (below_step (by exact hopb HB.out) hb); (try clear hb)))
  go_loopg [3, 4] k (fun kq v3 v4 w' => ∃ (x3_1 : List (S64)) (x4_1 : Int), v4 = .int .i64 x4_1 ∧ Aside0 (spec_PagesOf.l0 kq l0 x3_1 x4_1 = some r) ∧ Aside0 (kq ≤ k) ∧ Aside0 (Kd.S k64 64 w' w.heap.size (fun _ => True) v3 x3_1) ∧ Aside0 (Below w.heap.size w w'))
  case atStart => exact ⟨(y171), (0), (by first | rfl | (simp; done) | (simp [bne]; done) | (simp [*]; done)), H', ⟨Nat.le_refl _⟩, ⟨by (with_reducible repeat (first | apply Kd.S_alloc | apply Kd.S_drewN | apply Kd.S_drew)); exact HO173.out⟩, ⟨by exact hopb HB.out⟩⟩
  case round =>
   clear H'
   try clear c2
   try clear p2
   try clear c3
   try clear c6
   obtain ⟨x3_1, x4_1, rfl, HA, HK1, HO_3, HB⟩ := hrel
   cases gk with
   | zero => exact absurd HA.out (by simp [spec_PagesOf.l0])
   | succ k1 =>
    have H := HA.out
    clear HA
    simp only [spec_PagesOf.l0] at H
    by_cases c7 : x4_1 < (l0.length : Int)
    ·rw [if_pos c7] at H
     have c7b0 : decide (x4_1 < (l0.length : Int)) = true := decide_eq_true c7
     clear c7
     obtain ⟨ji8, hji8⟩ : ∃ j_ : Int, (mn (l0.length : Int) (wrap64 (x4_1 + 4))) = j_ := ⟨_, rfl⟩
     replace H : (if (wrap64 ((l0.length : Int) - (ji8))) = 1 then ((some (([] : List (S71)) : List (S71))).bind fun y175 => (if 0 ≤ x4_1 then (if x4_1 ≤ (wrap64 ((ji8) - 1)) then (if (wrap64 ((ji8) - 1)) ≤ (l0.length : Int) then ((some ((l0.take ((wrap64 ((ji8) - 1)) : Int).toNat).drop (x4_1 : Int).toNat : List (S71))).bind fun y178 => (if y175.length + y178.length < 5864062014805 then (if x3_1.length < 5864062014805 then ((some (x3_1 ++ [(⟨(y175 ++ y178)⟩ : S64)] : List (S64))).bind fun y185 => (if (wrap64 ((ji8) - 1)) < (wrap64 (x4_1 + 4)) then (if (wrap64 ((ji8) - 1)) < (l0.length : Int) then ((some (([] : List (S71)) : List (S71))).bind fun y188 => (if 0 ≤ (wrap64 ((ji8) - 1)) then ((some (l0.drop ((wrap64 ((ji8) - 1)) : Int).toNat : List (S71))).bind fun y191 => (if y188.length + y191.length < 5864062014805 then (if y185.length < 5864062014805 then (some (y185 ++ [(⟨(y188 ++ y191)⟩ : S64)])) else (none)) else (none))) else (none))) else (spec_PagesOf.l0 k1 l0 y185 (wrap64 (x4_1 + 4)))) else (spec_PagesOf.l0 k1 l0 y185 (wrap64 (x4_1 + 4))))) else (none)) else (none))) else (none)) else (none)) else (none))) else ((some (([] : List (S71)) : List (S71))).bind fun y201 => (if 0 ≤ x4_1 then (if x4_1 ≤ (ji8) then (if (ji8) ≤ (l0.length : Int) then ((some ((l0.take ((ji8) : Int).toNat).drop (x4_1 : Int).toNat : List (S71))).bind fun y204 => (if y201.length + y204.length < 5864062014805 then (if x3_1.length < 5864062014805 then ((some (x3_1 ++ [(⟨(y201 ++ y204)⟩ : S64)] : List (S64))).bind fun y211 => (if (ji8) < (wrap64 (x4_1 + 4)) then (if (ji8) < (l0.length : Int) then ((some (([] : List (S71)) : List (S71))).bind fun y214 => (if 0 ≤ (ji8) then ((some (l0.drop ((ji8) : Int).toNat : List (S71))).bind fun y217 => (if y214.length + y217.length < 5864062014805 then (if y211.length < 5864062014805 then (some (y211 ++ [(⟨(y214 ++ y217)⟩ : S64)])) else (none)) else (none))) else (none))) else (spec_PagesOf.l0 k1 l0 y211 (wrap64 (x4_1 + 4)))) else (spec_PagesOf.l0 k1 l0 y211 (wrap64 (x4_1 + 4))))) else (none)) else (none))) else (none)) else (none)) else (none)))) = some r := by first | (rw [hji8] at H; exact H) | (simp only [hji8] at H ⊢; exact H)
     have hji8_ : (if (wrap64 (x4_1 + 4)) < (l0.length : Int) then (wrap64 (x4_1 + 4)) else (l0.length : Int)) = ji8 := hji8
     by_cases c9 : (wrap64 ((l0.length : Int) - (ji8))) = 1
     ·rw [if_pos c9] at H
      have c9b0 : ((wrap64 ((l0.length : Int) - (ji8))) == 1) = true := beq_iff_eq.mpr c9
      have c9b1 : ((wrap64 ((l0.length : Int) - (ji8))) != 1) = false := bne_eq_false_iff_eq.mpr c9
      clear c9
      obtain ⟨y175, hy175⟩ : ∃ y_ : List (S71), y_ = (([] : List (S71))) := ⟨_, rfl⟩
      replace H : (if 0 ≤ x4_1 then (if x4_1 ≤ (wrap64 ((ji8) - 1)) then (if (wrap64 ((ji8) - 1)) ≤ (l0.length : Int) then ((some ((l0.take ((wrap64 ((ji8) - 1)) : Int).toNat).drop (x4_1 : Int).toNat : List (S71))).bind fun y178 => (if y175.length + y178.length < 5864062014805 then (if x3_1.length < 5864062014805 then ((some (x3_1 ++ [(⟨(y175 ++ y178)⟩ : S64)] : List (S64))).bind fun y185 => (if (wrap64 ((ji8) - 1)) < (wrap64 (x4_1 + 4)) then (if (wrap64 ((ji8) - 1)) < (l0.length : Int) then ((some (([] : List (S71)) : List (S71))).bind fun y188 => (if 0 ≤ (wrap64 ((ji8) - 1)) then ((some (l0.drop ((wrap64 ((ji8) - 1)) : Int).toNat : List (S71))).bind fun y191 => (if y188.length + y191.length < 5864062014805 then (if y185.length < 5864062014805 then (some (y185 ++ [(⟨(y188 ++ y191)⟩ : S64)])) else (none)) else (none))) else (none))) else (spec_PagesOf.l0 k1 l0 y185 (wrap64 (x4_1 + 4)))) else (spec_PagesOf.l0 k1 l0 y185 (wrap64 (x4_1 + 4))))) else (none)) else (none))) else (none)) else (none)) else (none)) = some r := by first | (rw [hy175]; exact H) | exact H
      have Ny175 := ak hy175
      clear hy175
      by_cases c10 : 0 ≤ x4_1
      ·rw [if_pos c10] at H
       have c10b0 := eq_true c10
       have c10b1 : decide (0 ≤ x4_1) = true := decide_eq_true c10
       clear c10
       by_cases c11 : x4_1 ≤ (wrap64 ((ji8) - 1))
       ·rw [if_pos c11] at H
        have c11b0 := eq_true c11
        have c11b1 : decide (x4_1 ≤ (wrap64 ((ji8) - 1))) = true := decide_eq_true c11
        clear c11
        by_cases c12 : (wrap64 ((ji8) - 1)) ≤ (l0.length : Int)
        ·rw [if_pos c12] at H
         have c12b0 := eq_true c12
         have c12b1 : decide ((wrap64 ((ji8) - 1)) ≤ (l0.length : Int)) = true := decide_eq_true c12
         clear c12
         obtain ⟨y178, hy178⟩ : ∃ y_ : List (S71), y_ = ((l0.take ((wrap64 ((ji8) - 1)) : Int).toNat).drop (x4_1 : Int).toNat) := ⟨_, rfl⟩
         replace H : (if y175.length + y178.length < 5864062014805 then (if x3_1.length < 5864062014805 then ((some (x3_1 ++ [(⟨(y175 ++ y178)⟩ : S64)] : List (S64))).bind fun y185 => (if (wrap64 ((ji8) - 1)) < (wrap64 (x4_1 + 4)) then (if (wrap64 ((ji8) - 1)) < (l0.length : Int) then ((some (([] : List (S71)) : List (S71))).bind fun y188 => (if 0 ≤ (wrap64 ((ji8) - 1)) then ((some (l0.drop ((wrap64 ((ji8) - 1)) : Int).toNat : List (S71))).bind fun y191 => (if y188.length + y191.length < 5864062014805 then (if y185.length < 5864062014805 then (some (y185 ++ [(⟨(y188 ++ y191)⟩ : S64)])) else (none)) else (none))) else (none))) else (spec_PagesOf.l0 k1 l0 y185 (wrap64 (x4_1 + 4)))) else (spec_PagesOf.l0 k1 l0 y185 (wrap64 (x4_1 + 4))))) else (none)) else (none)) = some r := by first | (rw [hy178]; exact H) | exact H
         have Ny178 := ak hy178
         clear hy178
         by_cases c13 : y175.length + y178.length < 5864062014805
         ·rw [if_pos c13] at H
          have LMc13 := ak c13
          clear c13
          obtain ⟨y182, hy182⟩ : ∃ y_ : List (S71), y_ = (y175 ++ y178) := ⟨_, rfl⟩
          replace H : (if x3_1.length < 5864062014805 then ((some (x3_1 ++ [(⟨y182⟩ : S64)] : List (S64))).bind fun y185 => (if (wrap64 ((ji8) - 1)) < (wrap64 (x4_1 + 4)) then (if (wrap64 ((ji8) - 1)) < (l0.length : Int) then ((some (([] : List (S71)) : List (S71))).bind fun y188 => (if 0 ≤ (wrap64 ((ji8) - 1)) then ((some (l0.drop ((wrap64 ((ji8) - 1)) : Int).toNat : List (S71))).bind fun y191 => (if y188.length + y191.length < 5864062014805 then (if y185.length < 5864062014805 then (some (y185 ++ [(⟨(y188 ++ y191)⟩ : S64)])) else (none)) else (none))) else (none))) else (spec_PagesOf.l0 k1 l0 y185 (wrap64 (x4_1 + 4)))) else (spec_PagesOf.l0 k1 l0 y185 (wrap64 (x4_1 + 4))))) else (none)) = some r := by first | (rw [hy182]; exact H) | exact H
          have Ny182 := ak hy182
          clear hy182
          by_cases c14 : x3_1.length < 5864062014805
          ·rw [if_pos c14] at H
           have LMc14 := ak c14
           clear c14
           obtain ⟨y185, hy185⟩ : ∃ y_ : List (S64), y_ = (x3_1 ++ [(⟨y182⟩ : S64)]) := ⟨_, rfl⟩
           replace H : (if (wrap64 ((ji8) - 1)) < (wrap64 (x4_1 + 4)) then (if (wrap64 ((ji8) - 1)) < (l0.length : Int) then ((some (([] : List (S71)) : List (S71))).bind fun y188 => (if 0 ≤ (wrap64 ((ji8) - 1)) then ((some (l0.drop ((wrap64 ((ji8) - 1)) : Int).toNat : List (S71))).bind fun y191 => (if y188.length + y191.length < 5864062014805 then (if y185.length < 5864062014805 then (some (y185 ++ [(⟨(y188 ++ y191)⟩ : S64)])) else (none)) else (none))) else (none))) else (spec_PagesOf.l0 k1 l0 y185 (wrap64 (x4_1 + 4)))) else (spec_PagesOf.l0 k1 l0 y185 (wrap64 (x4_1 + 4)))) = some r := by first | (rw [hy185]; exact H) | exact H
           have Ny185 := ak hy185
           clear hy185
           by_cases c15 : (wrap64 ((ji8) - 1)) < (wrap64 (x4_1 + 4))
           ·rw [if_pos c15] at H
            have c15b0 : decide ((wrap64 ((ji8) - 1)) < (wrap64 (x4_1 + 4))) = true := decide_eq_true c15
            clear c15
            by_cases c16 : (wrap64 ((ji8) - 1)) < (l0.length : Int)
            ·rw [if_pos c16] at H
             have c16b0 : decide ((wrap64 ((ji8) - 1)) < (l0.length : Int)) = true := decide_eq_true c16
             clear c16
             obtain ⟨y188, hy188⟩ : ∃ y_ : List (S71), y_ = (([] : List (S71))) := ⟨_, rfl⟩
             replace H : (if 0 ≤ (wrap64 ((ji8) - 1)) then ((some (l0.drop ((wrap64 ((ji8) - 1)) : Int).toNat : List (S71))).bind fun y191 => (if y188.length + y191.length < 5864062014805 then (if y185.length < 5864062014805 then (some (y185 ++ [(⟨(y188 ++ y191)⟩ : S64)])) else (none)) else (none))) else (none)) = some r := by first | (rw [hy188]; exact H) | exact H
             have Ny188 := ak hy188
             clear hy188
             obtain ⟨ji17, hji17⟩ : ∃ j_ : Int, (wrap64 ((ji8) - 1)) = j_ := ⟨_, rfl⟩
             replace H : (if 0 ≤ (ji17) then ((some (l0.drop ((ji17) : Int).toNat : List (S71))).bind fun y191 => (if y188.length + y191.length < 5864062014805 then (if y185.length < 5864062014805 then (some (y185 ++ [(⟨(y188 ++ y191)⟩ : S64)])) else (none)) else (none))) else (none)) = some r := by first | (rw [hji17] at H; exact H) | (simp only [hji17] at H ⊢; exact H)
             (try rw [hji17] at c11b0)
             (try rw [hji17] at c11b1)
             (try rw [hji17] at c12b0)
             (try rw [hji17] at c12b1)
             (try rw [hji17] at c15b0)
             (try rw [hji17] at c16b0)
             (try rw [hji17] at Ny178)
             (try rw [hji17] at Ny178)
             have hji17w : (IntKind.i64.wrap ((ji8) - 1)) = ji17 := (i64_w _).trans hji17
             by_cases c18 : 0 ≤ (ji17)
             ·rw [if_pos c18] at H
              have c18b0 := eq_true c18
              have c18b1 : decide (0 ≤ (ji17)) = true := decide_eq_true c18
              clear c18
              have c19b0 := eq_true (of_decide_eq_true (by assumption) : (ji17) ≤ (l0.length : Int))
              obtain ⟨y191, hy191⟩ : ∃ y_ : List (S71), y_ = (l0.drop ((ji17) : Int).toNat) := ⟨_, rfl⟩
              replace H : (if y188.length + y191.length < 5864062014805 then (if y185.length < 5864062014805 then (some (y185 ++ [(⟨(y188 ++ y191)⟩ : S64)])) else (none)) else (none)) = some r := by first | (rw [hy191]; exact H) | exact H
              have Ny191 := ak hy191
              clear hy191
              by_cases c20 : y188.length + y191.length < 5864062014805
              ·rw [if_pos c20] at H
               have LMc20 := ak c20
               clear c20
               obtain ⟨y195, hy195⟩ : ∃ y_ : List (S71), y_ = (y188 ++ y191) := ⟨_, rfl⟩
               replace H : (if y185.length < 5864062014805 then (some (y185 ++ [(⟨y195⟩ : S64)])) else (none)) = some r := by first | (rw [hy195]; exact H) | exact H
               have Ny195 := ak hy195
               clear hy195
               by_cases c21 : y185.length < 5864062014805
               ·rw [if_pos c21] at H
                have LMc21 := ak c21
                clear c21
                obtain ⟨y198, hy198⟩ : ∃ y_ : List (S64), y_ = (y185 ++ [(⟨y195⟩ : S64)]) := ⟨_, rfl⟩
                replace H : (some y198) = some r := by first | (rw [hy198]; exact H) | exact H
                have Ny198 := ak hy198
                clear hy198
                obtain rfl := Option.some.inj H
                go_wp2_with (first | ((with_reducible refine gate_dst (N := 30) rfl ?_); (try (refine gate_guard (by rfl) ?_; dsimp only)); refine Kd.R_lit k71 _ 71 ?hg (N := 30) ?hd (xs := ([] : List (S71))) (inner := []) (ok := fun _ => True) (okp := fun _ => True) ?hr ?hp (fun _ hk => hk) trivial (Below.refl _ _) (Nat.le_refl _) (by simp) ?_; (case hd => rfl); (case hg => rfl); (case hr => first | (go_simp; done) | (go_simp; rfl)); (case hp => exact (Reps.none _ _)); intro v176 w22 ho23 hb hg_ hnew_; clear hg_ hnew_; (first | rw [← Ny175.out] at ho23 | (simp only [Int.reduceToNat] at ho23; rw [← Ny175.out] at ho23)); replace HO_3 := ak (Kd.S_elder' (by (with_reducible repeat (first | apply Kd.S_alloc | apply Kd.S_drewN | apply Kd.S_drew)); exact HO_3.out) (Kd.R_base ho23) hb); have HO177 := ak (Kd.R_lower ho23 (below_size (by exact hopb HB.out))); replace HB := ak (below_step (by exact hopb HB.out) hb); clear hb ho23; have q24 : ((ji17) : Int) ≤ ((l0.length : Int) : Int) := of_decide_eq_true (by assumption); obtain ⟨i024, hi024, _, hsz24, _⟩ := info_parts info71; have hroom24 : l0.length ≤ c0 := HC0.out; have hC24 : Kd.C k71 _ A0 l0.length l0 := HR0.out; have ql24 : (x4_1 : Int) ≤ ((ji17) : Int) := of_decide_eq_true (by assumption); have q024 : (0 : Int) ≤ (x4_1 : Int) := of_decide_eq_true (by assumption); have hcut24 := cut_mid (P := Try.prog) 32 71 .i64 .i64 Try.underlying32 hi024 2 hsz24 A0 l0.length c0 x4_1 (ji17) q024 ql24 q24 hroom24; have hr24 := Kd.C_mid (lo := (x4_1 : Int).toNat) (hi := ((ji17) : Int).toNat) (c := c0) hC24 (by omega) (by omega) hroom24; obtain ⟨A24, hA24⟩ : ∃ A1, A1 = (if c0 = (x4_1 : Int).toNat then A0 else (A0 : Option Addr).map (·.add ((x4_1 : Int).toNat * 2))) := ⟨_, rfl⟩; obtain ⟨c24, hc24⟩ : ∃ c1, c1 = c0 - (x4_1 : Int).toNat := ⟨_, rfl⟩; have hy24 : y178.length = ((ji17) : Int).toNat - (x4_1 : Int).toNat := (by rw [Ny178.out, List.length_drop, List.length_take] <;> omega); rw [show ((l0).take ((ji17) : Int).toNat).drop (x4_1 : Int).toNat = y178 from Ny178.out.symm] at hr24; replace hr24 : Kd.C k71 _ A24 y178.length y178 := (by rw [hA24]; exact hr24); rw [← hy24, ← hA24, ← hc24] at hcut24; have HR181 := ak hr24; have HC181 := ak (show y178.length ≤ c24 from by rw [hy24, hc24]; exact Nat.sub_le_sub_right (Nat.le_trans (by omega) hroom24) _); clear hr24 hC24 hroom24 hi024 hsz24 hc24; have KY24 := ak hy24; have KA24 := ak hA24; clear hy24 hA24; replace q24 := eq_true q24) | ((with_reducible refine gate_builtin (b := .append) (xs := #[.tmp 30, .tmp 34]) rfl ?_); (try (refine gate_guard (by rfl) ?_; dsimp only)); at_builtin; refine Kd.R_append_rows k71 (w0 := w) w.heap.size rfl (.tmp 30) (.tmp 34) 32 71 (.agg #[(.string ⟨#[]⟩), (.int .i64 0)]) 24 rfl Try.underlying32 info71 rfl (by decide) (by omega) v176 y175 y178 _ _ _ (fun _ => True) (fun _ => False) rfl rfl ?aO ?aR (fun _ _ h => h) (fun _ h => h.elim) ?aF ?aB ?aS ?aL ?_; (case aR => repeat (first | exact (Kd.C_below HR181.out HB.out) | (with_reducible refine Kd.C_alloc ?_ _) | (with_reducible refine Kd.C_drewN ?_ _) | (with_reducible refine Kd.C_drew ?_))); (case aB => exact (by exact hopb HB.out)); (case aF => exact (fun _ _ => trivial)); (case aO => exact (by (with_reducible repeat (first | apply Kd.R_alloc | apply Kd.R_drewN | apply Kd.R_drew)); exact HO177.out)); (case aS => exact (below_size (by exact hopb HB.out))); (case aL => have := LMc13.out; omega); intro v183 w25 ho hb hg hat; rw [← Ny182.out] at ho; replace HO_3 := ak (Kd.S_after (ok := (fun _ => True)) (by (with_reducible repeat (first | apply Kd.S_alloc | apply Kd.S_drewN | apply Kd.S_drew)); exact HO_3.out) hg hat); replace HB := ak (hb); have HO184 := ak (ho); clear HO177; clear ho hb hg hat; obtain ⟨Ao26, co26, eo26⟩ := Kd.R_slice HO184.out; subst eo26) | ((with_reducible refine gate_builtin (b := .append) (xs := #[.tmp 29, .tmp 37]) rfl ?_); (try (refine gate_guard (by rfl) ?_; dsimp only)); at_builtin; refine Kd.S_append k64 (w0 := w) w.heap.size rfl (.tmp 29) (.tmp 37) 34 64 (.agg #[(.slice none 0 0)]) 24 rfl Try.underlying34 info64 rfl (by decide) (by omega) u3 x3_1 (⟨y182⟩ : S64) [.slice Ao26 y182.length co26] (fun _ => True) (fun k_ => some k_ = (.slice Ao26 y182.length co26 : Value).ownBlock) rfl rfl ?aP (fun k_ hk_ => ((Kd.R_mono (ok' := fun k_ => ((fun _ => True)) k_ ∧ some k_ ≠ (u3 : Value).ownBlock) (Kd.R_apart' (HO184.out) (Kd.S_typed HO_3.out) (by decide)) (fun k_ hk => ⟨trivial, hk.2⟩))).1 k_ hk_.symm) ?aF ?aO ?aB ?aS ?aL ?_; (case aP => exact k64_mkM _ _ _ (⟨y182⟩ : S64) (Kd.R_mono (Kd.R_tight rfl (Kd.R_mono (ok' := fun k_ => ((fun _ => True)) k_ ∧ some k_ ≠ (u3 : Value).ownBlock) (Kd.R_apart' (HO184.out) (Kd.S_typed HO_3.out) (by decide)) (fun k_ hk => ⟨trivial, hk.2⟩))) (fun _ h_ => h_))); (case aB => exact (by exact hopb HB.out)); (case aF => exact (fun _ _ => trivial)); (case aO => exact (by (with_reducible repeat (first | apply Kd.S_alloc | apply Kd.S_drewN | apply Kd.S_drew)); exact Kd.S_mono HO_3.out (fun k_ hk => ⟨trivial, fun e_ => hk.2 e_⟩))); (case aS => exact (below_size (by exact hopb HB.out))); (case aL => have := LMc14.out; omega); intro v186 w27 ho hb hg hat; rw [← Ny185.out] at ho; replace HB := ak (hb); have HO187 := ak (ho); clear HO_3 HO184; clear ho hb hg hat) | ((with_reducible refine gate_dst (N := 50) rfl ?_); (try (refine gate_guard (by rfl) ?_; dsimp only)); refine Kd.R_lit k71 _ 71 ?hg (N := 50) ?hd (xs := ([] : List (S71))) (inner := []) (ok := fun _ => True) (okp := fun _ => True) ?hr ?hp (fun _ hk => hk) trivial (Below.refl _ _) (Nat.le_refl _) (by simp) ?_; (case hd => rfl); (case hg => rfl); (case hr => first | (go_simp; done) | (go_simp; rfl)); (case hp => exact (Reps.none _ _)); intro v189 w28 ho29 hb hg_ hnew_; clear hg_ hnew_; (first | rw [← Ny188.out] at ho29 | (simp only [Int.reduceToNat] at ho29; rw [← Ny188.out] at ho29)); replace HO187 := ak (Kd.S_elder' (by (with_reducible repeat (first | apply Kd.S_alloc | apply Kd.S_drewN | apply Kd.S_drew)); exact HO187.out) (Kd.R_base ho29) hb); have HO190 := ak (Kd.R_lower ho29 (below_size (by exact hopb HB.out))); replace HB := ak (below_step (by exact hopb HB.out) hb); clear hb ho29; have q30 : ((ji17) : Int) ≤ ((l0.length : Int) : Int) := of_decide_eq_true (by assumption); obtain ⟨i030, hi030, _, hsz30, _⟩ := info_parts info71; have hroom30 : l0.length ≤ c0 := HC0.out; have hC30 : Kd.C k71 _ A0 l0.length l0 := HR0.out; have q030 : (0 : Int) ≤ ((ji17) : Int) := of_decide_eq_true (by assumption); have hcut30 := cut_from (P := Try.prog) 32 71 .i64 Try.underlying32 hi030 2 hsz30 A0 l0.length c0 (ji17) q030 q30; have hr30 := Kd.C_drop (m := ((ji17) : Int).toNat) (c := c0) hC30 (by omega) hroom30; obtain ⟨A30, hA30⟩ : ∃ A1, A1 = (if c0 = ((ji17) : Int).toNat then A0 else (A0 : Option Addr).map (·.add (((ji17) : Int).toNat * 2))) := ⟨_, rfl⟩; obtain ⟨c30, hc30⟩ : ∃ c1, c1 = c0 - ((ji17) : Int).toNat := ⟨_, rfl⟩; have hy30 : y191.length = l0.length - ((ji17) : Int).toNat := (by rw [Ny191.out, List.length_drop] <;> omega); rw [show (l0).drop ((ji17) : Int).toNat = y191 from Ny191.out.symm] at hr30; replace hr30 : Kd.C k71 _ A30 y191.length y191 := (by rw [hA30]; exact hr30); rw [← hy30, ← hA30, ← hc30] at hcut30; have HR194 := ak hr30; have HC194 := ak (show y191.length ≤ c30 from by rw [hy30, hc30]; exact Nat.sub_le_sub_right hroom30 _); clear hr30 hC30 hroom30 hi030 hsz30 hc30; have KY30 := ak hy30; have KA30 := ak hA30; clear hy30 hA30; replace q30 := eq_true q30) | ((with_reducible refine gate_builtin (b := .append) (xs := #[.tmp 50, .tmp 53]) rfl ?_); (try (refine gate_guard (by rfl) ?_; dsimp only)); at_builtin; refine Kd.R_append_rows k71 (w0 := w) w.heap.size rfl (.tmp 50) (.tmp 53) 32 71 (.agg #[(.string ⟨#[]⟩), (.int .i64 0)]) 24 rfl Try.underlying32 info71 rfl (by decide) (by omega) v189 y188 y191 _ _ _ (fun _ => True) (fun _ => False) rfl rfl ?aO ?aR (fun _ _ h => h) (fun _ h => h.elim) ?aF ?aB ?aS ?aL ?_; (case aR => repeat (first | exact (Kd.C_below HR194.out HB.out) | (with_reducible refine Kd.C_alloc ?_ _) | (with_reducible refine Kd.C_drewN ?_ _) | (with_reducible refine Kd.C_drew ?_))); (case aB => exact (by exact hopb HB.out)); (case aF => exact (fun _ _ => trivial)); (case aO => exact (by (with_reducible repeat (first | apply Kd.R_alloc | apply Kd.R_drewN | apply Kd.R_drew)); exact HO190.out)); (case aS => exact (below_size (by exact hopb HB.out))); (case aL => have := LMc20.out; omega); intro v196 w31 ho hb hg hat; rw [← Ny195.out] at ho; replace HO187 := ak (Kd.S_after (ok := (fun _ => True)) (by (with_reducible repeat (first | apply Kd.S_alloc | apply Kd.S_drewN | apply Kd.S_drew)); exact HO187.out) hg hat); replace HB := ak (hb); have HO197 := ak (ho); clear HO190; clear ho hb hg hat; obtain ⟨Ao32, co32, eo32⟩ := Kd.R_slice HO197.out; subst eo32) | ((with_reducible refine gate_builtin (b := .append) (xs := #[.tmp 49, .tmp 56]) rfl ?_); (try (refine gate_guard (by rfl) ?_; dsimp only)); at_builtin; refine Kd.S_append k64 (w0 := w) w.heap.size rfl (.tmp 49) (.tmp 56) 34 64 (.agg #[(.slice none 0 0)]) 24 rfl Try.underlying34 info64 rfl (by decide) (by omega) v186 y185 (⟨y195⟩ : S64) [.slice Ao32 y195.length co32] (fun _ => True) (fun k_ => some k_ = (.slice Ao32 y195.length co32 : Value).ownBlock) rfl rfl ?aP (fun k_ hk_ => ((Kd.R_mono (ok' := fun k_ => ((fun _ => True)) k_ ∧ some k_ ≠ (v186 : Value).ownBlock) (Kd.R_apart' (HO197.out) (Kd.S_typed HO187.out) (by decide)) (fun k_ hk => ⟨trivial, hk.2⟩))).1 k_ hk_.symm) ?aF ?aO ?aB ?aS ?aL ?_; (case aP => exact k64_mkM _ _ _ (⟨y195⟩ : S64) (Kd.R_mono (Kd.R_tight rfl (Kd.R_mono (ok' := fun k_ => ((fun _ => True)) k_ ∧ some k_ ≠ (v186 : Value).ownBlock) (Kd.R_apart' (HO197.out) (Kd.S_typed HO187.out) (by decide)) (fun k_ hk => ⟨trivial, hk.2⟩))) (fun _ h_ => h_))); (case aB => exact (by exact hopb HB.out)); (case aF => exact (fun _ _ => trivial)); (case aO => exact (by (with_reducible repeat (first | apply Kd.S_alloc | apply Kd.S_drewN | apply Kd.S_drew)); exact Kd.S_mono HO187.out (fun k_ hk => ⟨trivial, fun e_ => hk.2 e_⟩))); (case aS => exact (below_size (by exact hopb HB.out))); (case aL => have := LMc21.out; omega); intro v199 w33 ho hb hg hat; rw [← Ny198.out] at ho; replace HB := ak (hb); have HO200 := ak (ho); clear HO187 HO197; clear ho hb hg hat))
                go_ret
                exact ⟨_, by first | rfl | (simp only [u8_w_, w64_u8_] <;> rfl) | (simp [errW_none, errW_some] <;> rfl) | (simp only [← hji8, ← hji17]; first | rfl | (simp [errW_none, errW_some] <;> rfl)) | (simp [*, errW_none, errW_some] <;> rfl), by (with_reducible repeat (first | apply Kd.S_alloc | apply Kd.S_drewN | apply Kd.S_drew)); exact HO200.out, by exact hopb HB.out⟩
               ·rw [if_neg c21] at H
                exact absurd H (by simp)
              ·rw [if_neg c20] at H
               exact absurd H (by simp)
             ·rw [if_neg c18] at H
              exact absurd H (by simp)
            ·rw [if_neg c16] at H
             have c16b0 : decide ((wrap64 ((ji8) - 1)) < (l0.length : Int)) = false := decide_eq_false c16
             clear c16
             have H' := ak H
             clear H
             go_wp2_with (first | ((with_reducible refine gate_dst (N := 30) rfl ?_); (try (refine gate_guard (by rfl) ?_; dsimp only)); refine Kd.R_lit k71 _ 71 ?hg (N := 30) ?hd (xs := ([] : List (S71))) (inner := []) (ok := fun _ => True) (okp := fun _ => True) ?hr ?hp (fun _ hk => hk) trivial (Below.refl _ _) (Nat.le_refl _) (by simp) ?_; (case hd => rfl); (case hg => rfl); (case hr => first | (go_simp; done) | (go_simp; rfl)); (case hp => exact (Reps.none _ _)); intro v176 w34 ho35 hb hg_ hnew_; clear hg_ hnew_; (first | rw [← Ny175.out] at ho35 | (simp only [Int.reduceToNat] at ho35; rw [← Ny175.out] at ho35)); replace HO_3 := ak (Kd.S_elder' (by (with_reducible repeat (first | apply Kd.S_alloc | apply Kd.S_drewN | apply Kd.S_drew)); exact HO_3.out) (Kd.R_base ho35) hb); have HO177 := ak (Kd.R_lower ho35 (below_size (by exact hopb HB.out))); replace HB := ak (below_step (by exact hopb HB.out) hb); clear hb ho35; have q36 : ((wrap64 ((ji8) - 1)) : Int) ≤ ((l0.length : Int) : Int) := of_decide_eq_true (by assumption); obtain ⟨i036, hi036, _, hsz36, _⟩ := info_parts info71; have hroom36 : l0.length ≤ c0 := HC0.out; have hC36 : Kd.C k71 _ A0 l0.length l0 := HR0.out; have ql36 : (x4_1 : Int) ≤ ((wrap64 ((ji8) - 1)) : Int) := of_decide_eq_true (by assumption); have q036 : (0 : Int) ≤ (x4_1 : Int) := of_decide_eq_true (by assumption); have hcut36 := cut_mid (P := Try.prog) 32 71 .i64 .i64 Try.underlying32 hi036 2 hsz36 A0 l0.length c0 x4_1 (wrap64 ((ji8) - 1)) q036 ql36 q36 hroom36; have hr36 := Kd.C_mid (lo := (x4_1 : Int).toNat) (hi := ((wrap64 ((ji8) - 1)) : Int).toNat) (c := c0) hC36 (by omega) (by omega) hroom36; obtain ⟨A36, hA36⟩ : ∃ A1, A1 = (if c0 = (x4_1 : Int).toNat then A0 else (A0 : Option Addr).map (·.add ((x4_1 : Int).toNat * 2))) := ⟨_, rfl⟩; obtain ⟨c36, hc36⟩ : ∃ c1, c1 = c0 - (x4_1 : Int).toNat := ⟨_, rfl⟩; have hy36 : y178.length = ((wrap64 ((ji8) - 1)) : Int).toNat - (x4_1 : Int).toNat := (by rw [Ny178.out, List.length_drop, List.length_take] <;> omega); rw [show ((l0).take ((wrap64 ((ji8) - 1)) : Int).toNat).drop (x4_1 : Int).toNat = y178 from Ny178.out.symm] at hr36; replace hr36 : Kd.C k71 _ A36 y178.length y178 := (by rw [hA36]; exact hr36); rw [← hy36, ← hA36, ← hc36] at hcut36; have HR181 := ak hr36; have HC181 := ak (show y178.length ≤ c36 from by rw [hy36, hc36]; exact Nat.sub_le_sub_right (Nat.le_trans (by omega) hroom36) _); clear hr36 hC36 hroom36 hi036 hsz36 hc36; have KY36 := ak hy36; have KA36 := ak hA36; clear hy36 hA36; replace q36 := eq_true q36) | ((with_reducible refine gate_builtin (b := .append) (xs := #[.tmp 30, .tmp 34]) rfl ?_); (try (refine gate_guard (by rfl) ?_; dsimp only)); at_builtin; refine Kd.R_append_rows k71 (w0 := w) w.heap.size rfl (.tmp 30) (.tmp 34) 32 71 (.agg #[(.string ⟨#[]⟩), (.int .i64 0)]) 24 rfl Try.underlying32 info71 rfl (by decide) (by omega) v176 y175 y178 _ _ _ (fun _ => True) (fun _ => False) rfl rfl ?aO ?aR (fun _ _ h => h) (fun _ h => h.elim) ?aF ?aB ?aS ?aL ?_; (case aR => repeat (first | exact (Kd.C_below HR181.out HB.out) | (with_reducible refine Kd.C_alloc ?_ _) | (with_reducible refine Kd.C_drewN ?_ _) | (with_reducible refine Kd.C_drew ?_))); (case aB => exact (by exact hopb HB.out)); (case aF => exact (fun _ _ => trivial)); (case aO => exact (by (with_reducible repeat (first | apply Kd.R_alloc | apply Kd.R_drewN | apply Kd.R_drew)); exact HO177.out)); (case aS => exact (below_size (by exact hopb HB.out))); (case aL => have := LMc13.out; omega); intro v183 w37 ho hb hg hat; rw [← Ny182.out] at ho; replace HO_3 := ak (Kd.S_after (ok := (fun _ => True)) (by (with_reducible repeat (first | apply Kd.S_alloc | apply Kd.S_drewN | apply Kd.S_drew)); exact HO_3.out) hg hat); replace HB := ak (hb); have HO184 := ak (ho); clear HO177; clear ho hb hg hat; obtain ⟨Ao38, co38, eo38⟩ := Kd.R_slice HO184.out; subst eo38) | ((with_reducible refine gate_builtin (b := .append) (xs := #[.tmp 29, .tmp 37]) rfl ?_); (try (refine gate_guard (by rfl) ?_; dsimp only)); at_builtin; refine Kd.S_append k64 (w0 := w) w.heap.size rfl (.tmp 29) (.tmp 37) 34 64 (.agg #[(.slice none 0 0)]) 24 rfl Try.underlying34 info64 rfl (by decide) (by omega) u3 x3_1 (⟨y182⟩ : S64) [.slice Ao38 y182.length co38] (fun _ => True) (fun k_ => some k_ = (.slice Ao38 y182.length co38 : Value).ownBlock) rfl rfl ?aP (fun k_ hk_ => ((Kd.R_mono (ok' := fun k_ => ((fun _ => True)) k_ ∧ some k_ ≠ (u3 : Value).ownBlock) (Kd.R_apart' (HO184.out) (Kd.S_typed HO_3.out) (by decide)) (fun k_ hk => ⟨trivial, hk.2⟩))).1 k_ hk_.symm) ?aF ?aO ?aB ?aS ?aL ?_; (case aP => exact k64_mkM _ _ _ (⟨y182⟩ : S64) (Kd.R_mono (Kd.R_tight rfl (Kd.R_mono (ok' := fun k_ => ((fun _ => True)) k_ ∧ some k_ ≠ (u3 : Value).ownBlock) (Kd.R_apart' (HO184.out) (Kd.S_typed HO_3.out) (by decide)) (fun k_ hk => ⟨trivial, hk.2⟩))) (fun _ h_ => h_))); (case aB => exact (by exact hopb HB.out)); (case aF => exact (fun _ _ => trivial)); (case aO => exact (by (with_reducible repeat (first | apply Kd.S_alloc | apply Kd.S_drewN | apply Kd.S_drew)); exact Kd.S_mono HO_3.out (fun k_ hk => ⟨trivial, fun e_ => hk.2 e_⟩))); (case aS => exact (below_size (by exact hopb HB.out))); (case aL => have := LMc14.out; omega); intro v186 w39 ho hb hg hat; rw [← Ny185.out] at ho; replace HB := ak (hb); have HO187 := ak (ho); clear HO_3 HO184; clear ho hb hg hat))
             go_roundg k1
             case measure => have := HK1.out; omega
             case rel => exact ⟨(y185), (wrap64 (x4_1 + 4)), (by first | rfl | (simp; done) | (simp [bne]; done) | (simp [*]; done)), H', ⟨by have := HK1.out; omega⟩, ⟨by (with_reducible repeat (first | apply Kd.S_alloc | apply Kd.S_drewN | apply Kd.S_drew)); exact HO187.out⟩, ⟨by exact hopb HB.out⟩⟩
           ·rw [if_neg c15] at H
            have c15b0 : decide ((wrap64 ((ji8) - 1)) < (wrap64 (x4_1 + 4))) = false := decide_eq_false c15
            clear c15
            have H' := ak H
            clear H
            go_wp2_with (first | ((with_reducible refine gate_dst (N := 30) rfl ?_); (try (refine gate_guard (by rfl) ?_; dsimp only)); refine Kd.R_lit k71 _ 71 ?hg (N := 30) ?hd (xs := ([] : List (S71))) (inner := []) (ok := fun _ => True) (okp := fun _ => True) ?hr ?hp (fun _ hk => hk) trivial (Below.refl _ _) (Nat.le_refl _) (by simp) ?_; (case hd => rfl); (case hg => rfl); (case hr => first | (go_simp; done) | (go_simp; rfl)); (case hp => exact (Reps.none _ _)); intro v176 w40 ho41 hb hg_ hnew_; clear hg_ hnew_; (first | rw [← Ny175.out] at ho41 | (simp only [Int.reduceToNat] at ho41; rw [← Ny175.out] at ho41)); replace HO_3 := ak (Kd.S_elder' (by (with_reducible repeat (first | apply Kd.S_alloc | apply Kd.S_drewN | apply Kd.S_drew)); exact HO_3.out) (Kd.R_base ho41) hb); have HO177 := ak (Kd.R_lower ho41 (below_size (by exact hopb HB.out))); replace HB := ak (below_step (by exact hopb HB.out) hb); clear hb ho41; have q42 : ((wrap64 ((ji8) - 1)) : Int) ≤ ((l0.length : Int) : Int) := of_decide_eq_true (by assumption); obtain ⟨i042, hi042, _, hsz42, _⟩ := info_parts info71; have hroom42 : l0.length ≤ c0 := HC0.out; have hC42 : Kd.C k71 _ A0 l0.length l0 := HR0.out; have ql42 : (x4_1 : Int) ≤ ((wrap64 ((ji8) - 1)) : Int) := of_decide_eq_true (by assumption); have q042 : (0 : Int) ≤ (x4_1 : Int) := of_decide_eq_true (by assumption); have hcut42 := cut_mid (P := Try.prog) 32 71 .i64 .i64 Try.underlying32 hi042 2 hsz42 A0 l0.length c0 x4_1 (wrap64 ((ji8) - 1)) q042 ql42 q42 hroom42; have hr42 := Kd.C_mid (lo := (x4_1 : Int).toNat) (hi := ((wrap64 ((ji8) - 1)) : Int).toNat) (c := c0) hC42 (by omega) (by omega) hroom42; obtain ⟨A42, hA42⟩ : ∃ A1, A1 = (if c0 = (x4_1 : Int).toNat then A0 else (A0 : Option Addr).map (·.add ((x4_1 : Int).toNat * 2))) := ⟨_, rfl⟩; obtain ⟨c42, hc42⟩ : ∃ c1, c1 = c0 - (x4_1 : Int).toNat := ⟨_, rfl⟩; have hy42 : y178.length = ((wrap64 ((ji8) - 1)) : Int).toNat - (x4_1 : Int).toNat := (by rw [Ny178.out, List.length_drop, List.length_take] <;> omega); rw [show ((l0).take ((wrap64 ((ji8) - 1)) : Int).toNat).drop (x4_1 : Int).toNat = y178 from Ny178.out.symm] at hr42; replace hr42 : Kd.C k71 _ A42 y178.length y178 := (by rw [hA42]; exact hr42); rw [← hy42, ← hA42, ← hc42] at hcut42; have HR181 := ak hr42; have HC181 := ak (show y178.length ≤ c42 from by rw [hy42, hc42]; exact Nat.sub_le_sub_right (Nat.le_trans (by omega) hroom42) _); clear hr42 hC42 hroom42 hi042 hsz42 hc42; have KY42 := ak hy42; have KA42 := ak hA42; clear hy42 hA42; replace q42 := eq_true q42) | ((with_reducible refine gate_builtin (b := .append) (xs := #[.tmp 30, .tmp 34]) rfl ?_); (try (refine gate_guard (by rfl) ?_; dsimp only)); at_builtin; refine Kd.R_append_rows k71 (w0 := w) w.heap.size rfl (.tmp 30) (.tmp 34) 32 71 (.agg #[(.string ⟨#[]⟩), (.int .i64 0)]) 24 rfl Try.underlying32 info71 rfl (by decide) (by omega) v176 y175 y178 _ _ _ (fun _ => True) (fun _ => False) rfl rfl ?aO ?aR (fun _ _ h => h) (fun _ h => h.elim) ?aF ?aB ?aS ?aL ?_; (case aR => repeat (first | exact (Kd.C_below HR181.out HB.out) | (with_reducible refine Kd.C_alloc ?_ _) | (with_reducible refine Kd.C_drewN ?_ _) | (with_reducible refine Kd.C_drew ?_))); (case aB => exact (by exact hopb HB.out)); (case aF => exact (fun _ _ => trivial)); (case aO => exact (by (with_reducible repeat (first | apply Kd.R_alloc | apply Kd.R_drewN | apply Kd.R_drew)); exact HO177.out)); (case aS => exact (below_size (by exact hopb HB.out))); (case aL => have := LMc13.out; omega); intro v183 w43 ho hb hg hat; rw [← Ny182.out] at ho; replace HO_3 := ak (Kd.S_after (ok := (fun _ => True)) (by (with_reducible repeat (first | apply Kd.S_alloc | apply Kd.S_drewN | apply Kd.S_drew)); exact HO_3.out) hg hat); replace HB := ak (hb); have HO184 := ak (ho); clear HO177; clear ho hb hg hat; obtain ⟨Ao44, co44, eo44⟩ := Kd.R_slice HO184.out; subst eo44) | ((with_reducible refine gate_builtin (b := .append) (xs := #[.tmp 29, .tmp 37]) rfl ?_); (try (refine gate_guard (by rfl) ?_; dsimp only)); at_builtin; refine Kd.S_append k64 (w0 := w) w.heap.size rfl (.tmp 29) (.tmp 37) 34 64 (.agg #[(.slice none 0 0)]) 24 rfl Try.underlying34 info64 rfl (by decide) (by omega) u3 x3_1 (⟨y182⟩ : S64) [.slice Ao44 y182.length co44] (fun _ => True) (fun k_ => some k_ = (.slice Ao44 y182.length co44 : Value).ownBlock) rfl rfl ?aP (fun k_ hk_ => ((Kd.R_mono (ok' := fun k_ => ((fun _ => True)) k_ ∧ some k_ ≠ (u3 : Value).ownBlock) (Kd.R_apart' (HO184.out) (Kd.S_typed HO_3.out) (by decide)) (fun k_ hk => ⟨trivial, hk.2⟩))).1 k_ hk_.symm) ?aF ?aO ?aB ?aS ?aL ?_; (case aP => exact k64_mkM _ _ _ (⟨y182⟩ : S64) (Kd.R_mono (Kd.R_tight rfl (Kd.R_mono (ok' := fun k_ => ((fun _ => True)) k_ ∧ some k_ ≠ (u3 : Value).ownBlock) (Kd.R_apart' (HO184.out) (Kd.S_typed HO_3.out) (by decide)) (fun k_ hk => ⟨trivial, hk.2⟩))) (fun _ h_ => h_))); (case aB => exact (by exact hopb HB.out)); (case aF => exact (fun _ _ => trivial)); (case aO => exact (by (with_reducible repeat (first | apply Kd.S_alloc | apply Kd.S_drewN | apply Kd.S_drew)); exact Kd.S_mono HO_3.out (fun k_ hk => ⟨trivial, fun e_ => hk.2 e_⟩))); (case aS => exact (below_size (by exact hopb HB.out))); (case aL => have := LMc14.out; omega); intro v186 w45 ho hb hg hat; rw [← Ny185.out] at ho; replace HB := ak (hb); have HO187 := ak (ho); clear HO_3 HO184; clear ho hb hg hat))
            go_roundg k1
            case measure => have := HK1.out; omega
            case rel => exact ⟨(y185), (wrap64 (x4_1 + 4)), (by first | rfl | (simp; done) | (simp [bne]; done) | (simp [*]; done)), H', ⟨by have := HK1.out; omega⟩, ⟨by (with_reducible repeat (first | apply Kd.S_alloc | apply Kd.S_drewN | apply Kd.S_drew)); exact HO187.out⟩, ⟨by exact hopb HB.out⟩⟩
          ·rw [if_neg c14] at H
           exact absurd H (by simp)
         ·rw [if_neg c13] at H
          exact absurd H (by simp)
        ·rw [if_neg c12] at H
         exact absurd H (by simp)
       ·rw [if_neg c11] at H
        exact absurd H (by simp)
      ·rw [if_neg c10] at H
       exact absurd H (by simp)
     ·rw [if_neg c9] at H
      have c9b0 : ((wrap64 ((l0.length : Int) - (ji8))) == 1) = false := beq_eq_false_iff_ne.mpr c9
      have c9b1 : ((wrap64 ((l0.length : Int) - (ji8))) != 1) = true := bne_iff_ne.mpr c9
      obtain ⟨y201, hy201⟩ : ∃ y_ : List (S71), y_ = (([] : List (S71))) := ⟨_, rfl⟩
      replace H : (if 0 ≤ x4_1 then (if x4_1 ≤ (ji8) then (if (ji8) ≤ (l0.length : Int) then ((some ((l0.take ((ji8) : Int).toNat).drop (x4_1 : Int).toNat : List (S71))).bind fun y204 => (if y201.length + y204.length < 5864062014805 then (if x3_1.length < 5864062014805 then ((some (x3_1 ++ [(⟨(y201 ++ y204)⟩ : S64)] : List (S64))).bind fun y211 => (if (ji8) < (wrap64 (x4_1 + 4)) then (if (ji8) < (l0.length : Int) then ((some (([] : List (S71)) : List (S71))).bind fun y214 => (if 0 ≤ (ji8) then ((some (l0.drop ((ji8) : Int).toNat : List (S71))).bind fun y217 => (if y214.length + y217.length < 5864062014805 then (if y211.length < 5864062014805 then (some (y211 ++ [(⟨(y214 ++ y217)⟩ : S64)])) else (none)) else (none))) else (none))) else (spec_PagesOf.l0 k1 l0 y211 (wrap64 (x4_1 + 4)))) else (spec_PagesOf.l0 k1 l0 y211 (wrap64 (x4_1 + 4))))) else (none)) else (none))) else (none)) else (none)) else (none)) = some r := by first | (rw [hy201]; exact H) | exact H
      have Ny201 := ak hy201
      clear hy201
      by_cases c46 : 0 ≤ x4_1
      ·rw [if_pos c46] at H
       have c46b0 := eq_true c46
       have c46b1 : decide (0 ≤ x4_1) = true := decide_eq_true c46
       clear c46
       by_cases c47 : x4_1 ≤ (ji8)
       ·rw [if_pos c47] at H
        have c47b0 := eq_true c47
        have c47b1 : decide (x4_1 ≤ (ji8)) = true := decide_eq_true c47
        clear c47
        by_cases c48 : (ji8) ≤ (l0.length : Int)
        ·rw [if_pos c48] at H
         have c48b0 := eq_true c48
         have c48b1 : decide ((ji8) ≤ (l0.length : Int)) = true := decide_eq_true c48
         clear c48
         obtain ⟨y204, hy204⟩ : ∃ y_ : List (S71), y_ = ((l0.take ((ji8) : Int).toNat).drop (x4_1 : Int).toNat) := ⟨_, rfl⟩
         replace H : (if y201.length + y204.length < 5864062014805 then (if x3_1.length < 5864062014805 then ((some (x3_1 ++ [(⟨(y201 ++ y204)⟩ : S64)] : List (S64))).bind fun y211 => (if (ji8) < (wrap64 (x4_1 + 4)) then (if (ji8) < (l0.length : Int) then ((some (([] : List (S71)) : List (S71))).bind fun y214 => (if 0 ≤ (ji8) then ((some (l0.drop ((ji8) : Int).toNat : List (S71))).bind fun y217 => (if y214.length + y217.length < 5864062014805 then (if y211.length < 5864062014805 then (some (y211 ++ [(⟨(y214 ++ y217)⟩ : S64)])) else (none)) else (none))) else (none))) else (spec_PagesOf.l0 k1 l0 y211 (wrap64 (x4_1 + 4)))) else (spec_PagesOf.l0 k1 l0 y211 (wrap64 (x4_1 + 4))))) else (none)) else (none)) = some r := by first | (rw [hy204]; exact H) | exact H
         have Ny204 := ak hy204
         clear hy204
         by_cases c49 : y201.length + y204.length < 5864062014805
         ·rw [if_pos c49] at H
          have LMc49 := ak c49
          clear c49
          obtain ⟨y208, hy208⟩ : ∃ y_ : List (S71), y_ = (y201 ++ y204) := ⟨_, rfl⟩
          replace H : (if x3_1.length < 5864062014805 then ((some (x3_1 ++ [(⟨y208⟩ : S64)] : List (S64))).bind fun y211 => (if (ji8) < (wrap64 (x4_1 + 4)) then (if (ji8) < (l0.length : Int) then ((some (([] : List (S71)) : List (S71))).bind fun y214 => (if 0 ≤ (ji8) then ((some (l0.drop ((ji8) : Int).toNat : List (S71))).bind fun y217 => (if y214.length + y217.length < 5864062014805 then (if y211.length < 5864062014805 then (some (y211 ++ [(⟨(y214 ++ y217)⟩ : S64)])) else (none)) else (none))) else (none))) else (spec_PagesOf.l0 k1 l0 y211 (wrap64 (x4_1 + 4)))) else (spec_PagesOf.l0 k1 l0 y211 (wrap64 (x4_1 + 4))))) else (none)) = some r := by first | (rw [hy208]; exact H) | exact H
          have Ny208 := ak hy208
          clear hy208
          by_cases c50 : x3_1.length < 5864062014805
          ·rw [if_pos c50] at H
           have LMc50 := ak c50
           clear c50
           obtain ⟨y211, hy211⟩ : ∃ y_ : List (S64), y_ = (x3_1 ++ [(⟨y208⟩ : S64)]) := ⟨_, rfl⟩
           replace H : (if (ji8) < (wrap64 (x4_1 + 4)) then (if (ji8) < (l0.length : Int) then ((some (([] : List (S71)) : List (S71))).bind fun y214 => (if 0 ≤ (ji8) then ((some (l0.drop ((ji8) : Int).toNat : List (S71))).bind fun y217 => (if y214.length + y217.length < 5864062014805 then (if y211.length < 5864062014805 then (some (y211 ++ [(⟨(y214 ++ y217)⟩ : S64)])) else (none)) else (none))) else (none))) else (spec_PagesOf.l0 k1 l0 y211 (wrap64 (x4_1 + 4)))) else (spec_PagesOf.l0 k1 l0 y211 (wrap64 (x4_1 + 4)))) = some r := by first | (rw [hy211]; exact H) | exact H
           have Ny211 := ak hy211
           clear hy211
           by_cases c51 : (ji8) < (wrap64 (x4_1 + 4))
           ·rw [if_pos c51] at H
            have c51b0 : decide ((ji8) < (wrap64 (x4_1 + 4))) = true := decide_eq_true c51
            clear c51
            by_cases c52 : (ji8) < (l0.length : Int)
            ·rw [if_pos c52] at H
             have c52b0 : decide ((ji8) < (l0.length : Int)) = true := decide_eq_true c52
             clear c52
             obtain ⟨y214, hy214⟩ : ∃ y_ : List (S71), y_ = (([] : List (S71))) := ⟨_, rfl⟩
             replace H : (if 0 ≤ (ji8) then ((some (l0.drop ((ji8) : Int).toNat : List (S71))).bind fun y217 => (if y214.length + y217.length < 5864062014805 then (if y211.length < 5864062014805 then (some (y211 ++ [(⟨(y214 ++ y217)⟩ : S64)])) else (none)) else (none))) else (none)) = some r := by first | (rw [hy214]; exact H) | exact H
             have Ny214 := ak hy214
             clear hy214
             by_cases c53 : 0 ≤ (ji8)
             ·rw [if_pos c53] at H
              have c53b0 := eq_true c53
              have c53b1 : decide (0 ≤ (ji8)) = true := decide_eq_true c53
              clear c53
              have c54b0 := eq_true (of_decide_eq_true (by assumption) : (ji8) ≤ (l0.length : Int))
              obtain ⟨y217, hy217⟩ : ∃ y_ : List (S71), y_ = (l0.drop ((ji8) : Int).toNat) := ⟨_, rfl⟩
              replace H : (if y214.length + y217.length < 5864062014805 then (if y211.length < 5864062014805 then (some (y211 ++ [(⟨(y214 ++ y217)⟩ : S64)])) else (none)) else (none)) = some r := by first | (rw [hy217]; exact H) | exact H
              have Ny217 := ak hy217
              clear hy217
              by_cases c55 : y214.length + y217.length < 5864062014805
              ·rw [if_pos c55] at H
               have LMc55 := ak c55
               clear c55
               obtain ⟨y221, hy221⟩ : ∃ y_ : List (S71), y_ = (y214 ++ y217) := ⟨_, rfl⟩
               replace H : (if y211.length < 5864062014805 then (some (y211 ++ [(⟨y221⟩ : S64)])) else (none)) = some r := by first | (rw [hy221]; exact H) | exact H
               have Ny221 := ak hy221
               clear hy221
               by_cases c56 : y211.length < 5864062014805
               ·rw [if_pos c56] at H
                have LMc56 := ak c56
                clear c56
                obtain ⟨y224, hy224⟩ : ∃ y_ : List (S64), y_ = (y211 ++ [(⟨y221⟩ : S64)]) := ⟨_, rfl⟩
                replace H : (some y224) = some r := by first | (rw [hy224]; exact H) | exact H
                have Ny224 := ak hy224
                clear hy224
                obtain rfl := Option.some.inj H
                go_wp2_with (first | ((with_reducible refine gate_dst (N := 30) rfl ?_); (try (refine gate_guard (by rfl) ?_; dsimp only)); refine Kd.R_lit k71 _ 71 ?hg (N := 30) ?hd (xs := ([] : List (S71))) (inner := []) (ok := fun _ => True) (okp := fun _ => True) ?hr ?hp (fun _ hk => hk) trivial (Below.refl _ _) (Nat.le_refl _) (by simp) ?_; (case hd => rfl); (case hg => rfl); (case hr => first | (go_simp; done) | (go_simp; rfl)); (case hp => exact (Reps.none _ _)); intro v202 w57 ho58 hb hg_ hnew_; clear hg_ hnew_; (first | rw [← Ny201.out] at ho58 | (simp only [Int.reduceToNat] at ho58; rw [← Ny201.out] at ho58)); replace HO_3 := ak (Kd.S_elder' (by (with_reducible repeat (first | apply Kd.S_alloc | apply Kd.S_drewN | apply Kd.S_drew)); exact HO_3.out) (Kd.R_base ho58) hb); have HO203 := ak (Kd.R_lower ho58 (below_size (by exact hopb HB.out))); replace HB := ak (below_step (by exact hopb HB.out) hb); clear hb ho58; have q59 : ((ji8) : Int) ≤ ((l0.length : Int) : Int) := of_decide_eq_true (by assumption); obtain ⟨i059, hi059, _, hsz59, _⟩ := info_parts info71; have hroom59 : l0.length ≤ c0 := HC0.out; have hC59 : Kd.C k71 _ A0 l0.length l0 := HR0.out; have ql59 : (x4_1 : Int) ≤ ((ji8) : Int) := of_decide_eq_true (by assumption); have q059 : (0 : Int) ≤ (x4_1 : Int) := of_decide_eq_true (by assumption); have hcut59 := cut_mid (P := Try.prog) 32 71 .i64 .i64 Try.underlying32 hi059 2 hsz59 A0 l0.length c0 x4_1 (ji8) q059 ql59 q59 hroom59; have hr59 := Kd.C_mid (lo := (x4_1 : Int).toNat) (hi := ((ji8) : Int).toNat) (c := c0) hC59 (by omega) (by omega) hroom59; obtain ⟨A59, hA59⟩ : ∃ A1, A1 = (if c0 = (x4_1 : Int).toNat then A0 else (A0 : Option Addr).map (·.add ((x4_1 : Int).toNat * 2))) := ⟨_, rfl⟩; obtain ⟨c59, hc59⟩ : ∃ c1, c1 = c0 - (x4_1 : Int).toNat := ⟨_, rfl⟩; have hy59 : y204.length = ((ji8) : Int).toNat - (x4_1 : Int).toNat := (by rw [Ny204.out, List.length_drop, List.length_take] <;> omega); rw [show ((l0).take ((ji8) : Int).toNat).drop (x4_1 : Int).toNat = y204 from Ny204.out.symm] at hr59; replace hr59 : Kd.C k71 _ A59 y204.length y204 := (by rw [hA59]; exact hr59); rw [← hy59, ← hA59, ← hc59] at hcut59; have HR207 := ak hr59; have HC207 := ak (show y204.length ≤ c59 from by rw [hy59, hc59]; exact Nat.sub_le_sub_right (Nat.le_trans (by omega) hroom59) _); clear hr59 hC59 hroom59 hi059 hsz59 hc59; have KY59 := ak hy59; have KA59 := ak hA59; clear hy59 hA59; replace q59 := eq_true q59) | ((with_reducible refine gate_builtin (b := .append) (xs := #[.tmp 30, .tmp 34]) rfl ?_); (try (refine gate_guard (by rfl) ?_; dsimp only)); at_builtin; refine Kd.R_append_rows k71 (w0 := w) w.heap.size rfl (.tmp 30) (.tmp 34) 32 71 (.agg #[(.string ⟨#[]⟩), (.int .i64 0)]) 24 rfl Try.underlying32 info71 rfl (by decide) (by omega) v202 y201 y204 _ _ _ (fun _ => True) (fun _ => False) rfl rfl ?aO ?aR (fun _ _ h => h) (fun _ h => h.elim) ?aF ?aB ?aS ?aL ?_; (case aR => repeat (first | exact (Kd.C_below HR207.out HB.out) | (with_reducible refine Kd.C_alloc ?_ _) | (with_reducible refine Kd.C_drewN ?_ _) | (with_reducible refine Kd.C_drew ?_))); (case aB => exact (by exact hopb HB.out)); (case aF => exact (fun _ _ => trivial)); (case aO => exact (by (with_reducible repeat (first | apply Kd.R_alloc | apply Kd.R_drewN | apply Kd.R_drew)); exact HO203.out)); (case aS => exact (below_size (by exact hopb HB.out))); (case aL => have := LMc49.out; omega); intro v209 w60 ho hb hg hat; rw [← Ny208.out] at ho; replace HO_3 := ak (Kd.S_after (ok := (fun _ => True)) (by (with_reducible repeat (first | apply Kd.S_alloc | apply Kd.S_drewN | apply Kd.S_drew)); exact HO_3.out) hg hat); replace HB := ak (hb); have HO210 := ak (ho); clear HO203; clear ho hb hg hat; obtain ⟨Ao61, co61, eo61⟩ := Kd.R_slice HO210.out; subst eo61) | ((with_reducible refine gate_builtin (b := .append) (xs := #[.tmp 29, .tmp 37]) rfl ?_); (try (refine gate_guard (by rfl) ?_; dsimp only)); at_builtin; refine Kd.S_append k64 (w0 := w) w.heap.size rfl (.tmp 29) (.tmp 37) 34 64 (.agg #[(.slice none 0 0)]) 24 rfl Try.underlying34 info64 rfl (by decide) (by omega) u3 x3_1 (⟨y208⟩ : S64) [.slice Ao61 y208.length co61] (fun _ => True) (fun k_ => some k_ = (.slice Ao61 y208.length co61 : Value).ownBlock) rfl rfl ?aP (fun k_ hk_ => ((Kd.R_mono (ok' := fun k_ => ((fun _ => True)) k_ ∧ some k_ ≠ (u3 : Value).ownBlock) (Kd.R_apart' (HO210.out) (Kd.S_typed HO_3.out) (by decide)) (fun k_ hk => ⟨trivial, hk.2⟩))).1 k_ hk_.symm) ?aF ?aO ?aB ?aS ?aL ?_; (case aP => exact k64_mkM _ _ _ (⟨y208⟩ : S64) (Kd.R_mono (Kd.R_tight rfl (Kd.R_mono (ok' := fun k_ => ((fun _ => True)) k_ ∧ some k_ ≠ (u3 : Value).ownBlock) (Kd.R_apart' (HO210.out) (Kd.S_typed HO_3.out) (by decide)) (fun k_ hk => ⟨trivial, hk.2⟩))) (fun _ h_ => h_))); (case aB => exact (by exact hopb HB.out)); (case aF => exact (fun _ _ => trivial)); (case aO => exact (by (with_reducible repeat (first | apply Kd.S_alloc | apply Kd.S_drewN | apply Kd.S_drew)); exact Kd.S_mono HO_3.out (fun k_ hk => ⟨trivial, fun e_ => hk.2 e_⟩))); (case aS => exact (below_size (by exact hopb HB.out))); (case aL => have := LMc50.out; omega); intro v212 w62 ho hb hg hat; rw [← Ny211.out] at ho; replace HB := ak (hb); have HO213 := ak (ho); clear HO_3 HO210; clear ho hb hg hat) | ((with_reducible refine gate_dst (N := 50) rfl ?_); (try (refine gate_guard (by rfl) ?_; dsimp only)); refine Kd.R_lit k71 _ 71 ?hg (N := 50) ?hd (xs := ([] : List (S71))) (inner := []) (ok := fun _ => True) (okp := fun _ => True) ?hr ?hp (fun _ hk => hk) trivial (Below.refl _ _) (Nat.le_refl _) (by simp) ?_; (case hd => rfl); (case hg => rfl); (case hr => first | (go_simp; done) | (go_simp; rfl)); (case hp => exact (Reps.none _ _)); intro v215 w63 ho64 hb hg_ hnew_; clear hg_ hnew_; (first | rw [← Ny214.out] at ho64 | (simp only [Int.reduceToNat] at ho64; rw [← Ny214.out] at ho64)); replace HO213 := ak (Kd.S_elder' (by (with_reducible repeat (first | apply Kd.S_alloc | apply Kd.S_drewN | apply Kd.S_drew)); exact HO213.out) (Kd.R_base ho64) hb); have HO216 := ak (Kd.R_lower ho64 (below_size (by exact hopb HB.out))); replace HB := ak (below_step (by exact hopb HB.out) hb); clear hb ho64; have q65 : ((ji8) : Int) ≤ ((l0.length : Int) : Int) := of_decide_eq_true (by assumption); obtain ⟨i065, hi065, _, hsz65, _⟩ := info_parts info71; have hroom65 : l0.length ≤ c0 := HC0.out; have hC65 : Kd.C k71 _ A0 l0.length l0 := HR0.out; have q065 : (0 : Int) ≤ ((ji8) : Int) := of_decide_eq_true (by assumption); have hcut65 := cut_from (P := Try.prog) 32 71 .i64 Try.underlying32 hi065 2 hsz65 A0 l0.length c0 (ji8) q065 q65; have hr65 := Kd.C_drop (m := ((ji8) : Int).toNat) (c := c0) hC65 (by omega) hroom65; obtain ⟨A65, hA65⟩ : ∃ A1, A1 = (if c0 = ((ji8) : Int).toNat then A0 else (A0 : Option Addr).map (·.add (((ji8) : Int).toNat * 2))) := ⟨_, rfl⟩; obtain ⟨c65, hc65⟩ : ∃ c1, c1 = c0 - ((ji8) : Int).toNat := ⟨_, rfl⟩; have hy65 : y217.length = l0.length - ((ji8) : Int).toNat := (by rw [Ny217.out, List.length_drop] <;> omega); rw [show (l0).drop ((ji8) : Int).toNat = y217 from Ny217.out.symm] at hr65; replace hr65 : Kd.C k71 _ A65 y217.length y217 := (by rw [hA65]; exact hr65); rw [← hy65, ← hA65, ← hc65] at hcut65; have HR220 := ak hr65; have HC220 := ak (show y217.length ≤ c65 from by rw [hy65, hc65]; exact Nat.sub_le_sub_right hroom65 _); clear hr65 hC65 hroom65 hi065 hsz65 hc65; have KY65 := ak hy65; have KA65 := ak hA65; clear hy65 hA65; replace q65 := eq_true q65) | ((with_reducible refine gate_builtin (b := .append) (xs := #[.tmp 50, .tmp 53]) rfl ?_); (try (refine gate_guard (by rfl) ?_; dsimp only)); at_builtin; refine Kd.R_append_rows k71 (w0 := w) w.heap.size rfl (.tmp 50) (.tmp 53) 32 71 (.agg #[(.string ⟨#[]⟩), (.int .i64 0)]) 24 rfl Try.underlying32 info71 rfl (by decide) (by omega) v215 y214 y217 _ _ _ (fun _ => True) (fun _ => False) rfl rfl ?aO ?aR (fun _ _ h => h) (fun _ h => h.elim) ?aF ?aB ?aS ?aL ?_; (case aR => repeat (first | exact (Kd.C_below HR220.out HB.out) | (with_reducible refine Kd.C_alloc ?_ _) | (with_reducible refine Kd.C_drewN ?_ _) | (with_reducible refine Kd.C_drew ?_))); (case aB => exact (by exact hopb HB.out)); (case aF => exact (fun _ _ => trivial)); (case aO => exact (by (with_reducible repeat (first | apply Kd.R_alloc | apply Kd.R_drewN | apply Kd.R_drew)); exact HO216.out)); (case aS => exact (below_size (by exact hopb HB.out))); (case aL => have := LMc55.out; omega); intro v222 w66 ho hb hg hat; rw [← Ny221.out] at ho; replace HO213 := ak (Kd.S_after (ok := (fun _ => True)) (by (with_reducible repeat (first | apply Kd.S_alloc | apply Kd.S_drewN | apply Kd.S_drew)); exact HO213.out) hg hat); replace HB := ak (hb); have HO223 := ak (ho); clear HO216; clear ho hb hg hat; obtain ⟨Ao67, co67, eo67⟩ := Kd.R_slice HO223.out; subst eo67) | ((with_reducible refine gate_builtin (b := .append) (xs := #[.tmp 49, .tmp 56]) rfl ?_); (try (refine gate_guard (by rfl) ?_; dsimp only)); at_builtin; refine Kd.S_append k64 (w0 := w) w.heap.size rfl (.tmp 49) (.tmp 56) 34 64 (.agg #[(.slice none 0 0)]) 24 rfl Try.underlying34 info64 rfl (by decide) (by omega) v212 y211 (⟨y221⟩ : S64) [.slice Ao67 y221.length co67] (fun _ => True) (fun k_ => some k_ = (.slice Ao67 y221.length co67 : Value).ownBlock) rfl rfl ?aP (fun k_ hk_ => ((Kd.R_mono (ok' := fun k_ => ((fun _ => True)) k_ ∧ some k_ ≠ (v212 : Value).ownBlock) (Kd.R_apart' (HO223.out) (Kd.S_typed HO213.out) (by decide)) (fun k_ hk => ⟨trivial, hk.2⟩))).1 k_ hk_.symm) ?aF ?aO ?aB ?aS ?aL ?_; (case aP => exact k64_mkM _ _ _ (⟨y221⟩ : S64) (Kd.R_mono (Kd.R_tight rfl (Kd.R_mono (ok' := fun k_ => ((fun _ => True)) k_ ∧ some k_ ≠ (v212 : Value).ownBlock) (Kd.R_apart' (HO223.out) (Kd.S_typed HO213.out) (by decide)) (fun k_ hk => ⟨trivial, hk.2⟩))) (fun _ h_ => h_))); (case aB => exact (by exact hopb HB.out)); (case aF => exact (fun _ _ => trivial)); (case aO => exact (by (with_reducible repeat (first | apply Kd.S_alloc | apply Kd.S_drewN | apply Kd.S_drew)); exact Kd.S_mono HO213.out (fun k_ hk => ⟨trivial, fun e_ => hk.2 e_⟩))); (case aS => exact (below_size (by exact hopb HB.out))); (case aL => have := LMc56.out; omega); intro v225 w68 ho hb hg hat; rw [← Ny224.out] at ho; replace HB := ak (hb); have HO226 := ak (ho); clear HO213 HO223; clear ho hb hg hat))
                go_ret
                exact ⟨_, by first | rfl | (simp only [u8_w_, w64_u8_] <;> rfl) | (simp [errW_none, errW_some] <;> rfl) | (simp only [← hji8]; first | rfl | (simp [errW_none, errW_some] <;> rfl)) | (simp [*, errW_none, errW_some] <;> rfl), by (with_reducible repeat (first | apply Kd.S_alloc | apply Kd.S_drewN | apply Kd.S_drew)); exact HO226.out, by exact hopb HB.out⟩
               ·rw [if_neg c56] at H
                exact absurd H (by simp)
              ·rw [if_neg c55] at H
               exact absurd H (by simp)
             ·rw [if_neg c53] at H
              exact absurd H (by simp)
            ·rw [if_neg c52] at H
             have c52b0 : decide ((ji8) < (l0.length : Int)) = false := decide_eq_false c52
             clear c52
             have H' := ak H
             clear H
             go_wp2_with (first | ((with_reducible refine gate_dst (N := 30) rfl ?_); (try (refine gate_guard (by rfl) ?_; dsimp only)); refine Kd.R_lit k71 _ 71 ?hg (N := 30) ?hd (xs := ([] : List (S71))) (inner := []) (ok := fun _ => True) (okp := fun _ => True) ?hr ?hp (fun _ hk => hk) trivial (Below.refl _ _) (Nat.le_refl _) (by simp) ?_; (case hd => rfl); (case hg => rfl); (case hr => first | (go_simp; done) | (go_simp; rfl)); (case hp => exact (Reps.none _ _)); intro v202 w69 ho70 hb hg_ hnew_; clear hg_ hnew_; (first | rw [← Ny201.out] at ho70 | (simp only [Int.reduceToNat] at ho70; rw [← Ny201.out] at ho70)); replace HO_3 := ak (Kd.S_elder' (by (with_reducible repeat (first | apply Kd.S_alloc | apply Kd.S_drewN | apply Kd.S_drew)); exact HO_3.out) (Kd.R_base ho70) hb); have HO203 := ak (Kd.R_lower ho70 (below_size (by exact hopb HB.out))); replace HB := ak (below_step (by exact hopb HB.out) hb); clear hb ho70; have q71 : ((ji8) : Int) ≤ ((l0.length : Int) : Int) := of_decide_eq_true (by assumption); obtain ⟨i071, hi071, _, hsz71, _⟩ := info_parts info71; have hroom71 : l0.length ≤ c0 := HC0.out; have hC71 : Kd.C k71 _ A0 l0.length l0 := HR0.out; have ql71 : (x4_1 : Int) ≤ ((ji8) : Int) := of_decide_eq_true (by assumption); have q071 : (0 : Int) ≤ (x4_1 : Int) := of_decide_eq_true (by assumption); have hcut71 := cut_mid (P := Try.prog) 32 71 .i64 .i64 Try.underlying32 hi071 2 hsz71 A0 l0.length c0 x4_1 (ji8) q071 ql71 q71 hroom71; have hr71 := Kd.C_mid (lo := (x4_1 : Int).toNat) (hi := ((ji8) : Int).toNat) (c := c0) hC71 (by omega) (by omega) hroom71; obtain ⟨A71, hA71⟩ : ∃ A1, A1 = (if c0 = (x4_1 : Int).toNat then A0 else (A0 : Option Addr).map (·.add ((x4_1 : Int).toNat * 2))) := ⟨_, rfl⟩; obtain ⟨c71, hc71⟩ : ∃ c1, c1 = c0 - (x4_1 : Int).toNat := ⟨_, rfl⟩; have hy71 : y204.length = ((ji8) : Int).toNat - (x4_1 : Int).toNat := (by rw [Ny204.out, List.length_drop, List.length_take] <;> omega); rw [show ((l0).take ((ji8) : Int).toNat).drop (x4_1 : Int).toNat = y204 from Ny204.out.symm] at hr71; replace hr71 : Kd.C k71 _ A71 y204.length y204 := (by rw [hA71]; exact hr71); rw [← hy71, ← hA71, ← hc71] at hcut71; have HR207 := ak hr71; have HC207 := ak (show y204.length ≤ c71 from by rw [hy71, hc71]; exact Nat.sub_le_sub_right (Nat.le_trans (by omega) hroom71) _); clear hr71 hC71 hroom71 hi071 hsz71 hc71; have KY71 := ak hy71; have KA71 := ak hA71; clear hy71 hA71; replace q71 := eq_true q71) | ((with_reducible refine gate_builtin (b := .append) (xs := #[.tmp 30, .tmp 34]) rfl ?_); (try (refine gate_guard (by rfl) ?_; dsimp only)); at_builtin; refine Kd.R_append_rows k71 (w0 := w) w.heap.size rfl (.tmp 30) (.tmp 34) 32 71 (.agg #[(.string ⟨#[]⟩), (.int .i64 0)]) 24 rfl Try.underlying32 info71 rfl (by decide) (by omega) v202 y201 y204 _ _ _ (fun _ => True) (fun _ => False) rfl rfl ?aO ?aR (fun _ _ h => h) (fun _ h => h.elim) ?aF ?aB ?aS ?aL ?_; (case aR => repeat (first | exact (Kd.C_below HR207.out HB.out) | (with_reducible refine Kd.C_alloc ?_ _) | (with_reducible refine Kd.C_drewN ?_ _) | (with_reducible refine Kd.C_drew ?_))); (case aB => exact (by exact hopb HB.out)); (case aF => exact (fun _ _ => trivial)); (case aO => exact (by (with_reducible repeat (first | apply Kd.R_alloc | apply Kd.R_drewN | apply Kd.R_drew)); exact HO203.out)); (case aS => exact (below_size (by exact hopb HB.out))); (case aL => have := LMc49.out; omega); intro v209 w72 ho hb hg hat; rw [← Ny208.out] at ho; replace HO_3 := ak (Kd.S_after (ok := (fun _ => True)) (by (with_reducible repeat (first | apply Kd.S_alloc | apply Kd.S_drewN | apply Kd.S_drew)); exact HO_3.out) hg hat); replace HB := ak (hb); have HO210 := ak (ho); clear HO203; clear ho hb hg hat; obtain ⟨Ao73, co73, eo73⟩ := Kd.R_slice HO210.out; subst eo73) | ((with_reducible refine gate_builtin (b := .append) (xs := #[.tmp 29, .tmp 37]) rfl ?_); (try (refine gate_guard (by rfl) ?_; dsimp only)); at_builtin; refine Kd.S_append k64 (w0 := w) w.heap.size rfl (.tmp 29) (.tmp 37) 34 64 (.agg #[(.slice none 0 0)]) 24 rfl Try.underlying34 info64 rfl (by decide) (by omega) u3 x3_1 (⟨y208⟩ : S64) [.slice Ao73 y208.length co73] (fun _ => True) (fun k_ => some k_ = (.slice Ao73 y208.length co73 : Value).ownBlock) rfl rfl ?aP (fun k_ hk_ => ((Kd.R_mono (ok' := fun k_ => ((fun _ => True)) k_ ∧ some k_ ≠ (u3 : Value).ownBlock) (Kd.R_apart' (HO210.out) (Kd.S_typed HO_3.out) (by decide)) (fun k_ hk => ⟨trivial, hk.2⟩))).1 k_ hk_.symm) ?aF ?aO ?aB ?aS ?aL ?_; (case aP => exact k64_mkM _ _ _ (⟨y208⟩ : S64) (Kd.R_mono (Kd.R_tight rfl (Kd.R_mono (ok' := fun k_ => ((fun _ => True)) k_ ∧ some k_ ≠ (u3 : Value).ownBlock) (Kd.R_apart' (HO210.out) (Kd.S_typed HO_3.out) (by decide)) (fun k_ hk => ⟨trivial, hk.2⟩))) (fun _ h_ => h_))); (case aB => exact (by exact hopb HB.out)); (case aF => exact (fun _ _ => trivial)); (case aO => exact (by (with_reducible repeat (first | apply Kd.S_alloc | apply Kd.S_drewN | apply Kd.S_drew)); exact Kd.S_mono HO_3.out (fun k_ hk => ⟨trivial, fun e_ => hk.2 e_⟩))); (case aS => exact (below_size (by exact hopb HB.out))); (case aL => have := LMc50.out; omega); intro v212 w74 ho hb hg hat; rw [← Ny211.out] at ho; replace HB := ak (hb); have HO213 := ak (ho); clear HO_3 HO210; clear ho hb hg hat))
             go_roundg k1
             case measure => have := HK1.out; omega
             case rel => exact ⟨(y211), (wrap64 (x4_1 + 4)), (by first | rfl | (simp; done) | (simp [bne]; done) | (simp [*]; done)), H', ⟨by have := HK1.out; omega⟩, ⟨by (with_reducible repeat (first | apply Kd.S_alloc | apply Kd.S_drewN | apply Kd.S_drew)); exact HO213.out⟩, ⟨by exact hopb HB.out⟩⟩
           ·rw [if_neg c51] at H
            have c51b0 : decide ((ji8) < (wrap64 (x4_1 + 4))) = false := decide_eq_false c51
            clear c51
            have H' := ak H
            clear H
            go_wp2_with (first | ((with_reducible refine gate_dst (N := 30) rfl ?_); (try (refine gate_guard (by rfl) ?_; dsimp only)); refine Kd.R_lit k71 _ 71 ?hg (N := 30) ?hd (xs := ([] : List (S71))) (inner := []) (ok := fun _ => True) (okp := fun _ => True) ?hr ?hp (fun _ hk => hk) trivial (Below.refl _ _) (Nat.le_refl _) (by simp) ?_; (case hd => rfl); (case hg => rfl); (case hr => first | (go_simp; done) | (go_simp; rfl)); (case hp => exact (Reps.none _ _)); intro v202 w75 ho76 hb hg_ hnew_; clear hg_ hnew_; (first | rw [← Ny201.out] at ho76 | (simp only [Int.reduceToNat] at ho76; rw [← Ny201.out] at ho76)); replace HO_3 := ak (Kd.S_elder' (by (with_reducible repeat (first | apply Kd.S_alloc | apply Kd.S_drewN | apply Kd.S_drew)); exact HO_3.out) (Kd.R_base ho76) hb); have HO203 := ak (Kd.R_lower ho76 (below_size (by exact hopb HB.out))); replace HB := ak (below_step (by exact hopb HB.out) hb); clear hb ho76; have q77 : ((ji8) : Int) ≤ ((l0.length : Int) : Int) := of_decide_eq_true (by assumption); obtain ⟨i077, hi077, _, hsz77, _⟩ := info_parts info71; have hroom77 : l0.length ≤ c0 := HC0.out; have hC77 : Kd.C k71 _ A0 l0.length l0 := HR0.out; have ql77 : (x4_1 : Int) ≤ ((ji8) : Int) := of_decide_eq_true (by assumption); have q077 : (0 : Int) ≤ (x4_1 : Int) := of_decide_eq_true (by assumption); have hcut77 := cut_mid (P := Try.prog) 32 71 .i64 .i64 Try.underlying32 hi077 2 hsz77 A0 l0.length c0 x4_1 (ji8) q077 ql77 q77 hroom77; have hr77 := Kd.C_mid (lo := (x4_1 : Int).toNat) (hi := ((ji8) : Int).toNat) (c := c0) hC77 (by omega) (by omega) hroom77; obtain ⟨A77, hA77⟩ : ∃ A1, A1 = (if c0 = (x4_1 : Int).toNat then A0 else (A0 : Option Addr).map (·.add ((x4_1 : Int).toNat * 2))) := ⟨_, rfl⟩; obtain ⟨c77, hc77⟩ : ∃ c1, c1 = c0 - (x4_1 : Int).toNat := ⟨_, rfl⟩; have hy77 : y204.length = ((ji8) : Int).toNat - (x4_1 : Int).toNat := (by rw [Ny204.out, List.length_drop, List.length_take] <;> omega); rw [show ((l0).take ((ji8) : Int).toNat).drop (x4_1 : Int).toNat = y204 from Ny204.out.symm] at hr77; replace hr77 : Kd.C k71 _ A77 y204.length y204 := (by rw [hA77]; exact hr77); rw [← hy77, ← hA77, ← hc77] at hcut77; have HR207 := ak hr77; have HC207 := ak (show y204.length ≤ c77 from by rw [hy77, hc77]; exact Nat.sub_le_sub_right (Nat.le_trans (by omega) hroom77) _); clear hr77 hC77 hroom77 hi077 hsz77 hc77; have KY77 := ak hy77; have KA77 := ak hA77; clear hy77 hA77; replace q77 := eq_true q77) | ((with_reducible refine gate_builtin (b := .append) (xs := #[.tmp 30, .tmp 34]) rfl ?_); (try (refine gate_guard (by rfl) ?_; dsimp only)); at_builtin; refine Kd.R_append_rows k71 (w0 := w) w.heap.size rfl (.tmp 30) (.tmp 34) 32 71 (.agg #[(.string ⟨#[]⟩), (.int .i64 0)]) 24 rfl Try.underlying32 info71 rfl (by decide) (by omega) v202 y201 y204 _ _ _ (fun _ => True) (fun _ => False) rfl rfl ?aO ?aR (fun _ _ h => h) (fun _ h => h.elim) ?aF ?aB ?aS ?aL ?_; (case aR => repeat (first | exact (Kd.C_below HR207.out HB.out) | (with_reducible refine Kd.C_alloc ?_ _) | (with_reducible refine Kd.C_drewN ?_ _) | (with_reducible refine Kd.C_drew ?_))); (case aB => exact (by exact hopb HB.out)); (case aF => exact (fun _ _ => trivial)); (case aO => exact (by (with_reducible repeat (first | apply Kd.R_alloc | apply Kd.R_drewN | apply Kd.R_drew)); exact HO203.out)); (case aS => exact (below_size (by exact hopb HB.out))); (case aL => have := LMc49.out; omega); intro v209 w78 ho hb hg hat; rw [← Ny208.out] at ho; replace HO_3 := ak (Kd.S_after (ok := (fun _ => True)) (by (with_reducible repeat (first | apply Kd.S_alloc | apply Kd.S_drewN | apply Kd.S_drew)); exact HO_3.out) hg hat); replace HB := ak (hb); have HO210 := ak (ho); clear HO203; clear ho hb hg hat; obtain ⟨Ao79, co79, eo79⟩ := Kd.R_slice HO210.out; subst eo79) | ((with_reducible refine gate_builtin (b := .append) (xs := #[.tmp 29, .tmp 37]) rfl ?_); (try (refine gate_guard (by rfl) ?_; dsimp only)); at_builtin; refine Kd.S_append k64 (w0 := w) w.heap.size rfl (.tmp 29) (.tmp 37) 34 64 (.agg #[(.slice none 0 0)]) 24 rfl Try.underlying34 info64 rfl (by decide) (by omega) u3 x3_1 (⟨y208⟩ : S64) [.slice Ao79 y208.length co79] (fun _ => True) (fun k_ => some k_ = (.slice Ao79 y208.length co79 : Value).ownBlock) rfl rfl ?aP (fun k_ hk_ => ((Kd.R_mono (ok' := fun k_ => ((fun _ => True)) k_ ∧ some k_ ≠ (u3 : Value).ownBlock) (Kd.R_apart' (HO210.out) (Kd.S_typed HO_3.out) (by decide)) (fun k_ hk => ⟨trivial, hk.2⟩))).1 k_ hk_.symm) ?aF ?aO ?aB ?aS ?aL ?_; (case aP => exact k64_mkM _ _ _ (⟨y208⟩ : S64) (Kd.R_mono (Kd.R_tight rfl (Kd.R_mono (ok' := fun k_ => ((fun _ => True)) k_ ∧ some k_ ≠ (u3 : Value).ownBlock) (Kd.R_apart' (HO210.out) (Kd.S_typed HO_3.out) (by decide)) (fun k_ hk => ⟨trivial, hk.2⟩))) (fun _ h_ => h_))); (case aB => exact (by exact hopb HB.out)); (case aF => exact (fun _ _ => trivial)); (case aO => exact (by (with_reducible repeat (first | apply Kd.S_alloc | apply Kd.S_drewN | apply Kd.S_drew)); exact Kd.S_mono HO_3.out (fun k_ hk => ⟨trivial, fun e_ => hk.2 e_⟩))); (case aS => exact (below_size (by exact hopb HB.out))); (case aL => have := LMc50.out; omega); intro v212 w80 ho hb hg hat; rw [← Ny211.out] at ho; replace HB := ak (hb); have HO213 := ak (ho); clear HO_3 HO210; clear ho hb hg hat))
            go_roundg k1
            case measure => have := HK1.out; omega
            case rel => exact ⟨(y211), (wrap64 (x4_1 + 4)), (by first | rfl | (simp; done) | (simp [bne]; done) | (simp [*]; done)), H', ⟨by have := HK1.out; omega⟩, ⟨by (with_reducible repeat (first | apply Kd.S_alloc | apply Kd.S_drewN | apply Kd.S_drew)); exact HO213.out⟩, ⟨by exact hopb HB.out⟩⟩
          ·rw [if_neg c50] at H
           exact absurd H (by simp)
         ·rw [if_neg c49] at H
          exact absurd H (by simp)
        ·rw [if_neg c48] at H
         exact absurd H (by simp)
       ·rw [if_neg c47] at H
        exact absurd H (by simp)
      ·rw [if_neg c46] at H
       exact absurd H (by simp)
    ·rw [if_neg c7] at H
     have c7b0 : decide (x4_1 < (l0.length : Int)) = false := decide_eq_false c7
     clear c7
     obtain rfl := Option.some.inj H
     go_wp2
     go_ret
     exact ⟨_, by first | rfl | (simp only [u8_w_, w64_u8_] <;> rfl) | (simp [errW_none, errW_some] <;> rfl) | (simp [*, errW_none, errW_some] <;> rfl), by (with_reducible repeat (first | apply Kd.S_alloc | apply Kd.S_drewN | apply Kd.S_drew)); exact HO_3.out, by exact hopb HB.out⟩
 ·replace c3 := Bool.eq_false_iff.mpr c3
  subst c3
  rw [if_neg (show ¬ (false = true) by decide)] at H
  obtain rfl := Option.some.inj H
  go_enter Try.func25, Try.ntmps25
  go_wp2_with (first | ((with_reducible refine gate_dst (N := 6) rfl ?_); (try (refine gate_guard (by rfl) ?_; dsimp only)); refine Kd.S_lit k64 _ 64 ?hg (N := 6) ?hd (xs := ([] : List (S64))) (inner := []) (ok := fun _ => True) (okp := fun _ => True) ?hr ?hp (fun _ hk => hk) trivial (Below.refl _ _) (Nat.le_refl _) (by simp) ?_; (case hd => rfl); (case hg => rfl); (case hr => first | (go_simp; done) | (go_simp; rfl)); (case hp => exact (Reps.none _ _)); intro v172 w81 ho82 hb hg_ hnew_; clear hg_ hnew_; (first | rw [← Ny171.out] at ho82 | (simp only [Int.reduceToNat] at ho82; rw [← Ny171.out] at ho82)); have HO173 := ak (Kd.S_lower ho82 (below_size (by exact hopb HB.out))); replace HB := ak (below_step (by exact hopb HB.out) hb); clear hb ho82) | ((with_reducible refine gate_callee (f := 69) rfl ?_); refine goesL_ (some 8) rfl rfl Try.func69 (by kernel_rfl) rfl #[.slice A0 l0.length c0] rfl (by (try simp only [List.map_toArray, List.map_cons, List.map_nil]); first | done | rfl | (simp only [List.length_drop, List.length_take]; rfl)) ?_; (with_reducible refine (spec_PairsValid.calls k _ _ l0 false _ ?side1 ?side2 A2.out).mono ?_); (case side1 => repeat (first | exact (Kd.C_below HR0.out HB.out) | (with_reducible refine Kd.C_alloc ?_ _) | (with_reducible refine Kd.C_drewN ?_ _) | (with_reducible refine Kd.C_drew ?_))); (case side2 => exact HC0.out); rintro e w83 ⟨rfl, hb⟩; refine ⟨_, rfl, ?_⟩; replace HO173 := ak (Kd.S_below (by (with_reducible repeat (first | apply Kd.S_alloc | apply Kd.S_drewN | apply Kd.S_drew)); exact HO173.out) hb); replace HB := ak (below_step (by exact hopb HB.out) hb); (try clear hb)))
  go_ret
  exact ⟨_, by first | rfl | (simp only [u8_w_, w64_u8_] <;> rfl) | (simp [errW_none, errW_some] <;> rfl) | (simp [*, errW_none, errW_some] <;> rfl), by (with_reducible repeat (first | apply Kd.S_alloc | apply Kd.S_drewN | apply Kd.S_drew)); exact HO173.out, by exact hopb HB.out⟩

/-! ### spec_l6Copy: function 82 -/
def spec_l6Copy.l0 : Nat → List (S64) → List (S64) → Int → Option ((List (S64)))
 | 0, _, _, _ => none
 | k + 1, x0, x3, x4 => if x4 < (x0.length : Int) then ((some (([] : List (S71)) : List (S71))).bind fun y230 => (if 0 ≤ x4 then (if y230.length + ((rd_T64 x0 x4).f0).length < 5864062014805 then (if x3.length < 5864062014805 then (spec_l6Copy.l0 k x0 (x3 ++ [(⟨(y230 ++ ((rd_T64 x0 x4).f0))⟩ : S64)]) (wrap64 (x4 + 1))) else (none)) else (none)) else (none))) else (some x3)
def spec_l6Copy.f (k : Nat) (l0 : List (S64)) : Option ((List (S64))) := spec_l6Copy.l0 k l0 (([] : List (S64))) 0
theorem spec_l6Copy.mono_l : ∀ k, (∀ y0 y1 y2, LeO (spec_l6Copy.l0 k y0 y1 y2) (spec_l6Copy.l0 (k + 1) y0 y1 y2))
 | 0 => fun _ _ _ r h => by simp [spec_l6Copy.l0] at h
 | k + 1 => by
  have ih0 := spec_l6Copy.mono_l k
  ·intro y0 y1 y2
   unfold spec_l6Copy.l0
   repeat' first
   | (with_reducible exact ih0 _ _ _)
   | (with_reducible exact LeO.refl _)
   | (with_reducible exact LeO.none _)
   | (with_reducible refine LeO.ite ?_ ?_)
   | (with_reducible refine LeO.bind ?_ (fun _ => ?_))
   | exact ih0 _ _ _
   | exact LeO.none _
   | refine LeO.ite ?_ ?_
   | refine LeO.bind ?_ (fun _ => ?_)
theorem spec_l6Copy.mono : ∀ a0 k, LeO (spec_l6Copy.f k a0) (spec_l6Copy.f (k + 1) a0) := by
 intro a0 k
 have ih0 := spec_l6Copy.mono_l k
 unfold spec_l6Copy.f
 repeat' first
   | (with_reducible exact ih0 _ _ _)
   | (with_reducible exact LeO.refl _)
   | (with_reducible exact LeO.none _)
   | (with_reducible refine LeO.ite ?_ ?_)
   | (with_reducible refine LeO.bind ?_ (fun _ => ?_))
   | exact ih0 _ _ _
   | exact LeO.none _
   | refine LeO.ite ?_ ?_
   | refine LeO.bind ?_ (fun _ => ?_)
theorem spec_l6Copy.calls (k : Nat) (A0 : Option Addr) (c0 : Nat) (l0 : List (S64)) (r : List (S64)) (w : World) (hr0 : Kd.C k64 w A0 l0.length l0) (hc0 : l0.length ≤ c0) (h : spec_l6Copy.f k l0 = some r) :
  Calls Try.prog 82 #[.slice A0 l0.length c0] w fun e w' => ∃ v0_ : Value, e = .returned (v0_) ∧ Kd.S k64 64 w' w.heap.size (fun _ => True) v0_ r ∧ Below w.heap.size w w' := by
 have hu64 := Try.underlying64
 have HR0 := ak hr0
 have HC0 := ak hc0
 clear hr0 hc0
 have HB := ak (Below.refl w.heap.size w)
 have H : (spec_l6Copy.l0 k l0 (([] : List (S64))) 0) = some r := h
 clear h
 obtain ⟨y227, hy227⟩ : ∃ y_ : List (S64), y_ = (([] : List (S64))) := ⟨_, rfl⟩
 replace H : (spec_l6Copy.l0 k l0 y227 0) = some r := by first | (rw [hy227]; exact H) | exact H
 have Ny227 := ak hy227
 clear hy227
 have H' := ak H
 clear H
 go_enter Try.func82, Try.ntmps82
 go_wp2_with (first | ((with_reducible refine gate_dst (N := 5) rfl ?_); refine Kd.S_lit k64 _ 64 ?hg (N := 5) ?hd (xs := ([] : List (S64))) (inner := []) (ok := fun _ => True) (okp := fun _ => True) ?hr ?hp (fun _ hk => hk) trivial (Below.refl _ _) (Nat.le_refl _) (by simp) ?_; (case hd => rfl); (case hg => rfl); (case hr => first | (go_simp; done) | (go_simp; rfl)); (case hp => exact (Reps.none _ _)); intro v228 w2 ho3 hb hg_ hnew_; clear hg_ hnew_; (first | rw [← Ny227.out] at ho3 | (simp only [Int.reduceToNat] at ho3; rw [← Ny227.out] at ho3)); have HO229 := ak (Kd.S_lower ho3 (below_size (by exact hopb HB.out))); replace HB := ak (below_step (by exact hopb HB.out) hb); clear hb ho3))
 go_loopg [3, 4] k (fun kq v3 v4 w' => ∃ (x3_1 : List (S64)) (x4_1 : Int), v4 = .int .i64 x4_1 ∧ Aside0 (spec_l6Copy.l0 kq l0 x3_1 x4_1 = some r) ∧ Aside0 (kq ≤ k) ∧ Aside0 (Kd.S k64 64 w' w.heap.size (fun _ => True) v3 x3_1) ∧ Aside0 (Below w.heap.size w w'))
 case atStart => exact ⟨(y227), (0), (by first | rfl | (simp; done) | (simp [bne]; done) | (simp [*]; done)), H', ⟨Nat.le_refl _⟩, ⟨by (with_reducible repeat (first | apply Kd.S_alloc | apply Kd.S_drewN | apply Kd.S_drew)); exact HO229.out⟩, ⟨by exact hopb HB.out⟩⟩
 case round =>
  clear H'
  try clear p2
  obtain ⟨x3_1, x4_1, rfl, HA, HK1, HO_3, HB⟩ := hrel
  cases gk with
  | zero => exact absurd HA.out (by simp [spec_l6Copy.l0])
  | succ k1 =>
   have H := HA.out
   clear HA
   simp only [spec_l6Copy.l0] at H
   by_cases c4 : x4_1 < (l0.length : Int)
   ·rw [if_pos c4] at H
    have c4b0 : decide (x4_1 < (l0.length : Int)) = true := decide_eq_true c4
    clear c4
    obtain ⟨y230, hy230⟩ : ∃ y_ : List (S71), y_ = (([] : List (S71))) := ⟨_, rfl⟩
    replace H : (if 0 ≤ x4_1 then (if y230.length + ((rd_T64 l0 x4_1).f0).length < 5864062014805 then (if x3_1.length < 5864062014805 then (spec_l6Copy.l0 k1 l0 (x3_1 ++ [(⟨(y230 ++ ((rd_T64 l0 x4_1).f0))⟩ : S64)]) (wrap64 (x4_1 + 1))) else (none)) else (none)) else (none)) = some r := by first | (rw [hy230]; exact H) | exact H
    have Ny230 := ak hy230
    clear hy230
    by_cases c5 : 0 ≤ x4_1
    ·rw [if_pos c5] at H
     have c5b0 : decide (0 ≤ x4_1) = true := decide_eq_true c5
     clear c5
     by_cases c6 : y230.length + ((rd_T64 l0 x4_1).f0).length < 5864062014805
     ·rw [if_pos c6] at H
      have LMc6 := ak c6
      clear c6
      obtain ⟨y234, hy234⟩ : ∃ y_ : List (S71), y_ = (y230 ++ ((rd_T64 l0 x4_1).f0)) := ⟨_, rfl⟩
      replace H : (if x3_1.length < 5864062014805 then (spec_l6Copy.l0 k1 l0 (x3_1 ++ [(⟨y234⟩ : S64)]) (wrap64 (x4_1 + 1))) else (none)) = some r := by first | (rw [hy234]; exact H) | exact H
      have Ny234 := ak hy234
      clear hy234
      by_cases c7 : x3_1.length < 5864062014805
      ·rw [if_pos c7] at H
       have LMc7 := ak c7
       clear c7
       obtain ⟨y237, hy237⟩ : ∃ y_ : List (S64), y_ = (x3_1 ++ [(⟨y234⟩ : S64)]) := ⟨_, rfl⟩
       replace H : (spec_l6Copy.l0 k1 l0 y237 (wrap64 (x4_1 + 1))) = some r := by first | (rw [hy237]; exact H) | exact H
       have Ny237 := ak hy237
       clear hy237
       have H' := ak H
       clear H
       go_wp2_with (first | ((with_reducible refine gate_dst (N := 13) rfl ?_); refine Kd.R_lit k71 _ 71 ?hg (N := 13) ?hd (xs := ([] : List (S71))) (inner := []) (ok := fun _ => True) (okp := fun _ => True) ?hr ?hp (fun _ hk => hk) trivial (Below.refl _ _) (Nat.le_refl _) (by simp) ?_; (case hd => rfl); (case hg => rfl); (case hr => first | (go_simp; done) | (go_simp; rfl)); (case hp => exact (Reps.none _ _)); intro v231 w8 ho9 hb hg_ hnew_; clear hg_ hnew_; (first | rw [← Ny230.out] at ho9 | (simp only [Int.reduceToNat] at ho9; rw [← Ny230.out] at ho9)); replace HO_3 := ak (Kd.S_elder' (by (with_reducible repeat (first | apply Kd.S_alloc | apply Kd.S_drewN | apply Kd.S_drew)); exact HO_3.out) (Kd.R_base ho9) hb); have HO232 := ak (Kd.R_lower ho9 (below_size (by exact hopb HB.out))); replace HB := ak (below_step (by exact hopb HB.out) hb); clear hb ho9; have p233 : 0 ≤ (x4_1 : Int) := of_decide_eq_true (by assumption); have q233 : x4_1 < (l0.length : Int) := of_decide_eq_true (by assumption); obtain ⟨ad233, A233_0, c233_0, e233, hx233_0, hl233_0, hi233_0⟩ := at_T64 HR0.out x4_1 p233 q233; cases e233; replace hx233_0 := (HB.out.cell (World.block_lt_of_cell? w _ hx233_0)).trans hx233_0; have HR233_0 := ak hi233_0; have HC233_0 := ak hl233_0; clear hi233_0 hl233_0; replace p233 := eq_true p233; replace q233 := eq_true q233) | ((with_reducible refine gate_builtin (b := .append) (xs := #[.tmp 13, .tmp 18]) rfl ?_); at_builtin; refine Kd.R_append_rows k71 (w0 := w) w.heap.size rfl (.tmp 13) (.tmp 18) 32 71 (.agg #[(.string ⟨#[]⟩), (.int .i64 0)]) 24 rfl Try.underlying32 info71 rfl (by decide) (by omega) v231 y230 ((rd_T64 l0 x4_1).f0) _ _ _ (fun _ => True) (fun _ => False) rfl rfl ?aO ?aR (fun _ _ h => h) (fun _ h => h.elim) ?aF ?aB ?aS ?aL ?_; (case aR => repeat (first | exact (Kd.C_below HR233_0.out HB.out) | (with_reducible refine Kd.C_alloc ?_ _) | (with_reducible refine Kd.C_drewN ?_ _) | (with_reducible refine Kd.C_drew ?_))); (case aB => exact (by exact hopb HB.out)); (case aF => exact (fun _ _ => trivial)); (case aO => exact (by (with_reducible repeat (first | apply Kd.R_alloc | apply Kd.R_drewN | apply Kd.R_drew)); exact HO232.out)); (case aS => exact (below_size (by exact hopb HB.out))); (case aL => have := LMc6.out; omega); intro v235 w10 ho hb hg hat; rw [← Ny234.out] at ho; replace HO_3 := ak (Kd.S_after (ok := (fun _ => True)) (by (with_reducible repeat (first | apply Kd.S_alloc | apply Kd.S_drewN | apply Kd.S_drew)); exact HO_3.out) hg hat); replace HB := ak (hb); have HO236 := ak (ho); clear HO232; clear ho hb hg hat; obtain ⟨Ao11, co11, eo11⟩ := Kd.R_slice HO236.out; subst eo11) | ((with_reducible refine gate_builtin (b := .append) (xs := #[.tmp 12, .tmp 21]) rfl ?_); at_builtin; refine Kd.S_append k64 (w0 := w) w.heap.size rfl (.tmp 12) (.tmp 21) 34 64 (.agg #[(.slice none 0 0)]) 24 rfl Try.underlying34 info64 rfl (by decide) (by omega) u3 x3_1 (⟨y234⟩ : S64) [.slice Ao11 y234.length co11] (fun _ => True) (fun k_ => some k_ = (.slice Ao11 y234.length co11 : Value).ownBlock) rfl rfl ?aP (fun k_ hk_ => ((Kd.R_mono (ok' := fun k_ => ((fun _ => True)) k_ ∧ some k_ ≠ (u3 : Value).ownBlock) (Kd.R_apart' (HO236.out) (Kd.S_typed HO_3.out) (by decide)) (fun k_ hk => ⟨trivial, hk.2⟩))).1 k_ hk_.symm) ?aF ?aO ?aB ?aS ?aL ?_; (case aP => exact k64_mkM _ _ _ (⟨y234⟩ : S64) (Kd.R_mono (Kd.R_tight rfl (Kd.R_mono (ok' := fun k_ => ((fun _ => True)) k_ ∧ some k_ ≠ (u3 : Value).ownBlock) (Kd.R_apart' (HO236.out) (Kd.S_typed HO_3.out) (by decide)) (fun k_ hk => ⟨trivial, hk.2⟩))) (fun _ h_ => h_))); (case aB => exact (by exact hopb HB.out)); (case aF => exact (fun _ _ => trivial)); (case aO => exact (by (with_reducible repeat (first | apply Kd.S_alloc | apply Kd.S_drewN | apply Kd.S_drew)); exact Kd.S_mono HO_3.out (fun k_ hk => ⟨trivial, fun e_ => hk.2 e_⟩))); (case aS => exact (below_size (by exact hopb HB.out))); (case aL => have := LMc7.out; omega); intro v238 w12 ho hb hg hat; rw [← Ny237.out] at ho; replace HB := ak (hb); have HO239 := ak (ho); clear HO_3 HO236; clear ho hb hg hat))
       go_roundg k1
       case measure => have := HK1.out; omega
       case rel => exact ⟨(y237), (wrap64 (x4_1 + 1)), (by first | rfl | (simp; done) | (simp [bne]; done) | (simp [*]; done)), H', ⟨by have := HK1.out; omega⟩, ⟨by (with_reducible repeat (first | apply Kd.S_alloc | apply Kd.S_drewN | apply Kd.S_drew)); exact HO239.out⟩, ⟨by exact hopb HB.out⟩⟩
      ·rw [if_neg c7] at H
       exact absurd H (by simp)
     ·rw [if_neg c6] at H
      exact absurd H (by simp)
    ·rw [if_neg c5] at H
     exact absurd H (by simp)
   ·rw [if_neg c4] at H
    have c4b0 : decide (x4_1 < (l0.length : Int)) = false := decide_eq_false c4
    clear c4
    obtain rfl := Option.some.inj H
    go_wp2
    go_ret
    exact ⟨_, by first | rfl | (simp only [u8_w_, w64_u8_] <;> rfl) | (simp [errW_none, errW_some] <;> rfl) | (simp [*, errW_none, errW_some] <;> rfl), by (with_reducible repeat (first | apply Kd.S_alloc | apply Kd.S_drewN | apply Kd.S_drew)); exact HO_3.out, by exact hopb HB.out⟩

/-! ### spec_l4Place: function 107 -/
def spec_l4Place.l0 : Nat → List (S71) → ByteArray → Int → Option (Int)
 | 0, _, _, _ => none
 | k + 1, x0, x1, x5 => if x5 < (x0.length : Int) then (if 0 ≤ x5 then (if (Op.bytesLess (((rd_T71 x0 x5).f0).toList) x1.toList) = true then (spec_l4Place.l0 k x0 x1 (wrap64 (x5 + 1))) else (some x5)) else (none)) else (some x5)
def spec_l4Place.f (k : Nat) (l0 : List (S71)) (a1 : ByteArray) : Option (Int) := spec_l4Place.l0 k l0 a1 0
theorem spec_l4Place.mono_l : ∀ k, (∀ y0 y1 y2, LeO (spec_l4Place.l0 k y0 y1 y2) (spec_l4Place.l0 (k + 1) y0 y1 y2))
 | 0 => fun _ _ _ r h => by simp [spec_l4Place.l0] at h
 | k + 1 => by
  have ih0 := spec_l4Place.mono_l k
  ·intro y0 y1 y2
   unfold spec_l4Place.l0
   repeat' first
   | (with_reducible exact ih0 _ _ _)
   | (with_reducible exact LeO.refl _)
   | (with_reducible exact LeO.none _)
   | (with_reducible refine LeO.ite ?_ ?_)
   | (with_reducible refine LeO.bind ?_ (fun _ => ?_))
   | exact ih0 _ _ _
   | exact LeO.none _
   | refine LeO.ite ?_ ?_
   | refine LeO.bind ?_ (fun _ => ?_)
theorem spec_l4Place.mono : ∀ a0 a1 k, LeO (spec_l4Place.f k a0 a1) (spec_l4Place.f (k + 1) a0 a1) := by
 intro a0 a1 k
 have ih0 := spec_l4Place.mono_l k
 unfold spec_l4Place.f
 repeat' first
   | (with_reducible exact ih0 _ _ _)
   | (with_reducible exact LeO.refl _)
   | (with_reducible exact LeO.none _)
   | (with_reducible refine LeO.ite ?_ ?_)
   | (with_reducible refine LeO.bind ?_ (fun _ => ?_))
   | exact ih0 _ _ _
   | exact LeO.none _
   | refine LeO.ite ?_ ?_
   | refine LeO.bind ?_ (fun _ => ?_)
theorem spec_l4Place.calls (k : Nat) (A0 : Option Addr) (c0 : Nat) (l0 : List (S71)) (a1 : ByteArray) (r : Int) (w : World) (hr0 : Kd.C k71 w A0 l0.length l0) (hc0 : l0.length ≤ c0) (h : spec_l4Place.f k l0 a1 = some r) :
  Calls Try.prog 107 #[.slice A0 l0.length c0, .string a1] w fun e w' => e = .returned (.int .i64 r) ∧ Drawn0 w w' := by
 have HR0 := ak hr0
 have HC0 := ak hc0
 clear hr0 hc0
 have H : (spec_l4Place.l0 k l0 a1 0) = some r := h
 clear h
 have H' := ak H
 clear H
 go_enter Try.func107, Try.ntmps107
 go_wp2
 go_loopg [5] k (fun kq v5 w' => ∃ (x5_1 : Int), v5 = .int .i64 x5_1 ∧ Aside0 (spec_l4Place.l0 kq l0 a1 x5_1 = some r) ∧ Aside0 (kq ≤ k) ∧ Drawn0 w w')
 case atStart => exact ⟨(0), (by first | rfl | (simp; done) | (simp [bne]; done) | (simp [*]; done)), H', ⟨Nat.le_refl _⟩, by repeat (first | exact Drawn0.refl _ | apply Drawn0.step)⟩
 case round =>
  clear H'
  try clear c1
  try clear p2
  obtain ⟨x5_1, rfl, HA, HK1, ⟨m1, rfl⟩⟩ := hrel
  cases gk with
  | zero => exact absurd HA.out (by simp [spec_l4Place.l0])
  | succ k1 =>
   have H := HA.out
   clear HA
   simp only [spec_l4Place.l0] at H
   by_cases c3 : x5_1 < (l0.length : Int)
   ·rw [if_pos c3] at H
    have c3b0 : decide (x5_1 < (l0.length : Int)) = true := decide_eq_true c3
    clear c3
    by_cases c4 : 0 ≤ x5_1
    ·rw [if_pos c4] at H
     have c4b0 : decide (0 ≤ x5_1) = true := decide_eq_true c4
     clear c4
     by_cases c5 : (Op.bytesLess (((rd_T71 l0 x5_1).f0).toList) a1.toList) = true
     ·rw [if_pos c5] at H
      have c5b0 : (Op.bytesLess (((rd_T71 l0 x5_1).f0).toList) a1.toList) = true := c5
      clear c5
      have H' := ak H
      clear H
      have p240 : 0 ≤ (x5_1 : Int) := of_decide_eq_true (by assumption)
      have q240 : x5_1 < (l0.length : Int) := of_decide_eq_true (by assumption)
      obtain ⟨ad240, e240, hx240_0, hx240_1⟩ := at_T71 HR0.out x5_1 p240 q240
      cases e240
      replace p240 := eq_true p240
      replace q240 := eq_true q240
      go_wp2
      go_roundg k1
      case measure => have := HK1.out; omega
      case rel => exact ⟨(wrap64 (x5_1 + 1)), (by first | rfl | (simp; done) | (simp [bne]; done) | (simp [*]; done)), H', ⟨by have := HK1.out; omega⟩, by repeat (first | exact Drawn0.refl _ | apply Drawn0.step)⟩
     ·rw [if_neg c5] at H
      have c5b0 : (Op.bytesLess (((rd_T71 l0 x5_1).f0).toList) a1.toList) = false := by simpa using c5
      clear c5
      obtain rfl := Option.some.inj H
      have p240 : 0 ≤ (x5_1 : Int) := of_decide_eq_true (by assumption)
      have q240 : x5_1 < (l0.length : Int) := of_decide_eq_true (by assumption)
      obtain ⟨ad240, e240, hx240_0, hx240_1⟩ := at_T71 HR0.out x5_1 p240 q240
      cases e240
      replace p240 := eq_true p240
      replace q240 := eq_true q240
      go_wp2
      go_ret
      exact ⟨by first | rfl | (simp; done) | (simp [*]; done), by repeat (first | exact Drawn0.refl _ | apply Drawn0.step)⟩
    ·rw [if_neg c4] at H
     exact absurd H (by simp)
   ·rw [if_neg c3] at H
    have c3b0 : decide (x5_1 < (l0.length : Int)) = false := decide_eq_false c3
    clear c3
    obtain rfl := Option.some.inj H
    go_wp2
    go_ret
    exact ⟨by first | rfl | (simp; done) | (simp [*]; done), by repeat (first | exact Drawn0.refl _ | apply Drawn0.step)⟩

end Go.Proofs.Ytebgpbcbbjpbfaa.PFnPageFind
