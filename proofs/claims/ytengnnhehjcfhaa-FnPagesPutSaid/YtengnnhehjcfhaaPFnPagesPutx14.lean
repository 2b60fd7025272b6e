-- Written for this claim by a program of this session (wip/myprint in the proofs' repo)
import Derived.Test.YtengnnhehjcfhaaPFnPagesPutx0
import Derived.Test.YtengnnhehjcfhaaPFnPagesPutx1
import Derived.Test.YtengnnhehjcfhaaPFnPagesPutx12
import Derived.Test.YtengnnhehjcfhaaPFnPagesPutx13
import Derived.Test.YtengnnhehjcfhaaWZip
-- slim4
namespace Go.Proofs.Ytengnnhehjcfhaa.PFnPagesPut
open Go.RowKit Go.Proofs.YtengnnhehjcfhaaW.PrintWords Go.Proofs.YtengnnhehjcfhaaW.PrintLast Go.Proofs.YtengnnhehjcfhaaW.PrintMore
attribute [local go_sem] max2_int min2_int max_two min_two max_three min_three max_four min_four max2_strs min2_strs   -- for this text's walks alone
set_option linter.unusedVariables false
set_option linter.unusedSimpArgs false
set_option maxHeartbeats 8000000
set_option maxRecDepth 100000

attribute [local go_sem high] eqA65
/-! ### impl_replaced_Page: function 47 -/
def impl_replaced_Page.f (l0 : List (S53)) (a1 : Int) (a2 : Int) (l3 : List (S53)) : Option (List (S53)) := if 0 ≤ a1 ∧ 0 ≤ a2 ∧ a1 + a2 ≤ (l0.length : Int) ∧ l0.length + l3.length < 5864062014805 then some (l0.take a1.toNat ++ l3 ++ l0.drop (a1 + a2).toNat) else none
/-- what element x is told by at w, told at any world -/
def impl_replaced_Page.gz {α : Type} (d : Kd α) (w : World) (b : Nat) (ok : Nat → Prop) : Kd α where
 sz := d.sz
 E := []
 K := fun _ x cs => d.M w b ok x cs
 M := fun _ _ _ x cs => d.M w b ok x cs
 K_len := fun h => d.K_len (d.K_of_M h)
 K_one := fun h => d.K_one (d.K_of_M h)
 K_below := fun _ h => h
 K_of_M := fun h => h
 M_mono := fun _ h => h
 M_bound := fun h => h
 M_move := fun _ h => h
 M_lower := fun _ h => h
theorem impl_replaced_Page.gz_of {α : Type} {d : Kd α} {e base n c : Nat} {w : World} {ok : Nat → Prop} {A : Option Addr} {xs : List α} (h : d.R e w base ok (.slice A n c) xs) : n = xs.length ∧ xs.length ≤ c ∧ (impl_replaced_Page.gz d w base (fun k => ok k ∧ some k ≠ (Value.slice A n c).ownBlock)).C w A xs.length xs := by
 obtain ⟨A', c', e', h1, h2⟩ := h.2.reads
 injection e' with e1 e2 e3
 subst e1 e3
 exact ⟨e2, h1, h2⟩
theorem impl_replaced_Page.re {α β : Type} {R : α → List Value → Prop} {R' : β → List Value → Prop} {sz n m : Nat} {w : World} {A : Option Addr} {ps : List α} {ps' : List β} (h : ReadsRow R sz w A n ps) (hl : ps'.length = ps.length) (hm : m = n) (hR : ∀ (j : Nat) (p : α) (p' : β), ps[j]? = some p → ps'[j]? = some p' → ∀ c, R p c → R' p' c) : ReadsRow R' sz w A m ps' := by
 subst hm
 refine ⟨hl.trans h.1, h.2.1, fun hn => ?_⟩
 obtain ⟨ad, e, hc⟩ := h.2.2 hn
 refine ⟨ad, e, fun j p' hj => ?_⟩
 have hlt : j < ps.length := by have := (List.getElem?_eq_some_iff.1 hj).1; omega
 obtain ⟨c, h1, h2, h3⟩ := hc j ps[j] (List.getElem?_eq_getElem hlt)
 exact ⟨c, h1, hR j _ p' (List.getElem?_eq_getElem hlt) hj c h2, h3⟩
open Classical in
theorem impl_replaced_Page.calls (P0_ P3_ : Nat → Prop) (u0_ u3_ : Value) (l0 : List (S53)) (a1 : Int) (a2 : Int) (l3 : List (S53)) (r : List (S53)) (w0 w : World) (hB : Below w0.heap.size w0 w) (ho0 : Kd.S k53 53 w w0.heap.size P0_ u0_ l0) (ho3 : Kd.S k53 53 w w0.heap.size P3_ u3_ l3) (hap : ∀ k_, P0_ k_ → ¬ P3_ k_) (h : impl_replaced_Page.f l0 a1 a2 l3 = some r) :
  Calls Try.prog 47 #[u0_, .int .i64 a1, .int .i64 a2, u3_] w fun e w' => ∃ v0_ : Value, e = .returned (v0_) ∧ Kd.S k53 53 w' w0.heap.size (fun k_ => (P0_ k_ ∨ P3_ k_) ∨ w.heap.size ≤ k_) v0_ r ∧ Below w.heap.size w w' := by
 have H : (if 0 ≤ a1 ∧ 0 ≤ a2 ∧ a1 + a2 ≤ (l0.length : Int) ∧ l0.length + l3.length < 5864062014805 then some (l0.take a1.toNat ++ l3 ++ l0.drop (a1 + a2).toNat) else none) = some r := h
 clear h
 by_cases c : 0 ≤ a1 ∧ 0 ≤ a2 ∧ a1 + a2 ≤ (l0.length : Int) ∧ l0.length + l3.length < 5864062014805
 ·rw [if_pos c] at H
  obtain ⟨h1, h2, h12, hl⟩ := c
  obtain rfl := Option.some.inj H
  clear H
  obtain ⟨A0, c0, rfl⟩ := Kd.S_slice ho0
  obtain ⟨A3, c3, rfl⟩ := Kd.S_slice ho3
  have hc0 := (Kd.S_reads' ho0).2.1
  obtain ⟨f0, hR0⟩ := ho0
  obtain ⟨f3, hR3⟩ := ho3
  obtain ⟨e0, _, g0⟩ := impl_replaced_Page.gz_of hR0
  obtain ⟨e3, _, g3⟩ := impl_replaced_Page.gz_of hR3
  have LM := ak hl
  obtain ⟨i0, hi0, hzz⟩ := Option.map_eq_some_iff.1 info53
  simp only [Prod.mk.injEq] at hzz
  obtain ⟨hz0, hz1, hz2⟩ := hzz
  obtain ⟨G, hG⟩ : ∃ G : Nat → Nat, G = fun k => if P3_ k then a1.toNat + f3 k else if f0 k < a1.toNat then f0 k else f0 k - a2.toNat + l3.length := ⟨_, rfl⟩
  obtain ⟨Q, hQ⟩ : ∃ Q : Nat → Prop, Q = fun k => P0_ k ∨ P3_ k := ⟨_, rfl⟩
  have hz0' : l0.zipIdx.length = l0.length := List.length_zipIdx
  have hat0 : ∀ (l : List (S53)) (s j : Nat) (p : S53 × Nat), (l.zipIdx s)[j]? = some p → l[j]? = some p.1 ∧ p.2 = s + j := by
   intro l s j p hp
   rw [List.getElem?_zipIdx] at hp
   obtain ⟨q, hq, rfl⟩ := Option.map_eq_some_iff.1 hp
   exact ⟨hq, rfl⟩
  have rt0 : ReadsRow ((Kd.tag G k53).M w w0.heap.size (fun k_ => Q k_ ∧ k_ < w.heap.size)) 1 w A0 a1.toNat ((l0.take a1.toNat).zipIdx) := by
   refine impl_replaced_Page.re (Kd.C_take g0 (m := a1.toNat) (by omega)) (by rw [List.length_zipIdx, List.length_take, List.length_take, List.length_zipIdx]) (by rw [List.length_take, List.length_zipIdx]; omega) (fun j p p' hp hp' cs hM => ?_)
   have hj : j < a1.toNat := by have := (List.getElem?_eq_some_iff.1 hp).1; rw [List.length_take] at this; omega
   rw [List.getElem?_take, if_pos hj] at hp
   obtain ⟨q1, q2⟩ := hat0 _ _ _ _ hp
   obtain ⟨q3, q4⟩ := hat0 _ _ _ _ hp'
   rw [List.getElem?_take, if_pos hj] at q3
   have q5 : p.1 = p'.1 := Option.some.inj (q1.symm.trans q3)
   show k53.M w w0.heap.size (fun k_ => (Q k_ ∧ k_ < w.heap.size) ∧ G k_ = p'.2) p'.1 cs
   rw [← q5]
   refine k53.M_mono (fun k_ hk_ => ?_) (k53.M_bound hM)
   obtain ⟨⟨⟨b1, b2⟩, b3⟩, b4, b5, _⟩ := hk_
   refine ⟨⟨by rw [hQ]; exact .inl b1, b5⟩, ?_⟩
   have b6 := hap k_ b1
   simp only [hG, if_neg b6]
   rw [if_pos (by omega)]
   omega
  have r30 : ReadsRow ((Kd.tag G k53).M w w0.heap.size (fun k_ => Q k_ ∧ k_ < w.heap.size)) 1 w A3 l3.length (l3.zipIdx a1.toNat) := by
   refine impl_replaced_Page.re g3 (by rw [List.length_zipIdx, List.length_zipIdx]) (by rw [List.length_zipIdx]) (fun j p p' hp hp' cs hM => ?_)
   obtain ⟨q1, q2⟩ := hat0 _ _ _ _ hp
   obtain ⟨q3, q4⟩ := hat0 _ _ _ _ hp'
   have q5 : p.1 = p'.1 := Option.some.inj (q1.symm.trans q3)
   show k53.M w w0.heap.size (fun k_ => (Q k_ ∧ k_ < w.heap.size) ∧ G k_ = p'.2) p'.1 cs
   rw [← q5]
   refine k53.M_mono (fun k_ hk_ => ?_) (k53.M_bound hM)
   obtain ⟨⟨⟨b1, b2⟩, b3⟩, b4, b5, _⟩ := hk_
   refine ⟨⟨by rw [hQ]; exact .inr b1, b5⟩, ?_⟩
   simp only [hG, if_pos b1]
   omega
  have rd0 : ReadsRow ((Kd.tag G k53).M w w0.heap.size (fun k_ => Q k_ ∧ k_ < w.heap.size)) 1 w (if c0 = (a1 + a2).toNat then A0 else A0.map (·.add ((a1 + a2).toNat * 1))) (l0.length - (a1 + a2).toNat) ((l0.drop (a1 + a2).toNat).zipIdx (a1.toNat + l3.length)) := by
   refine impl_replaced_Page.re (Kd.C_drop g0 (m := (a1 + a2).toNat) (c := c0) (by omega) (by omega)) (by rw [List.length_zipIdx, List.length_drop, List.length_drop, List.length_zipIdx]) (by rw [List.length_drop, List.length_zipIdx]) (fun j p p' hp hp' cs hM => ?_)
   rw [List.getElem?_drop] at hp
   obtain ⟨q1, q2⟩ := hat0 _ _ _ _ hp
   obtain ⟨q3, q4⟩ := hat0 _ _ _ _ hp'
   rw [List.getElem?_drop] at q3
   have q5 : p.1 = p'.1 := Option.some.inj (q1.symm.trans q3)
   show k53.M w w0.heap.size (fun k_ => (Q k_ ∧ k_ < w.heap.size) ∧ G k_ = p'.2) p'.1 cs
   rw [← q5]
   refine k53.M_mono (fun k_ hk_ => ?_) (k53.M_bound hM)
   obtain ⟨⟨⟨b1, b2⟩, b3⟩, b4, b5, _⟩ := hk_
   refine ⟨⟨by rw [hQ]; exact .inl b1, b5⟩, ?_⟩
   have b6 := hap k_ b1
   simp only [hG, if_neg b6]
   rw [if_neg (by omega)]
   omega
  have hQ' := ak hQ
  clear hG hQ hap g0 g3 hR0 hR3 e0 e3 hat0 hz0'
  have L1 := ak (show (l0.take a1.toNat).zipIdx.length = a1.toNat by rw [List.length_zipIdx, List.length_take]; omega)
  have L2 := ak (show (l3.zipIdx a1.toNat).length = l3.length by rw [List.length_zipIdx])
  have L3 := ak (show a1.toNat + (l0.length - (a1 + a2).toNat) ≤ l0.length by omega)
  have ht1 := cut_to (P := Try.prog) 24 53 .i64 Try.underlying24 hi0 A0 l0.length c0 a1 h1 (by omega) hc0
  have hd1 := cut_from (P := Try.prog) 24 53 .i64 Try.underlying24 hi0 1 hz1 A0 l0.length c0 (a1 + a2) (by omega) h12
  generalize (if c0 = (a1 + a2).toNat then A0 else A0.map (·.add ((a1 + a2).toNat * 1))) = A1 at rd0 hd1
  have RT := ak rt0
  have R3 := ak r30
  have RD := ak rd0
  clear rt0 r30 rd0 hc0
  have hm1 : ∀ W : World, (Instr.makeSlice 24 (.int .i64 0) (.int .i64 ((l0.length : Int) - a2 + (l3.length : Int)))).run Try.prog W = .ok (.slice (some ⟨W.heap.size, 0, none⟩) 0 ((l0.length : Int) - a2 + (l3.length : Int)).toNat) (W.alloc (.cells (madeCells (Value.cells (.agg #[(.slice none 0 0)])) (((l0.length : Int) - a2 + (l3.length : Int)).toNat * 1)) 53)) := by
   intro W
   have hn : i0.bytes * ((l0.length : Int) - a2 + (l3.length : Int)).toNat ≤ 281474976710656 := by rw [hz2]; omega
   have hr := run_make (P := Try.prog) W 24 53 i0 (.agg #[(.slice none 0 0)]) Try.underlying24 hi0 hz0 .i64 .i64 0 ((l0.length : Int) - a2 + (l3.length : Int)) (Int.le_refl _) (by omega) (by rw [hz2]; omega) (by omega)
   rw [hz1] at hr
   exact hr
  have HO0 := ak (show (Kd.tag G k53).R 53 (w.alloc (.cells (madeCells (Value.cells (.agg #[(.slice none 0 0)])) (((l0.length : Int) - a2 + (l3.length : Int)).toNat * 1)) 53)) w0.heap.size (fun k_ => Q k_ ∨ w.heap.size ≤ k_) (.slice (some ⟨w.heap.size, 0, none⟩) 0 ((l0.length : Int) - a2 + (l3.length : Int)).toNat) [] from
   ⟨fun k_ hk_ => .inr (by simp [Value.ownBlock] at hk_; omega), [], World.ownsRow_made w _ _ hB.size (by simp only [maxLen]; omega) (size_madeCells _ _), Reps.none _ _⟩)
  have HB0 := ak (below_alloc (Below.refl w.heap.size w) (.cells (madeCells (Value.cells (.agg #[(.slice none 0 0)])) (((l0.length : Int) - a2 + (l3.length : Int)).toNat * 1)) 53))
  have HE0 := ak (below_alloc hB (.cells (madeCells (Value.cells (.agg #[(.slice none 0 0)])) (((l0.length : Int) - a2 + (l3.length : Int)).toNat * 1)) 53))
  clear hB
  generalize madeCells (Value.cells (.agg #[(.slice none 0 0)])) (((l0.length : Int) - a2 + (l3.length : Int)).toNat * 1) = cs at hm1 HO0 HB0 HE0
  generalize hN : ((l0.length : Int) - a2 + (l3.length : Int)).toNat = N at hm1 HO0
  have HN0 := ak (show ∀ k_, (Value.slice (some ⟨w.heap.size, 0, none⟩) 0 N).ownBlock = some k_ → w.heap.size ≤ k_ from fun k_ e_ => by simp [Value.ownBlock] at e_; omega)
  clear hN hz0 hz1 hz2 hi0 hl
  have hfin : (l0.take a1.toNat ++ l3 ++ l0.drop (a1 + a2).toNat).zipIdx = (l0.take a1.toNat).zipIdx ++ l3.zipIdx a1.toNat ++ (l0.drop (a1 + a2).toNat).zipIdx (a1.toNat + l3.length) := by
   have e_ : (l0.take a1.toNat).length = a1.toNat := by rw [List.length_take]; omega
   rw [List.zipIdx_append, List.zipIdx_append, List.length_append, e_, Nat.zero_add, Nat.zero_add]
  have L4 := ak (show ((l0.take a1.toNat).zipIdx ++ l3.zipIdx a1.toNat).length = a1.toNat + l3.length by rw [List.length_append, L1.out, L2.out])
  obtain ⟨ya, hya⟩ : ∃ y_ : List (S53 × Nat), y_ = (l0.take a1.toNat).zipIdx := ⟨_, rfl⟩
  obtain ⟨y3, hy3⟩ : ∃ y_ : List (S53 × Nat), y_ = l3.zipIdx a1.toNat := ⟨_, rfl⟩
  obtain ⟨yd, hyd⟩ : ∃ y_ : List (S53 × Nat), y_ = (l0.drop (a1 + a2).toNat).zipIdx (a1.toNat + l3.length) := ⟨_, rfl⟩
  obtain ⟨yb, hyb⟩ : ∃ y_ : List (S53 × Nat), y_ = ya ++ y3 := ⟨_, rfl⟩
  obtain ⟨yc, hyc⟩ : ∃ y_ : List (S53 × Nat), y_ = yb ++ yd := ⟨_, rfl⟩
  rw [← hya] at RT L1 L4 hfin
  rw [← hy3] at R3 L2 L4 hfin
  rw [← hyd] at RD hfin
  rw [← hyb] at L4 hfin
  rw [← hyc] at hfin
  have NB := ak hyb
  have NC := ak hyc
  have NF := ak hfin
  clear hya hyb hyd hyc hy3 hfin
  have hl0 : (l0.length : Int) < 5864062014805 := by have := LM.out; omega
  have hl3 : (l3.length : Int) < 5864062014805 := by have := LM.out; omega
  have hsum : a1 + a2 ≤ 140737488355328 := by omega
  go_enter Try.func47, Try.ntmps47
  go_upto_region 2 with fail
  clear hl0 hl3 hm1
  go_wp2_with (first | ((with_reducible refine gate_builtin (b := .append) (xs := #[.tmp 18, .tmp 21]) rfl ?_); (try (refine gate_guard (by rfl) ?_; dsimp only)); at_builtin; refine Kd.R_append_rows (Kd.tag G k53) (Rr := (Kd.tag G k53).M w w0.heap.size (fun k_ => Q k_ ∧ k_ < w.heap.size)) (w0 := w0) w0.heap.size rfl (.tmp 18) (.tmp 21) 24 53 (.agg #[(.slice none 0 0)]) 24 rfl Try.underlying24 info53 rfl (show 0 < 1 from by decide) (by omega) (.slice (some ⟨w.heap.size, 0, none⟩) 0 N) ([] : List (S53 × Nat)) (ya) _ _ _ (fun k_ => Q k_ ∨ w.heap.size ≤ k_) (fun k_ => Q k_ ∧ k_ < w.heap.size) rfl rfl ?aO ?aR ?aK ?aP ?aF ?aB ?aS ?aL ?_; (case aR => exact (ReadsRow.imp_ RT.out HB0.out (fun _ _ h_ => h_))); (case aK => exact (fun _ _ h_ => (Kd.tag G k53).M_move (fun k_ hk_ => HB0.out.block k_ hk_.2) h_)); (case aP => exact (fun k_ hk_ => ⟨.inl hk_.1, fun e_ => Nat.not_le.2 hk_.2 (HN0.out k_ e_.symm)⟩)); (case aB => exact HE0.out); (case aF => exact (fun _ h_ => .inr (Nat.le_trans HB0.out.size h_))); (case aO => exact HO0.out); (case aS => exact HE0.out.size); (case aL => have hl_ := LM.out; have h1_ := L1.out; have h2_ := L2.out; have h3_ := L3.out; have h4_ := L4.out; (try simp only [List.length_nil]); omega); intro v1 w1 ho hb hg hat; rw [List.nil_append] at ho; have HO1 := ak ho; have HE1 := ak hb; have HB1 := ak (HB0.out.grown hg HB0.out.size HN0.out); have HN1 := ak (show ∀ k_, v1.ownBlock = some k_ → w.heap.size ≤ k_ from fun k_ e_ => hat.elim (fun h_ => HN0.out k_ (h_.symm.trans e_)) (fun ⟨b_, h1_, h2_⟩ => by rw [h1_] at e_; injection e_ with e_; exact e_ ▸ Nat.le_trans HB0.out.size h2_)); clear ho hb hg hat; obtain ⟨Ao1, co1, eo1⟩ := Kd.R_slice HO1.out; subst eo1) | ((with_reducible refine gate_builtin (b := .append) (xs := #[.tmp 23, .tmp 24]) rfl ?_); (try (refine gate_guard (by rfl) ?_; dsimp only)); at_builtin; refine Kd.R_append_rows (Kd.tag G k53) (Rr := (Kd.tag G k53).M w w0.heap.size (fun k_ => Q k_ ∧ k_ < w.heap.size)) (w0 := w0) w0.heap.size rfl (.tmp 23) (.tmp 24) 24 53 (.agg #[(.slice none 0 0)]) 24 rfl Try.underlying24 info53 rfl (show 0 < 1 from by decide) (by omega) (.slice Ao1 ya.length co1) (ya) (y3) _ _ _ (fun k_ => Q k_ ∨ w.heap.size ≤ k_) (fun k_ => Q k_ ∧ k_ < w.heap.size) rfl rfl ?aO ?aR ?aK ?aP ?aF ?aB ?aS ?aL ?_; (case aR => exact (ReadsRow.imp_ R3.out HB1.out (fun _ _ h_ => h_))); (case aK => exact (fun _ _ h_ => (Kd.tag G k53).M_move (fun k_ hk_ => HB1.out.block k_ hk_.2) h_)); (case aP => exact (fun k_ hk_ => ⟨.inl hk_.1, fun e_ => Nat.not_le.2 hk_.2 (HN1.out k_ e_.symm)⟩)); (case aB => exact HE1.out); (case aF => exact (fun _ h_ => .inr (Nat.le_trans HB1.out.size h_))); (case aO => exact HO1.out); (case aS => exact HE1.out.size); (case aL => have hl_ := LM.out; have h1_ := L1.out; have h2_ := L2.out; have h3_ := L3.out; have h4_ := L4.out; (try simp only [List.length_nil]); omega); intro v2 w2 ho hb hg hat; rw [← NB.out] at ho; have HO2 := ak ho; have HE2 := ak hb; have HB2 := ak (HB1.out.grown hg HB1.out.size HN1.out); have HN2 := ak (show ∀ k_, v2.ownBlock = some k_ → w.heap.size ≤ k_ from fun k_ e_ => hat.elim (fun h_ => HN1.out k_ (h_.symm.trans e_)) (fun ⟨b_, h1_, h2_⟩ => by rw [h1_] at e_; injection e_ with e_; exact e_ ▸ Nat.le_trans HB1.out.size h2_)); clear ho hb hg hat; obtain ⟨Ao2, co2, eo2⟩ := Kd.R_slice HO2.out; subst eo2) | ((with_reducible refine gate_builtin (b := .append) (xs := #[.tmp 26, .tmp 31]) rfl ?_); (try (refine gate_guard (by rfl) ?_; dsimp only)); at_builtin; refine Kd.R_append_rows (Kd.tag G k53) (Rr := (Kd.tag G k53).M w w0.heap.size (fun k_ => Q k_ ∧ k_ < w.heap.size)) (w0 := w0) w0.heap.size rfl (.tmp 26) (.tmp 31) 24 53 (.agg #[(.slice none 0 0)]) 24 rfl Try.underlying24 info53 rfl (show 0 < 1 from by decide) (by omega) (.slice Ao2 yb.length co2) (yb) (yd) _ _ _ (fun k_ => Q k_ ∨ w.heap.size ≤ k_) (fun k_ => Q k_ ∧ k_ < w.heap.size) rfl rfl ?aO ?aR ?aK ?aP ?aF ?aB ?aS ?aL ?_; (case aR => exact (ReadsRow.imp_ RD.out HB2.out (fun _ _ h_ => h_))); (case aK => exact (fun _ _ h_ => (Kd.tag G k53).M_move (fun k_ hk_ => HB2.out.block k_ hk_.2) h_)); (case aP => exact (fun k_ hk_ => ⟨.inl hk_.1, fun e_ => Nat.not_le.2 hk_.2 (HN2.out k_ e_.symm)⟩)); (case aB => exact HE2.out); (case aF => exact (fun _ h_ => .inr (Nat.le_trans HB2.out.size h_))); (case aO => exact HO2.out); (case aS => exact HE2.out.size); (case aL => have hl_ := LM.out; have h1_ := L1.out; have h2_ := L2.out; have h3_ := L3.out; have h4_ := L4.out; (try simp only [List.length_nil]); omega); intro v3 w3 ho hb hg hat; rw [← NC.out] at ho; have HO3 := ak ho; have HE3 := ak hb; have HB3 := ak (HB2.out.grown hg HB2.out.size HN2.out); have HN3 := ak (show ∀ k_, v3.ownBlock = some k_ → w.heap.size ≤ k_ from fun k_ e_ => hat.elim (fun h_ => HN2.out k_ (h_.symm.trans e_)) (fun ⟨b_, h1_, h2_⟩ => by rw [h1_] at e_; injection e_ with e_; exact e_ ▸ Nat.le_trans HB2.out.size h2_)); clear ho hb hg hat; obtain ⟨Ao3, co3, eo3⟩ := Kd.R_slice HO3.out; subst eo3))
  go_ret
  refine ⟨_, rfl, ⟨G, ?_⟩, HB3.out⟩
  rw [NF.out]
  have hq_ := HO3.out
  rw [hQ'.out] at hq_
  exact hq_
 ·rw [if_neg c] at H
  exact absurd H (by simp)

/-! ### impl_PagesPut: function 14 -/
def impl_PagesPut.fin (t3 : List (S53)) (t4 : Int) (t7 : List (S65)) : Option ((List (S53)) × Bool) := if t7.length ≤ 4 then some (t3.set t4.toNat ⟨t7⟩, true) else (impl_copyOf_Pair.f (t7.take 2)).bind fun t8 => (impl_copyOf_Pair.f (t7.drop 2)).bind fun t9 => (impl_replaced_Page.f t3 t4 1 [⟨t8⟩, ⟨t9⟩]).bind fun r => some (r, true)
def impl_PagesPut.f (k : Nat) (l0 : List (S53)) (a1 : ByteArray) (a2 : Int) : Option ((List (S53)) × Bool) := (impl_PagesValid.f k l0).bind fun t0 => (if t0 = true then impl_KeyValid.f k a1 else some false).bind fun t1 => (if t1 = true then impl_valueValid.f a2 else some false).bind fun t2 => if t2 = false then some ([], false) else if l0.length = 0 then some ([⟨[⟨a1, a2⟩]⟩], true) else (impl_copyPages.f k l0).bind fun t3 => (impl_pageOf.f k l0 a1).bind fun t4 => if 0 ≤ t4 ∧ t4 < (l0.length : Int) ∧ t3.length = l0.length then (impl_pairPlace.f (rd_T53 l0 t4).f0 a1).bind fun t5 => (if t5.2 = true then some false else (impl_allPairs.f k l0).bind fun t6 => some (decide (48 ≤ (t6.length : Int)))).bind fun fu => (if fu = true then some (t3, false) else (impl_PairPut.f k (rd_T53 l0 t4).f0 a1 a2).bind fun t7 => impl_PagesPut.fin t3 t4 t7.1) else none
theorem impl_PagesPut.mono : ∀ a0 a1 a2 k, LeO (impl_PagesPut.f k a0 a1 a2) (impl_PagesPut.f (k + 1) a0 a1 a2) := by
 intro a0 a1 a2 k
 unfold impl_PagesPut.f
 repeat' first
  | (with_reducible exact impl_PagesValid.mono _ _)
  | (with_reducible exact impl_KeyValid.mono _ _)
  | (with_reducible exact impl_copyPages.mono _ _)
  | (with_reducible exact impl_pageOf.mono _ _ _)
  | (with_reducible exact impl_allPairs.mono _ _)
  | (with_reducible exact impl_PairPut.mono _ _ _ _)
  | (with_reducible exact LeO.refl _)
  | (with_reducible exact LeO.none _)
  | (with_reducible refine LeO.ite ?_ ?_)
  | (with_reducible refine LeO.bind ?_ (fun _ => ?_))
theorem impl_PagesPut.calls (k : Nat) (A0 : Option Addr) (c0 : Nat) (l0 : List (S53)) (a1 : ByteArray) (a2 : Int) (r1 : List (S53)) (r2 : Bool) (w : World) (hr0 : Kd.C k53 w A0 l0.length l0) (hc0 : l0.length ≤ c0) (h : impl_PagesPut.f k l0 a1 a2 = some (r1, r2)) :
  Calls Try.prog 14 #[.slice A0 l0.length c0, .string a1, .int .i64 a2] w fun e w' => ∃ v0_ : Value, e = .returned (.tuple #[v0_, .bool r2]) ∧ Kd.S k53 53 w' w.heap.size (fun _ => True) v0_ r1 ∧ Below w.heap.size w w' := by
 have HR0 := ak hr0
 have HC0 := ak hc0
 clear hr0 hc0
 have HB := ak (Below.refl w.heap.size w)
 unfold impl_PagesPut.f at h
 replace h := Option.bind_eq_some_iff.mp h
 obtain ⟨t0, B00, h⟩ := h
 have B0 := ak B00
 clear B00
 replace h := Option.bind_eq_some_iff.mp h
 obtain ⟨t1, B10, h⟩ := h
 have B1 := ak B10
 clear B10
 replace h := Option.bind_eq_some_iff.mp h
 obtain ⟨t2, B20, h⟩ := h
 have B2 := ak B20
 clear B20
 go_enter Try.func14, Try.ntmps14
 go_upto_region 1 with (fail)
 go_cut [28] (fun v28 wc => v28 = .bool (!t2) ∧ Aside0 (Below w.heap.size w wc))
 case first =>
  clear h
  cases t0 with
  | false =>
   rw [if_neg (by simp)] at B1
   obtain rfl := Option.some.inj B1.out
   rw [if_neg (by simp)] at B2
   obtain rfl := Option.some.inj B2.out
   go_wp2_with (first | ((with_reducible refine gate_callee (f := 20) rfl ?_); refine goesL_ (some 17) rfl rfl Try.func20 (by kernel_rfl) rfl #[.slice A0 l0.length c0] rfl (by (try simp only [List.map_toArray, List.map_cons, List.map_nil]); first | done | rfl) ?_; refine (impl_PagesValid.calls k _ _ l0 false _ (by repeat (first | exact (Kd.C_below HR0.out HB.out) | exact HR0.out | (with_reducible refine Kd.C_alloc ?_ _) | (with_reducible refine Kd.C_drewN ?_ _) | (with_reducible refine Kd.C_drew ?_))) HC0.out B0.out).mono ?_; rintro e w1 ⟨rfl, hb⟩; refine ⟨_, rfl, ?_⟩; have n0_ := ak (below_step (by exact hopb HB.out) hb); have n1_ := ak (show w.heap.size ≤ w1.heap.size from hb.size); clear  HB; have HB := n0_; have Z1 := n1_; clear n0_ n1_; clear hb))
   go_meet
   case rel => exact ⟨rfl, ⟨(by exact hopb HB.out)⟩⟩
  | true =>
   rw [if_pos rfl] at B1
   cases t1 with
   | false =>
    rw [if_neg (by simp)] at B2
    obtain rfl := Option.some.inj B2.out
    go_wp2_with (first | ((with_reducible refine gate_callee (f := 20) rfl ?_); refine goesL_ (some 17) rfl rfl Try.func20 (by kernel_rfl) rfl #[.slice A0 l0.length c0] rfl (by (try simp only [List.map_toArray, List.map_cons, List.map_nil]); first | done | rfl) ?_; refine (impl_PagesValid.calls k _ _ l0 true _ (by repeat (first | exact (Kd.C_below HR0.out HB.out) | exact HR0.out | (with_reducible refine Kd.C_alloc ?_ _) | (with_reducible refine Kd.C_drewN ?_ _) | (with_reducible refine Kd.C_drew ?_))) HC0.out B0.out).mono ?_; rintro e w1 ⟨rfl, hb⟩; refine ⟨_, rfl, ?_⟩; have n0_ := ak (below_step (by exact hopb HB.out) hb); have n1_ := ak (show w.heap.size ≤ w1.heap.size from hb.size); clear  HB; have HB := n0_; have Z1 := n1_; clear n0_ n1_; clear hb) | (go_at_call 30; refine (impl_KeyValid.calls k a1 false _  B1.out).mono ?_; rintro e w2 ⟨rfl, hb0⟩; have hb := hb0.below; have n0_ := ak (below_step (by exact hopb HB.out) hb); have n1_ := ak (show w1.heap.size ≤ w2.heap.size from hb.size); clear  HB; have HB := n0_; have Z2 := n1_; clear n0_ n1_; clear hb0; try clear hb))
    go_meet
    case rel => exact ⟨rfl, ⟨(by exact hopb HB.out)⟩⟩
   | true =>
    rw [if_pos rfl] at B2
    go_wp2_with (first | ((with_reducible refine gate_callee (f := 20) rfl ?_); refine goesL_ (some 17) rfl rfl Try.func20 (by kernel_rfl) rfl #[.slice A0 l0.length c0] rfl (by (try simp only [List.map_toArray, List.map_cons, List.map_nil]); first | done | rfl) ?_; refine (impl_PagesValid.calls k _ _ l0 true _ (by repeat (first | exact (Kd.C_below HR0.out HB.out) | exact HR0.out | (with_reducible refine Kd.C_alloc ?_ _) | (with_reducible refine Kd.C_drewN ?_ _) | (with_reducible refine Kd.C_drew ?_))) HC0.out B0.out).mono ?_; rintro e w1 ⟨rfl, hb⟩; refine ⟨_, rfl, ?_⟩; have n0_ := ak (below_step (by exact hopb HB.out) hb); have n1_ := ak (show w.heap.size ≤ w1.heap.size from hb.size); clear  HB; have HB := n0_; have Z1 := n1_; clear n0_ n1_; clear hb) | (go_at_call 30; refine (impl_KeyValid.calls k a1 true _  B1.out).mono ?_; rintro e w2 ⟨rfl, hb0⟩; have hb := hb0.below; have n0_ := ak (below_step (by exact hopb HB.out) hb); have n1_ := ak (show w1.heap.size ≤ w2.heap.size from hb.size); clear  HB; have HB := n0_; have Z2 := n1_; clear n0_ n1_; clear hb0; try clear hb) | (go_at_call 43; refine (impl_valueValid.calls a2 t2 _  B2.out).mono ?_; rintro e w3 ⟨rfl, hb0⟩; have hb := hb0.below; have n0_ := ak (below_step (by exact hopb HB.out) hb); have n1_ := ak (show w2.heap.size ≤ w3.heap.size from hb.size); clear  HB; have HB := n0_; have Z3 := n1_; clear n0_ n1_; clear hb0; try clear hb))
    go_meet
    case rel => exact ⟨rfl, ⟨(by exact hopb HB.out)⟩⟩
 case rest =>
  obtain ⟨rfl, HB⟩ := hcut
  generalize wc = wb at HB ⊢
  have Z0 := ak (show w.heap.size ≤ wb.heap.size from HB.out.size)
  clear B0 B1 B2
  cases t2 with
  | false =>
   rw [if_pos rfl] at h
   obtain ⟨rfl, rfl⟩ := Prod.mk.inj (Option.some.inj h)
   clear h
   go_wp2
   go_ret2
   exact ⟨_, rfl, Kd.S_nil _ _ _ _ _, (by exact hopb HB.out)⟩
  | true =>
  rw [if_neg (by simp)] at h
  by_cases c0_ : l0.length = 0
  ·rw [if_pos c0_] at h
   obtain ⟨rfl, rfl⟩ := Prod.mk.inj (Option.some.inj h)
   clear h
   have cb_ : ((l0.length : Int) == 0) = true := beq_iff_eq.mpr (by omega)
   clear c0_
   go_wp2_with (first | ((with_reducible refine gate_dst (N := 35) rfl ?_); refine Kd.R_lit k65 (w0 := wb) _ 65 ?hg (N := 35) ?hd (xs := ([⟨a1, a2⟩] : List S65)) (inner := [.string a1, .int .i64 a2]) (ok := fun _ => True) (okp := fun _ => True) ?hr ?hp (fun _ hk => hk) trivial (Below.refl _ _) (Nat.le_refl _) (by simp) ?_; (case hd => rfl); (case hg => rfl); (case hr => go_simp <;> rfl); (case hp => exact (Reps.c2 (show Kd.M k65 _ _ _ (⟨a1, a2⟩ : S65) [.string a1, .int .i64 a2] from (k65_mkM _ _ _ (⟨a1, a2⟩ : S65))) (Reps.none _ _))); intro v1_ w1 ho hb hg_ hnew_; clear hg_ hnew_; have n0_ := ak (below_step (by exact hopb HB.out) hb); have n1_ := ak (show wb.heap.size ≤ w1.heap.size from hb.size); have n2_ := ak (show Kd.R k65 65 w1 w.heap.size (fun k_ => wb.heap.size ≤ k_ ∧ k_ < w1.heap.size) v1_ ([⟨a1, a2⟩] : List S65) from Kd.R_lower (Kd.R_mono (Kd.R_bound ho) (fun k_ hk_ => ⟨hk_.2.1, hk_.2.2.1⟩)) (below_size (by exact hopb HB.out))); clear  HB; have HB := n0_; have Z1 := n1_; have HO1 := n2_; clear n0_ n1_ n2_; clear ho; obtain ⟨Ao1, co1, eo1⟩ := Kd.R_slice HO1.out; subst eo1; clear hb) | ((with_reducible refine gate_dst (N := 37) rfl ?_); refine Kd.S_lits k53 (w0 := w) w.heap.size 53 ?hg (N := 37) ?hd (xs := ([⟨([⟨a1, a2⟩] : List S65)⟩] : List S53)) (inner := [.slice Ao1 ([⟨a1, a2⟩] : List S65).length co1]) (ok := fun k_ => wb.heap.size ≤ k_) (fun j_ k_ => (j_ = 0 ∧ wb.heap.size ≤ k_ ∧ k_ < w1.heap.size)) ?hr ?hl ?hp ?ha ?hk ?hf ?hB ?hb ?hm ?_; (case hd => rfl); (case hg => rfl); (case hr => go_simp <;> rfl); (case hl => rfl); (case hB => exact (by exact hopb HB.out)); (case hb => exact below_size (by exact hopb HB.out)); (case hm => exact (show 1 ≤ 9223372036854775807 by decide)); (case hf => exact (show wb.heap.size ≤ _ from by have z1_ := Z1.out; first | omega | (show wb.heap.size ≤ w1.heap.size; omega))); (case hk => exact (fun j_ k_ h_ => by have z1_ := Z1.out; (try dsimp only at h_); (try show wb.heap.size ≤ k_); omega)); (case ha => exact (fun i_ j_ k_ h1_ h2_ => by have z1_ := Z1.out; (try dsimp only at h1_ h2_); omega)); (case hp => intro j_ x_ hx_; match j_, hx_ with | 0, hx_ => (obtain rfl := Option.some.inj hx_; exact k53_mkM _ _ _ (⟨([⟨a1, a2⟩] : List S65)⟩ : S53) (Kd.R_mono (hR HO1.out) (fun k_ h_ => (by (try dsimp only); (try dsimp only at h_); omega)))) | (q_ + 1), hx_ => exact absurd hx_ (by simp)); intro v2_ w2 ho hb hg_ hnew_; have hb1_ := hb; have hb := (show Below w1.heap.size w1 w2 from ⟨hg_.os, hg_.tape, hg_.output, hg_.size, fun k_ h_ => hg_.block k_ h_ (by simp)⟩); have n0_ := ak (below_step (by exact hopb HB.out) hb); have n1_ := ak (show w1.heap.size ≤ w2.heap.size from hb.size); have n2_ := ak (show Kd.S k53 53 w2 w.heap.size (fun k_ => wb.heap.size ≤ k_ ∧ k_ < w2.heap.size) v2_ ([⟨([⟨a1, a2⟩] : List S65)⟩] : List S53) from Kd.S_mono (Kd.S_bound ho) (fun k_ hk_ => ⟨hk_.1, hk_.2.2.1⟩)); clear  HB; have HB := n0_; have Z2 := n1_; have HO2 := n2_; clear n0_ n1_ n2_; clear ho hb hb1_ hg_ hnew_ HO1; obtain ⟨Ao2, co2, eo2⟩ := Kd.S_slice HO2.out; subst eo2; replace HO2 : Aside0 (Kd.S k53 53 w2 w.heap.size (fun k_ => wb.heap.size ≤ k_ ∧ k_ < w2.heap.size) (.slice Ao2 1 co2) ([⟨([⟨a1, a2⟩] : List S65)⟩] : List S53)) := HO2))
   go_ret2
   exact ⟨_, rfl, Kd.S_mono (hS HO2.out) (fun _ _ => trivial), (by exact hopb HB.out)⟩
  rw [if_neg c0_] at h
  have cb_ : ((l0.length : Int) == 0) = false := beq_eq_false_iff_ne.mpr (by omega)
  replace h := Option.bind_eq_some_iff.mp h
  obtain ⟨t3, B30, h⟩ := h
  have B3 := ak B30
  clear B30
  replace h := Option.bind_eq_some_iff.mp h
  obtain ⟨t4, B40, h⟩ := h
  have B4 := ak B40
  clear B40
  by_cases c1_ : ¬ (0 ≤ t4 ∧ t4 < (l0.length : Int) ∧ t3.length = l0.length)
  ·rw [if_neg c1_] at h
   exact absurd h (by simp)
  replace c1_ := Classical.not_not.1 c1_
  rw [if_pos c1_] at h
  replace h := Option.bind_eq_some_iff.mp h
  obtain ⟨⟨p5, t5⟩, B50, h⟩ := h
  have B5 := ak B50
  clear B50
  replace h := Option.bind_eq_some_iff.mp h
  obtain ⟨fu, B60, h⟩ := h
  have B6 := ak B60
  clear B60
  dsimp only at B6
  obtain ⟨a0_, b0_, l3_⟩ := c1_
  have HAT := ak (show 0 ≤ t4 ∧ t4 < ((t3.length : Nat) : Int) from ⟨a0_, by omega⟩)
  obtain ⟨ad_, Ap, cp, e_, hx_, hl_, hi_⟩ := at_T53 HR0.out t4 a0_ b0_
  subst e_
  have HX := ak hx_
  have HP := ak hi_
  have HQ := ak hl_
  replace a0_ := eq_true a0_
  replace b0_ := eq_true b0_
  clear hx_ hl_ hi_ l3_ c0_
  go_upto_region 8 with (first | ((with_reducible refine gate_callee (f := 31) rfl ?_); refine goesL_ (some 39) rfl rfl Try.func31 (by kernel_rfl) rfl #[.slice (some ad_) l0.length c0] rfl (by (try simp only [List.map_toArray, List.map_cons, List.map_nil]); first | done | rfl) ?_; refine (impl_copyPages.calls k _ _ l0 t3 _ (by repeat (first | exact (Kd.C_below HR0.out HB.out) | exact HR0.out | (with_reducible refine Kd.C_alloc ?_ _) | (with_reducible refine Kd.C_drewN ?_ _) | (with_reducible refine Kd.C_drew ?_))) HC0.out B3.out).mono ?_; rintro e w1 ⟨v1_, rfl, ho, hb⟩; refine ⟨_, rfl, ?_⟩; have n0_ := ak (below_step (by exact hopb HB.out) hb); have n1_ := ak (show wb.heap.size ≤ w1.heap.size from hb.size); have n2_ := ak (show Kd.S k53 53 w1 w.heap.size (fun k_ => wb.heap.size ≤ k_ ∧ k_ < w1.heap.size) v1_ t3 from Kd.S_lower (Kd.S_mono (Kd.S_bound ho) (fun k_ hk_ => ⟨hk_.2.1, hk_.2.2.1⟩)) (below_size (by exact hopb HB.out))); clear  HB; have HB := n0_; have Z1 := n1_; have HO1 := n2_; clear n0_ n1_ n2_; clear ho; obtain ⟨go1, co1, eo1, _, _, _, _⟩ := Kd.S_form HO1.out (by have h_ := HAT.out; omega); subst eo1; clear hb) | ((with_reducible refine gate_callee (f := 32) rfl ?_); refine goesL_ (some 42) rfl rfl Try.func32 (by kernel_rfl) rfl #[.slice (some ad_) l0.length c0, .string a1] rfl (by (try simp only [List.map_toArray, List.map_cons, List.map_nil]); first | done | rfl) ?_; refine (impl_pageOf.calls k _ _ l0 a1 t4 _ (by repeat (first | exact (Kd.C_below HR0.out HB.out) | exact HR0.out | (with_reducible refine Kd.C_alloc ?_ _) | (with_reducible refine Kd.C_drewN ?_ _) | (with_reducible refine Kd.C_drew ?_))) HC0.out B4.out).mono ?_; rintro e w2 ⟨rfl, hb⟩; refine ⟨_, rfl, ?_⟩; have n0_ := ak (Kd.S_below (hS HO1.out) hb); have n1_ := ak (below_step (by exact hopb HB.out) hb); have n2_ := ak (show w1.heap.size ≤ w2.heap.size from hb.size); clear HO1 HB; have HO1 := n0_; have HB := n1_; have Z2 := n2_; clear n0_ n1_ n2_; clear hb; have hx1_ := (HB.out.cell (World.block_lt_of_cell? w _ HX.out)).trans HX.out) | ((with_reducible refine gate_callee (f := 44) rfl ?_); refine goesL_ (some 50) rfl rfl Try.func44 (by kernel_rfl) rfl #[.slice Ap (rd_T53 l0 t4).f0.length cp, .string a1] rfl (by (try simp only [List.map_toArray, List.map_cons, List.map_nil]); first | done | rfl) ?_; refine (impl_pairPlace.calls _ _ (rd_T53 l0 t4).f0 a1 p5 t5 _ (by repeat (first | exact (Kd.C_below HP.out HB.out) | exact HP.out | (with_reducible refine Kd.C_alloc ?_ _) | (with_reducible refine Kd.C_drewN ?_ _) | (with_reducible refine Kd.C_drew ?_))) HQ.out B5.out).mono ?_; rintro e w3 ⟨rfl, hb⟩; refine ⟨_, rfl, ?_⟩; have n0_ := ak (Kd.S_below (hS HO1.out) hb); have n1_ := ak (below_step (by exact hopb HB.out) hb); have n2_ := ak (show w2.heap.size ≤ w3.heap.size from hb.size); clear HO1 HB; have HO1 := n0_; have HB := n1_; have Z3 := n2_; clear n0_ n1_ n2_; clear hb; clear hx1_))
  go_cut [60] (fun v60 wc => v60 = .bool fu ∧ Aside0 (Kd.S k53 53 wc w.heap.size (fun k_ => wb.heap.size ≤ k_ ∧ k_ < w1.heap.size) (.slice (some ⟨go1, 0, none⟩) t3.length co1) t3) ∧ Aside0 (Below w.heap.size w wc) ∧ Aside0 (w3.heap.size ≤ wc.heap.size))
  case first =>
   clear h
   cases t5 with
   | true =>
    rw [if_pos rfl] at B6
    obtain rfl := Option.some.inj B6.out
    go_wp2
    go_meet
    case rel => exact ⟨by first | rfl | (simp [*]; done), ⟨(hS HO1.out)⟩, ⟨(by exact hopb HB.out)⟩, ⟨Nat.le_refl _⟩⟩
   | false =>
    rw [if_neg (by simp)] at B6
    obtain ⟨t6, B60, h6_⟩ := Option.bind_eq_some_iff.mp B6.out
    have B7 := ak B60
    clear B60 B6
    have cf_ : decide (48 ≤ (t6.length : Int)) = fu := Option.some.inj h6_
    clear h6_
    have cg_ : decide (48 ≤ t6.length) = fu := by rw [← cf_]; exact decide_eq_decide.2 (by omega)
    go_wp2_with (first | (go_at_call 45; refine (impl_allPairs.calls k _ _ l0 t6 _ (by repeat (first | exact (Kd.C_below HR0.out HB.out) | exact HR0.out | (with_reducible refine Kd.C_alloc ?_ _) | (with_reducible refine Kd.C_drewN ?_ _) | (with_reducible refine Kd.C_drew ?_))) HC0.out B7.out).mono ?_; rintro e w4 ⟨v4_, rfl, ho, hb⟩; have n0_ := ak (Kd.S_below (hS HO1.out) hb); have n1_ := ak (below_step (by exact hopb HB.out) hb); have n2_ := ak (show w3.heap.size ≤ w4.heap.size from hb.size); have n3_ := ak (show Kd.R k65 65 w4 w.heap.size (fun k_ => w3.heap.size ≤ k_ ∧ k_ < w4.heap.size) v4_ t6 from Kd.R_lower (Kd.R_mono (Kd.R_bound ho) (fun k_ hk_ => ⟨hk_.2.1, hk_.2.2.1⟩)) (below_size (by exact hopb HB.out))); clear HO1 HB; have HO1 := n0_; have HB := n1_; have Z4 := n2_; have HO4 := n3_; clear n0_ n1_ n2_ n3_; clear ho; obtain ⟨Ao4, co4, eo4⟩ := Kd.R_slice HO4.out; subst eo4; clear hb; clear HO4))
    go_meet
    case rel => exact ⟨by first | rfl | (simp [*]; done), ⟨(hS HO1.out)⟩, ⟨(by exact hopb HB.out)⟩, ⟨by have z_ := Z4.out; first | exact z_ | omega⟩⟩
  case rest =>
   obtain ⟨rfl, HOp, HB2, Z4⟩ := hcut
   clear HO1 HB B6
   have HB := HB2
   clear HB2
   cases fu with
   | true =>
    rw [if_pos rfl] at h
    obtain ⟨rfl, rfl⟩ := Prod.mk.inj (Option.some.inj h)
    clear h
    go_wp2
    go_ret2
    exact ⟨_, rfl, Kd.S_mono (hS HOp.out) (fun _ _ => trivial), (by exact hopb HB.out)⟩
   | false =>
   rw [if_neg (by simp)] at h
   replace h := Option.bind_eq_some_iff.mp h
   obtain ⟨⟨t7, b7⟩, B70, h⟩ := h
   have B7 := ak B70
   clear B70
   have hx2_ := (HB.out.cell (World.block_lt_of_cell? w _ HX.out)).trans HX.out
   dsimp only at h
   unfold impl_PagesPut.fin at h
   go_upto_if 75 with (first | ((with_reducible refine gate_callee (f := 18) rfl ?_); refine goesL_ (some 70) rfl rfl Try.func18 (by kernel_rfl) rfl #[.slice Ap (rd_T53 l0 t4).f0.length cp, .string a1, .int .i64 a2] rfl (by (try simp only [List.map_toArray, List.map_cons, List.map_nil]); first | done | rfl) ?_; refine (impl_PairPut.calls k _ _ (rd_T53 l0 t4).f0 a1 a2 t7 b7 _ (by repeat (first | exact (Kd.C_below HP.out HB.out) | exact HP.out | (with_reducible refine Kd.C_alloc ?_ _) | (with_reducible refine Kd.C_drewN ?_ _) | (with_reducible refine Kd.C_drew ?_))) HQ.out B7.out).mono ?_; rintro e w5 ⟨v5_, rfl, ho, hb⟩; refine ⟨_, rfl, ?_⟩; have n0_ := ak (Kd.S_below (hS HOp.out) hb); have n1_ := ak (below_step (by exact hopb HB.out) hb); have n2_ := ak (show wc.heap.size ≤ w5.heap.size from hb.size); have n3_ := ak (show Kd.R k65 65 w5 w.heap.size (fun k_ => wc.heap.size ≤ k_ ∧ k_ < w5.heap.size) v5_ t7 from Kd.R_lower (Kd.R_mono (Kd.R_bound ho) (fun k_ hk_ => ⟨hk_.2.1, hk_.2.2.1⟩)) (below_size (by exact hopb HB.out))); clear HOp HB; have HOp := n0_; have HB := n1_; have Z5 := n2_; have HO5 := n3_; clear n0_ n1_ n2_ n3_; clear ho; obtain ⟨Ao5, co5, eo5⟩ := Kd.R_slice HO5.out; subst eo5; clear hb; clear hx2_))
   by_cases c3_ : t7.length ≤ 4
   ·rw [if_pos c3_] at h
    obtain ⟨y8, hy8⟩ : ∃ y_ : List (S53), y_ = t3.set t4.toNat ⟨t7⟩ := ⟨_, rfl⟩
    rw [← hy8] at h
    have N8 := ak hy8
    clear hy8
    obtain ⟨rfl, rfl⟩ := Prod.mk.inj (Option.some.inj h)
    clear h
    have cb_ : decide ((t7.length : Int) ≤ 4) = true := decide_eq_true (by omega)
    have cd_ : decide (t7.length ≤ 4) = true := decide_eq_true c3_
    clear c3_
    (first | rw [cb_] | rw [cd_] | skip)
    (have p_ : 0 ≤ (t4 : Int) := HAT.out.1; have q_ : (t4 : Int) < ((t3.length : Nat) : Int) := HAT.out.2; have HX_ := (show Kd.S k53 53 w5 w.heap.size (fun k_ => (fun _ => True) k_ ∧ ¬ ((fun k_ => some k_ = (.slice Ao5 t7.length co5 : Value).ownBlock)) k_) (.slice (some ⟨go1, 0, none⟩) t3.length co1) t3 from Kd.S_mono HOp.out (fun k_ (h_ : wb.heap.size ≤ k_ ∧ k_ < w1.heap.size) => ⟨trivial, fun e_ => by have h2_ : wc.heap.size ≤ k_ ∧ k_ < w5.heap.size := HO5.out.1 k_ e_.symm; have z0_ := Z0.out; have z1_ := Z1.out; have z2_ := Z2.out; have z3_ := Z3.out; have z4_ := Z4.out; have z5_ := Z5.out; omega⟩)); obtain ⟨oki_, ce_, hcl_, hM_, hcc_, hfr_, hoki_, hH_⟩ := Kd.S_elem HX_ z53 (t4 : Int) p_ q_; obtain ⟨ve_, rfl, ge_⟩ := k53_openM hM_; have HP_ := Kd.S_seg hH_ p_ q_ (seg := [.slice Ao5 t7.length co5]) (j := 0) (show 1 ≤ 1 from by decide) (x' := (⟨t7⟩ : S53)) (k53_mkM _ _ _ (⟨t7⟩ : S53) (Kd.R_mono (Kd.R_tight rfl HO5.out) (fun _ h_ => Or.inr h_))) (fun _ hk => hk) (fun k_ hk_ => ⟨trivial, by have h2_ : wc.heap.size ≤ k_ ∧ k_ < w5.heap.size := HO5.out.1 k_ hk_.symm; have h3_ : wb.heap.size ≤ go1 ∧ go1 < w1.heap.size := HOp.out |> Kd.S_R |>.1 _ rfl; have z0_ := Z0.out; have z1_ := Z1.out; have z2_ := Z2.out; have z3_ := Z3.out; have z4_ := Z4.out; have z5_ := Z5.out; omega⟩); have hxs_ := hcc_ 0 _ rfl; simp only [show (k53).sz = 1 from rfl, Nat.mul_one, Nat.add_zero] at hxs_; have hfs_ := hfr_ 0; simp only [show (k53).sz = 1 from rfl, Nat.mul_one, Nat.add_zero] at hfs_; (try simp only [show (k53).sz = 1 from rfl, Nat.mul_one, Nat.add_zero] at HP_); have HP1 := ak HP_; clear HX_ hcl_ hM_ hcc_ hfr_ hoki_ hH_ HP_ ge_; replace p_ := eq_true p_; replace q_ := eq_true q_; have GB_ := ak (show w.heap.size ≤ go1 from by have h3_ : wb.heap.size ≤ go1 ∧ go1 < w1.heap.size := HOp.out |> Kd.S_R |>.1 _ rfl; have h4_ : w.heap.size ≤ wb.heap.size := (by have z0_ := Z0.out; have z1_ := Z1.out; have z2_ := Z2.out; have z3_ := Z3.out; have z4_ := Z4.out; have z5_ := Z5.out; first | exact Nat.le_refl _ | omega); omega))
    go_wp2_with (first | ((with_reducible refine gate_store (t := 36) (p := 80) rfl ?_); refine store_event (t := 36) (p := 80) (v := ?vo_w6) (w1 := (w5.setCell ⟨go1, (t4 : Int).toNat, none⟩ (.slice Ao5 t7.length co5))) ?hg ?ho ?hn ?hr ?_; (case ho => rfl); (case hg => rfl); (case hn => rfl); (case hr => go_simp <;> rfl); intro w6 hw; have n0_ := ak (show Kd.S k53 53 w6 w.heap.size (fun _ => True) (.slice (some ⟨go1, 0, none⟩) t3.length co1) y8 from (by rw [hw, N8.out]; exact HP1.out.1)); have n1_ := ak (show Below w.heap.size w w6 from (by rw [hw]; exact below_set HB.out GB_.out)); have n2_ := ak (show w5.heap.size ≤ w6.heap.size from (by rw [hw]; simp [World.setCell])); clear HOp HO5 HB HP1 hw; have HB := n1_; have Z6 := n2_; have HO6 := n0_; clear n0_ n1_ n2_))
    go_ret2
    exact ⟨_, rfl, Kd.S_mono (hS HO6.out) (fun _ _ => trivial), (by exact hopb HB.out)⟩
   rw [if_neg c3_] at h
   replace h := Option.bind_eq_some_iff.mp h
   obtain ⟨t8, B80, h⟩ := h
   have B8 := ak B80
   clear B80
   replace h := Option.bind_eq_some_iff.mp h
   obtain ⟨t9, B90, h⟩ := h
   have B9 := ak B90
   clear B90
   replace h := Option.bind_eq_some_iff.mp h
   obtain ⟨t10, B100, h⟩ := h
   have B10 := ak B100
   clear B100
   obtain ⟨rfl, rfl⟩ := Prod.mk.inj (Option.some.inj h)
   clear h
   have cb_ : decide ((t7.length : Int) ≤ 4) = false := decide_eq_false (by omega)
   have cd_ : decide (t7.length ≤ 4) = false := decide_eq_false c3_
   have LM := ak (show (0 : Int) ≤ 2 ∧ (2 : Int) ≤ (t7.length : Int) by omega)
   clear c3_
   (first | rw [cb_] | rw [cd_] | skip)
   obtain ⟨ya, hya⟩ : ∃ y_ : List (S65), y_ = t7.take 2 := ⟨_, rfl⟩
   obtain ⟨yb, hyb⟩ : ∃ y_ : List (S65), y_ = t7.drop 2 := ⟨_, rfl⟩
   rw [← hya] at B8
   rw [← hyb] at B9
   have NA := ak hya
   have NB := ak hyb
   have LA := ak (show ya.length = (2 : Int).toNat by have h_ := LM.out; rw [hya, List.length_take]; omega)
   have LB := ak (show yb.length = t7.length - (2 : Int).toNat by rw [hyb, List.length_drop]; rfl)
   clear hya hyb
   obtain ⟨i0_, hi0_, _, hsz_, _⟩ := info_parts info65
   have hm_ := (Kd.R_reads' HO5.out).2.1
   have hcA := cut_to (P := Try.prog) 36 65 .i64 Try.underlying36 hi0_ Ao5 t7.length co5 (2 : Int) LM.out.1 LM.out.2 hm_
   rw [← LA.out] at hcA
   have hcB := cut_from (P := Try.prog) 36 65 .i64 Try.underlying36 hi0_ 2 hsz_ Ao5 t7.length co5 (2 : Int) LM.out.1 LM.out.2
   obtain ⟨AB, hAB⟩ : ∃ x_, x_ = (if co5 = (2 : Int).toNat then Ao5 else (Ao5 : Option Addr).map (·.add ((2 : Int).toNat * 2))) := ⟨_, rfl⟩
   obtain ⟨cB, hcB_⟩ : ∃ x_, x_ = co5 - (2 : Int).toNat := ⟨_, rfl⟩
   rw [← LB.out, ← hAB, ← hcB_] at hcB
   have KA := ak hAB
   have KC := ak hcB_
   clear hAB hcB_ hm_ hi0_ hsz_
   go_wp2_with (first | ((with_reducible refine gate_callee (f := 46) rfl ?_); refine goesL_ (some 84) rfl rfl Try.func46 (by kernel_rfl) rfl #[.slice Ao5 ya.length co5] rfl (by (try simp only [List.map_toArray, List.map_cons, List.map_nil]); first | done | rfl) ?_; refine (impl_copyOf_Pair.calls _ _ ya t8 _ (by have q_ := Kd.R_reads' HO5.out; have h_ := LM.out; have r_ := Kd.C_take (m := (2 : Int).toNat) q_.2.2 (by omega); rw [show t7.take (2 : Int).toNat = ya from NA.out.symm] at r_; (with_reducible repeat (first | refine Kd.C_alloc ?_ _ | refine Kd.C_drewN ?_ _ | refine Kd.C_drew ?_)); exact r_) (by have q_ := Kd.R_reads' HO5.out; have h_ := LM.out; have l_ := LA.out; omega) B8.out).mono ?_; rintro e w6 ⟨v6_, rfl, ho, hb⟩; refine ⟨_, rfl, ?_⟩; have n0_ := ak (Kd.S_below (hS HOp.out) hb); have n1_ := ak (Kd.R_below (hR HO5.out) hb); have n2_ := ak (below_step (by exact hopb HB.out) hb); have n3_ := ak (show w5.heap.size ≤ w6.heap.size from hb.size); have n4_ := ak (show Kd.R k65 65 w6 w.heap.size (fun k_ => w5.heap.size ≤ k_ ∧ k_ < w6.heap.size) v6_ t8 from Kd.R_lower (Kd.R_mono (Kd.R_bound ho) (fun k_ hk_ => ⟨hk_.2.1, hk_.2.2.1⟩)) (below_size (by exact hopb HB.out))); clear HOp HO5 HB; have HOp := n0_; have HO5 := n1_; have HB := n2_; have Z6 := n3_; have HO6 := n4_; clear n0_ n1_ n2_ n3_ n4_; clear ho; obtain ⟨Ao6, co6, eo6⟩ := Kd.R_slice HO6.out; subst eo6; clear hb) | ((with_reducible refine gate_dst (N := 14) rfl ?_); refine box_event ?hg (N := 14) ?hd (cs := #[.slice none 0 0]) (t := 53) ?hr ?_; (case hd => rfl); (case hg => rfl); (case hr => go_simp <;> rfl); intro gbe8 hg w7 hbox hb; have n0_ := ak (Kd.S_below (hS HOp.out) hb); have n1_ := ak (Kd.R_below (hR HO5.out) hb); have n2_ := ak (Kd.R_below (hR HO6.out) hb); have n3_ := ak (below_step (by exact hopb HB.out) hb); have n4_ := ak (show w6.heap.size ≤ w7.heap.size from hb.size); have n5_ := ak (hbox); have n6_ := ak (show gbe8 = w6.heap.size ∧ gbe8 < w7.heap.size ∧ w.heap.size ≤ gbe8 from ⟨hg, blk_lt hbox, by rw [hg]; exact below_size (by exact hopb HB.out)⟩); clear HOp HO5 HO6 HB; have HOp := n0_; have HO5 := n1_; have HO6 := n2_; have HB := n3_; have Z7 := n4_; have BKe8 := n5_; have BGe8 := n6_; clear n0_ n1_ n2_ n3_ n4_ n5_ n6_; clear hb hbox hg; have hcze8 := (blk_cell BKe8.out 0); have hfze8 := blk_frozen BKe8.out 0) | ((with_reducible refine gate_store (t := 53) (p := 14) rfl ?_); refine store_event (t := 53) (p := 14) (v := ?vo_w8) (w1 := (w7.setCell ⟨gbe8, 0, none⟩ (.slice Ao6 t8.length co6))) ?hg ?ho ?hn ?hr ?_; (case ho => rfl); (case hg => rfl); (case hn => rfl); (case hr => go_simp <;> rfl); intro w8 hw; have n0_ := ak (show Kd.S k53 53 w8 w.heap.size (fun k_ => wb.heap.size ≤ k_ ∧ k_ < w1.heap.size) (.slice (some ⟨go1, 0, none⟩) t3.length co1) t3 from (by rw [hw]; exact Kd.S_far HOp.out (fun k_ (h_ : wb.heap.size ≤ k_ ∧ k_ < w1.heap.size) => by show k_ ≠ gbe8; have z1_ := Z1.out; have z2_ := Z2.out; have z3_ := Z3.out; have z4_ := Z4.out; have z5_ := Z5.out; have z6_ := Z6.out; have z7_ := Z7.out; have ge8_ := BGe8.out; omega) _)); have n1_ := ak (show Kd.R k65 65 w8 w.heap.size (fun k_ => wc.heap.size ≤ k_ ∧ k_ < w5.heap.size) (.slice Ao5 t7.length co5) t7 from (by rw [hw]; exact Kd.R_far HO5.out (fun k_ (h_ : wc.heap.size ≤ k_ ∧ k_ < w5.heap.size) => by show k_ ≠ gbe8; have z1_ := Z1.out; have z2_ := Z2.out; have z3_ := Z3.out; have z4_ := Z4.out; have z5_ := Z5.out; have z6_ := Z6.out; have z7_ := Z7.out; have ge8_ := BGe8.out; omega) _)); have n2_ := ak (show Kd.R k65 65 w8 w.heap.size (fun k_ => w5.heap.size ≤ k_ ∧ k_ < w6.heap.size) (.slice Ao6 t8.length co6) t8 from (by rw [hw]; exact Kd.R_far HO6.out (fun k_ (h_ : w5.heap.size ≤ k_ ∧ k_ < w6.heap.size) => by show k_ ≠ gbe8; have z1_ := Z1.out; have z2_ := Z2.out; have z3_ := Z3.out; have z4_ := Z4.out; have z5_ := Z5.out; have z6_ := Z6.out; have z7_ := Z7.out; have ge8_ := BGe8.out; omega) _)); have n3_ := ak (show w8.heap[gbe8]? = some (.cells #[.slice Ao6 t8.length co6] 53 (0, 0)) from (by rw [hw]; exact (by simpa using blk_set BKe8.out 0 (.slice Ao6 t8.length co6)))); have n4_ := ak (show Below w.heap.size w w8 from (by rw [hw]; exact below_set HB.out BGe8.out.2.2)); have n5_ := ak (show w7.heap.size ≤ w8.heap.size from (by rw [hw]; simp [World.setCell])); clear HOp HO5 HO6 BKe8 HB; have HOp := n0_; have HO5 := n1_; have HO6 := n2_; have BKe8 := n3_; have HB := n4_; have Z8 := n5_; clear n0_ n1_ n2_ n3_ n4_ n5_; clear hw; have hcve8_8 : w8.cell? ⟨gbe8, 0, none⟩ = some (.slice Ao6 t8.length co6) := (blk_cell BKe8.out 0).trans rfl) | ((with_reducible refine gate_callee (f := 46) rfl ?_); refine goesL_ (some 88) rfl rfl Try.func46 (by kernel_rfl) rfl #[.slice AB yb.length cB] rfl (by (try simp only [List.map_toArray, List.map_cons, List.map_nil]); first | done | rfl) ?_; refine (impl_copyOf_Pair.calls _ _ yb t9 _ (by have q_ := Kd.R_reads' HO5.out; have h_ := LM.out; have r_ := Kd.C_drop (m := (2 : Int).toNat) (c := co5) q_.2.2 (by omega) q_.2.1; rw [show t7.drop (2 : Int).toNat = yb from NB.out.symm] at r_; (with_reducible repeat (first | refine Kd.C_alloc ?_ _ | refine Kd.C_drewN ?_ _ | refine Kd.C_drew ?_)); rw [KA.out]; exact r_) (by have q_ := Kd.R_reads' HO5.out; have h_ := LM.out; have l_ := LB.out; have k_ := KC.out; omega) B9.out).mono ?_; rintro e w9 ⟨v9_, rfl, ho, hb⟩; refine ⟨_, rfl, ?_⟩; have n0_ := ak (Kd.S_below (hS HOp.out) hb); have n1_ := ak (Kd.R_below (hR HO5.out) hb); have n2_ := ak (Kd.R_below (hR HO6.out) hb); have n3_ := ak (blk_below (hop BKe8.out) hb); have n4_ := ak (below_step (by exact hopb HB.out) hb); have n5_ := ak (show w8.heap.size ≤ w9.heap.size from hb.size); have n6_ := ak (show Kd.R k65 65 w9 w.heap.size (fun k_ => w8.heap.size ≤ k_ ∧ k_ < w9.heap.size) v9_ t9 from Kd.R_lower (Kd.R_mono (Kd.R_bound ho) (fun k_ hk_ => ⟨hk_.2.1, hk_.2.2.1⟩)) (below_size (by exact hopb HB.out))); clear HOp HO5 HO6 BKe8 HB; have HOp := n0_; have HO5 := n1_; have HO6 := n2_; have BKe8 := n3_; have HB := n4_; have Z9 := n5_; have HO9 := n6_; clear n0_ n1_ n2_ n3_ n4_ n5_ n6_; clear ho; obtain ⟨Ao9, co9, eo9⟩ := Kd.R_slice HO9.out; subst eo9; clear hb) | ((with_reducible refine gate_dst (N := 15) rfl ?_); refine box_event ?hg (N := 15) ?hd (cs := #[.slice none 0 0]) (t := 53) ?hr ?_; (case hd => rfl); (case hg => rfl); (case hr => go_simp <;> rfl); intro gbe9 hg w10 hbox hb; have n0_ := ak (Kd.S_below (hS HOp.out) hb); have n1_ := ak (Kd.R_below (hR HO5.out) hb); have n2_ := ak (Kd.R_below (hR HO6.out) hb); have n3_ := ak (Kd.R_below (hR HO9.out) hb); have n4_ := ak (blk_below (hop BKe8.out) hb); have n5_ := ak (below_step (by exact hopb HB.out) hb); have n6_ := ak (show w9.heap.size ≤ w10.heap.size from hb.size); have n7_ := ak (hbox); have n8_ := ak (show gbe9 = w9.heap.size ∧ gbe9 < w10.heap.size ∧ w.heap.size ≤ gbe9 from ⟨hg, blk_lt hbox, by rw [hg]; exact below_size (by exact hopb HB.out)⟩); clear HOp HO5 HO6 HO9 BKe8 HB; have HOp := n0_; have HO5 := n1_; have HO6 := n2_; have HO9 := n3_; have BKe8 := n4_; have HB := n5_; have Z10 := n6_; have BKe9 := n7_; have BGe9 := n8_; clear n0_ n1_ n2_ n3_ n4_ n5_ n6_ n7_ n8_; clear hb hbox hg; have hcze9 := (blk_cell BKe9.out 0); have hfze9 := blk_frozen BKe9.out 0) | ((with_reducible refine gate_store (t := 53) (p := 15) rfl ?_); refine store_event (t := 53) (p := 15) (v := ?vo_w11) (w1 := (w10.setCell ⟨gbe9, 0, none⟩ (.slice Ao9 t9.length co9))) ?hg ?ho ?hn ?hr ?_; (case ho => rfl); (case hg => rfl); (case hn => rfl); (case hr => go_simp <;> rfl); intro w11 hw; have n0_ := ak (show Kd.S k53 53 w11 w.heap.size (fun k_ => wb.heap.size ≤ k_ ∧ k_ < w1.heap.size) (.slice (some ⟨go1, 0, none⟩) t3.length co1) t3 from (by rw [hw]; exact Kd.S_far HOp.out (fun k_ (h_ : wb.heap.size ≤ k_ ∧ k_ < w1.heap.size) => by show k_ ≠ gbe9; have z1_ := Z1.out; have z2_ := Z2.out; have z3_ := Z3.out; have z4_ := Z4.out; have z5_ := Z5.out; have z6_ := Z6.out; have z7_ := Z7.out; have z8_ := Z8.out; have z9_ := Z9.out; have z10_ := Z10.out; have ge8_ := BGe8.out; have ge9_ := BGe9.out; omega) _)); have n1_ := ak (show Kd.R k65 65 w11 w.heap.size (fun k_ => wc.heap.size ≤ k_ ∧ k_ < w5.heap.size) (.slice Ao5 t7.length co5) t7 from (by rw [hw]; exact Kd.R_far HO5.out (fun k_ (h_ : wc.heap.size ≤ k_ ∧ k_ < w5.heap.size) => by show k_ ≠ gbe9; have z1_ := Z1.out; have z2_ := Z2.out; have z3_ := Z3.out; have z4_ := Z4.out; have z5_ := Z5.out; have z6_ := Z6.out; have z7_ := Z7.out; have z8_ := Z8.out; have z9_ := Z9.out; have z10_ := Z10.out; have ge8_ := BGe8.out; have ge9_ := BGe9.out; omega) _)); have n2_ := ak (show Kd.R k65 65 w11 w.heap.size (fun k_ => w5.heap.size ≤ k_ ∧ k_ < w6.heap.size) (.slice Ao6 t8.length co6) t8 from (by rw [hw]; exact Kd.R_far HO6.out (fun k_ (h_ : w5.heap.size ≤ k_ ∧ k_ < w6.heap.size) => by show k_ ≠ gbe9; have z1_ := Z1.out; have z2_ := Z2.out; have z3_ := Z3.out; have z4_ := Z4.out; have z5_ := Z5.out; have z6_ := Z6.out; have z7_ := Z7.out; have z8_ := Z8.out; have z9_ := Z9.out; have z10_ := Z10.out; have ge8_ := BGe8.out; have ge9_ := BGe9.out; omega) _)); have n3_ := ak (show Kd.R k65 65 w11 w.heap.size (fun k_ => w8.heap.size ≤ k_ ∧ k_ < w9.heap.size) (.slice Ao9 t9.length co9) t9 from (by rw [hw]; exact Kd.R_far HO9.out (fun k_ (h_ : w8.heap.size ≤ k_ ∧ k_ < w9.heap.size) => by show k_ ≠ gbe9; have z1_ := Z1.out; have z2_ := Z2.out; have z3_ := Z3.out; have z4_ := Z4.out; have z5_ := Z5.out; have z6_ := Z6.out; have z7_ := Z7.out; have z8_ := Z8.out; have z9_ := Z9.out; have z10_ := Z10.out; have ge8_ := BGe8.out; have ge9_ := BGe9.out; omega) _)); have n4_ := ak (show w11.heap[gbe8]? = some (.cells #[.slice Ao6 t8.length co6] 53 (0, 0)) from (by rw [hw]; exact blk_far BKe8.out (by show gbe8 ≠ gbe9; have z1_ := Z1.out; have z2_ := Z2.out; have z3_ := Z3.out; have z4_ := Z4.out; have z5_ := Z5.out; have z6_ := Z6.out; have z7_ := Z7.out; have z8_ := Z8.out; have z9_ := Z9.out; have z10_ := Z10.out; have ge8_ := BGe8.out; have ge9_ := BGe9.out; omega) _)); have n5_ := ak (show w11.heap[gbe9]? = some (.cells #[.slice Ao9 t9.length co9] 53 (0, 0)) from (by rw [hw]; exact (by simpa using blk_set BKe9.out 0 (.slice Ao9 t9.length co9)))); have n6_ := ak (show Below w.heap.size w w11 from (by rw [hw]; exact below_set HB.out BGe9.out.2.2)); have n7_ := ak (show w10.heap.size ≤ w11.heap.size from (by rw [hw]; simp [World.setCell])); clear HOp HO5 HO6 HO9 BKe8 BKe9 HB; have HOp := n0_; have HO5 := n1_; have HO6 := n2_; have HO9 := n3_; have BKe8 := n4_; have BKe9 := n5_; have HB := n6_; have Z11 := n7_; clear n0_ n1_ n2_ n3_ n4_ n5_ n6_ n7_; clear hw; have hcve8_11 : w11.cell? ⟨gbe8, 0, none⟩ = some (.slice Ao6 t8.length co6) := (blk_cell BKe8.out 0).trans rfl; have hcve9_11 : w11.cell? ⟨gbe9, 0, none⟩ = some (.slice Ao9 t9.length co9) := (blk_cell BKe9.out 0).trans rfl) | ((with_reducible refine gate_dst (N := 94) rfl ?_); refine Kd.S_lits k53 (w0 := w) w.heap.size 53 ?hg (N := 94) ?hd (xs := ([⟨t8⟩, ⟨t9⟩] : List S53)) (inner := [.slice Ao6 t8.length co6, .slice Ao9 t9.length co9]) (ok := fun k_ => w5.heap.size ≤ k_) (fun j_ k_ => (j_ = 0 ∧ w5.heap.size ≤ k_ ∧ k_ < w6.heap.size) ∨ (j_ = 1 ∧ w8.heap.size ≤ k_ ∧ k_ < w9.heap.size)) ?hr ?hl ?hp ?ha ?hk ?hf ?hB ?hb ?hm ?_; (case hd => rfl); (case hg => rfl); (case hr => go_simp <;> rfl); (case hl => rfl); (case hB => exact (by exact hopb HB.out)); (case hb => exact below_size (by exact hopb HB.out)); (case hm => exact (show 2 ≤ 9223372036854775807 by decide)); (case hf => exact (show w5.heap.size ≤ _ from by have z1_ := Z1.out; have z2_ := Z2.out; have z3_ := Z3.out; have z4_ := Z4.out; have z5_ := Z5.out; have z6_ := Z6.out; have z7_ := Z7.out; have z8_ := Z8.out; have z9_ := Z9.out; have z10_ := Z10.out; have z11_ := Z11.out; have ge8_ := BGe8.out; have ge9_ := BGe9.out; first | omega | (show w5.heap.size ≤ w11.heap.size; omega))); (case hk => exact (fun j_ k_ h_ => by have z1_ := Z1.out; have z2_ := Z2.out; have z3_ := Z3.out; have z4_ := Z4.out; have z5_ := Z5.out; have z6_ := Z6.out; have z7_ := Z7.out; have z8_ := Z8.out; have z9_ := Z9.out; have z10_ := Z10.out; have z11_ := Z11.out; have ge8_ := BGe8.out; have ge9_ := BGe9.out; (try dsimp only at h_); (try show w5.heap.size ≤ k_); omega)); (case ha => exact (fun i_ j_ k_ h1_ h2_ => by have z1_ := Z1.out; have z2_ := Z2.out; have z3_ := Z3.out; have z4_ := Z4.out; have z5_ := Z5.out; have z6_ := Z6.out; have z7_ := Z7.out; have z8_ := Z8.out; have z9_ := Z9.out; have z10_ := Z10.out; have z11_ := Z11.out; have ge8_ := BGe8.out; have ge9_ := BGe9.out; (try dsimp only at h1_ h2_); omega)); (case hp => intro j_ x_ hx_; match j_, hx_ with | 0, hx_ => (obtain rfl := Option.some.inj hx_; exact k53_mkM _ _ _ (⟨t8⟩ : S53) (Kd.R_mono (hR HO6.out) (fun k_ h_ => (by (try dsimp only); (try dsimp only at h_); omega)))) | 1, hx_ => (obtain rfl := Option.some.inj hx_; exact k53_mkM _ _ _ (⟨t9⟩ : S53) (Kd.R_mono (hR HO9.out) (fun k_ h_ => (by (try dsimp only); (try dsimp only at h_); omega)))) | (q_ + 2), hx_ => exact absurd hx_ (by simp)); intro v12_ w12 ho hb hg_ hnew_; have hb1_ := hb; have hb := (show Below w11.heap.size w11 w12 from ⟨hg_.os, hg_.tape, hg_.output, hg_.size, fun k_ h_ => hg_.block k_ h_ (by simp)⟩); have n0_ := ak (Kd.S_below (hS HOp.out) hb); have n1_ := ak (Kd.R_below (hR HO5.out) hb); have n2_ := ak (blk_below (hop BKe8.out) hb); have n3_ := ak (blk_below (hop BKe9.out) hb); have n4_ := ak (below_step (by exact hopb HB.out) hb); have n5_ := ak (show w11.heap.size ≤ w12.heap.size from hb.size); have n6_ := ak (show Kd.S k53 53 w12 w.heap.size (fun k_ => w5.heap.size ≤ k_ ∧ k_ < w12.heap.size) v12_ ([⟨t8⟩, ⟨t9⟩] : List S53) from Kd.S_mono (Kd.S_bound ho) (fun k_ hk_ => ⟨hk_.1, hk_.2.2.1⟩)); clear HOp HO5 BKe8 BKe9 HB; have HOp := n0_; have HO5 := n1_; have BKe8 := n2_; have BKe9 := n3_; have HB := n4_; have Z12 := n5_; have HO12 := n6_; clear n0_ n1_ n2_ n3_ n4_ n5_ n6_; clear ho hb hb1_ hg_ hnew_ HO6 HO9; obtain ⟨Ao12, co12, eo12⟩ := Kd.S_slice HO12.out; subst eo12; replace HO12 : Aside0 (Kd.S k53 53 w12 w.heap.size (fun k_ => w5.heap.size ≤ k_ ∧ k_ < w12.heap.size) (.slice Ao12 2 co12) ([⟨t8⟩, ⟨t9⟩] : List S53)) := HO12) | ((with_reducible refine gate_callee (f := 47) rfl ?_); refine goesL_ (some 95) rfl rfl Try.func47 (by kernel_rfl) rfl #[.slice (some ⟨go1, 0, none⟩) t3.length co1, .int .i64 t4, .int .i64 1, .slice Ao12 2 co12] rfl (by (try simp only [List.map_toArray, List.map_cons, List.map_nil]); first | done | rfl) ?_; refine (impl_replaced_Page.calls (fun k_ => wb.heap.size ≤ k_ ∧ k_ < w1.heap.size) (fun k_ => w5.heap.size ≤ k_ ∧ k_ < w12.heap.size) _ _ t3 t4 1 [⟨t8⟩, ⟨t9⟩] t10 w _ (by exact hopb HB.out) (hS HOp.out) (hS HO12.out) (fun k_ (h1_ : wb.heap.size ≤ k_ ∧ k_ < w1.heap.size) (h2_ : w5.heap.size ≤ k_ ∧ k_ < w12.heap.size) => by have z1_ := Z1.out; have z2_ := Z2.out; have z3_ := Z3.out; have z4_ := Z4.out; have z5_ := Z5.out; have z6_ := Z6.out; have z7_ := Z7.out; have z8_ := Z8.out; have z9_ := Z9.out; have z10_ := Z10.out; have z11_ := Z11.out; have z12_ := Z12.out; omega) B10.out).mono ?_; rintro e w13 ⟨v13_, rfl, ho, hb⟩; refine ⟨_, rfl, ?_⟩; have n0_ := ak (Kd.S_mono (ok' := fun _ => True) ho (fun _ _ => trivial)); have n1_ := ak (below_step (by exact hopb HB.out) hb); clear HB ho hb; have HOf := n0_; have HB := n1_; clear n0_ n1_; obtain ⟨Ao13, co13, eo13⟩ := Kd.S_slice HOf.out; subst eo13))
   go_ret2
   exact ⟨_, rfl, HOf.out, (by exact hopb HB.out)⟩

/-! ### laws_samePairs: function 21 -/
def laws_samePairs.l0 : Nat → List (S65) → List (S65) → Int → Option (Bool)
 | 0, _, _, _ => none
 | k + 1, x0, x1, x5 => if x5 < (x0.length : Int) then (if 0 ≤ x5 then (if x5 < (x1.length : Int) then (if (!((((rd_T65 x0 x5).f0).toList) == (((rd_T65 x1 x5).f0).toList)) || (!(((rd_T65 x0 x5).f1) == ((rd_T65 x1 x5).f1)))) = true then (some false) else (laws_samePairs.l0 k x0 x1 (wrap64 (x5 + 1)))) else (none)) else (none)) else (some true)
def laws_samePairs.f (k : Nat) (l0 : List (S65)) (l1 : List (S65)) : Option (Bool) := if (l0.length : Int) = (l1.length : Int) then (laws_samePairs.l0 k l0 l1 0) else (some false)
theorem laws_samePairs.mono_l : ∀ k, (∀ y0 y1 y2, LeO (laws_samePairs.l0 k y0 y1 y2) (laws_samePairs.l0 (k + 1) y0 y1 y2))
 | 0 => fun _ _ _ r h => by simp [laws_samePairs.l0] at h
 | k + 1 => by
  have ih0 := laws_samePairs.mono_l k
  ·intro y0 y1 y2
   unfold laws_samePairs.l0
   repeat' first
   | (with_reducible exact ih0 _ _ _)
   | (with_reducible exact LeO.refl _)
   | (with_reducible exact LeO.none _)
   | (with_reducible refine LeO.ite ?_ ?_)
   | (with_reducible refine LeO.bind ?_ (fun _ => ?_))
   | exact ih0 _ _ _
   | exact LeO.none _
   | refine LeO.ite ?_ ?_
   | refine LeO.bind ?_ (fun _ => ?_)
theorem laws_samePairs.mono : ∀ a0 a1 k, LeO (laws_samePairs.f k a0 a1) (laws_samePairs.f (k + 1) a0 a1) := by
 intro a0 a1 k
 have ih0 := laws_samePairs.mono_l k
 unfold laws_samePairs.f
 repeat' first
   | (with_reducible exact ih0 _ _ _)
   | (with_reducible exact LeO.refl _)
   | (with_reducible exact LeO.none _)
   | (with_reducible refine LeO.ite ?_ ?_)
   | (with_reducible refine LeO.bind ?_ (fun _ => ?_))
   | exact ih0 _ _ _
   | exact LeO.none _
   | refine LeO.ite ?_ ?_
   | refine LeO.bind ?_ (fun _ => ?_)
theorem laws_samePairs.calls (k : Nat) (A0 : Option Addr) (c0 : Nat) (l0 : List (S65)) (A1 : Option Addr) (c1 : Nat) (l1 : List (S65)) (r : Bool) (w : World) (hr0 : Kd.C k65 w A0 l0.length l0) (hc0 : l0.length ≤ c0) (hr1 : Kd.C k65 w A1 l1.length l1) (hc1 : l1.length ≤ c1) (h : laws_samePairs.f k l0 l1 = some r) :
  Calls Try.prog 21 #[.slice A0 l0.length c0, .slice A1 l1.length c1] w fun e w' => e = .returned (.bool r) ∧ Drawn0 w w' := by
 have hu65 := Try.underlying65
 have HR0 := ak hr0
 have HC0 := ak hc0
 clear hr0 hc0
 have HR1 := ak hr1
 have HC1 := ak hc1
 clear hr1 hc1
 have H : (if (l0.length : Int) = (l1.length : Int) then (laws_samePairs.l0 k l0 l1 0) else (some false)) = some r := h
 clear h
 by_cases c3 : (l0.length : Int) = (l1.length : Int)
 ·rw [if_pos c3] at H
  have c3b0 : ((l0.length : Int) == (l1.length : Int)) = true := beq_iff_eq.mpr c3
  have c3b1 : ((l0.length : Int) != (l1.length : Int)) = false := bne_eq_false_iff_eq.mpr c3
  have c3b2 : (l0.length == l1.length) = true := by first | simpa using c3 | (simp at c3 ⊢; omega)
  clear c3
  have H' := ak H
  clear H
  go_enter Try.func21, Try.ntmps21
  go_wp2
  repeat (go_quiet (fail); try go_wp2)
  go_loopg [5] k (fun kq v5 w' => ∃ (x5_1 : Int), v5 = .int .i64 x5_1 ∧ Aside0 (laws_samePairs.l0 kq l0 l1 x5_1 = some r) ∧ Aside0 (kq ≤ k) ∧ Drawn0 w w')
  case atStart => exact ⟨(0), (by first | rfl | (simp [*]; done)), H', ⟨Nat.le_refl _⟩, by repeat (first | exact Drawn0.refl _ | apply Drawn0.step)⟩
  case round =>
   clear H'
   try clear c1
   try clear c2
   try clear p2
   try clear c3
   try clear c3b0
   try clear c3b1
   try clear c3b2
   obtain ⟨x5_1, rfl, HA, HK1, ⟨m1, rfl⟩⟩ := hrel
   cases gk with
   | zero => exact absurd HA.out (by simp [laws_samePairs.l0])
   | succ k1 =>
    have H := HA.out
    clear HA
    simp only [laws_samePairs.l0] at H
    by_cases c4 : x5_1 < (l0.length : Int)
    ·rw [if_pos c4] at H
     have c4b0 : decide (x5_1 < (l0.length : Int)) = true := decide_eq_true c4
     clear c4
     by_cases c5 : 0 ≤ x5_1
     ·rw [if_pos c5] at H
      have c5b0 : decide (0 ≤ x5_1) = true := decide_eq_true c5
      clear c5
      by_cases c6 : x5_1 < (l1.length : Int)
      ·rw [if_pos c6] at H
       have c6b0 : decide (x5_1 < (l1.length : Int)) = true := decide_eq_true c6
       clear c6
       by_cases c7 : (!((((rd_T65 l0 x5_1).f0).toList) == (((rd_T65 l1 x5_1).f0).toList)) || (!(((rd_T65 l0 x5_1).f1) == ((rd_T65 l1 x5_1).f1)))) = true
       ·rw [if_pos c7] at H
        have c7b0 : (!((((rd_T65 l0 x5_1).f0).toList) == (((rd_T65 l1 x5_1).f0).toList)) || (!(((rd_T65 l0 x5_1).f1) == ((rd_T65 l1 x5_1).f1)))) = true := c7
        clear c7
        obtain rfl := Option.some.inj H
        have p652 : 0 ≤ (x5_1 : Int) := of_decide_eq_true (by assumption)
        have q652 : x5_1 < (l0.length : Int) := of_decide_eq_true (by assumption)
        obtain ⟨ad652, e652, hx652_0, hx652_1⟩ := at_T65 HR0.out x5_1 p652 q652
        cases e652
        replace p652 := eq_true p652
        replace q652 := eq_true q652
        have p653 : 0 ≤ (x5_1 : Int) := of_decide_eq_true (by assumption)
        have q653 : x5_1 < (l1.length : Int) := of_decide_eq_true (by assumption)
        obtain ⟨ad653, e653, hx653_0, hx653_1⟩ := at_T65 HR1.out x5_1 p653 q653
        cases e653
        replace p653 := eq_true p653
        replace q653 := eq_true q653
        go_wp2
        repeat (go_quiet (fail); try go_wp2)
        go_ret
        exact ⟨by first | rfl | (simp; done) | (simp [*]; done), by repeat (first | exact Drawn0.refl _ | apply Drawn0.step)⟩
       ·rw [if_neg c7] at H
        have c7b0 : (!((((rd_T65 l0 x5_1).f0).toList) == (((rd_T65 l1 x5_1).f0).toList)) || (!(((rd_T65 l0 x5_1).f1) == ((rd_T65 l1 x5_1).f1)))) = false := by simpa using c7
        clear c7
        have H' := ak H
        clear H
        have p652 : 0 ≤ (x5_1 : Int) := of_decide_eq_true (by assumption)
        have q652 : x5_1 < (l0.length : Int) := of_decide_eq_true (by assumption)
        obtain ⟨ad652, e652, hx652_0, hx652_1⟩ := at_T65 HR0.out x5_1 p652 q652
        cases e652
        replace p652 := eq_true p652
        replace q652 := eq_true q652
        have p653 : 0 ≤ (x5_1 : Int) := of_decide_eq_true (by assumption)
        have q653 : x5_1 < (l1.length : Int) := of_decide_eq_true (by assumption)
        obtain ⟨ad653, e653, hx653_0, hx653_1⟩ := at_T65 HR1.out x5_1 p653 q653
        cases e653
        replace p653 := eq_true p653
        replace q653 := eq_true q653
        go_wp2
        repeat (go_quiet (fail); try go_wp2)
        go_roundg k1
        case measure => have := HK1.out; omega
        case rel => exact ⟨(wrap64 (x5_1 + 1)), (by first | rfl | (simp [*]; done)), H', ⟨by have := HK1.out; omega⟩, by repeat (first | exact Drawn0.refl _ | apply Drawn0.step)⟩
      ·rw [if_neg c6] at H
       exact absurd H (by simp)
     ·rw [if_neg c5] at H
      exact absurd H (by simp)
    ·rw [if_neg c4] at H
     have c4b0 : decide (x5_1 < (l0.length : Int)) = false := decide_eq_false c4
     clear c4
     obtain rfl := Option.some.inj H
     go_wp2
     repeat (go_quiet (fail); try go_wp2)
     go_ret
     exact ⟨by first | rfl | (simp; done) | (simp [*]; done), by repeat (first | exact Drawn0.refl _ | apply Drawn0.step)⟩
 ·rw [if_neg c3] at H
  have c3b0 : ((l0.length : Int) == (l1.length : Int)) = false := beq_eq_false_iff_ne.mpr c3
  have c3b1 : ((l0.length : Int) != (l1.length : Int)) = true := bne_iff_ne.mpr c3
  have c3b2 : (l0.length == l1.length) = false := by first | simpa using c3 | (simp at c3 ⊢; omega)
  obtain rfl := Option.some.inj H
  go_enter Try.func21, Try.ntmps21
  go_wp2
  repeat (go_quiet (fail); try go_wp2)
  go_ret
  exact ⟨by first | rfl | (simp; done) | (simp [*]; done), by repeat (first | exact Drawn0.refl _ | apply Drawn0.step)⟩

/-! ### laws_samePages: function 16 -/
def laws_samePages.l0 : Nat → List (S53) → List (S53) → Int → Option (Bool)
 | 0, _, _, _ => none
 | k + 1, x0, x1, x5 => if x5 < (x0.length : Int) then (if 0 ≤ x5 then (if x5 < (x1.length : Int) then ((laws_samePairs.f k ((rd_T53 x0 x5).f0) ((rd_T53 x1 x5).f0)).bind fun t656 => (if t656 = true then (laws_samePages.l0 k x0 x1 (wrap64 (x5 + 1))) else (some false))) else (none)) else (none)) else (some true)
def laws_samePages.f (k : Nat) (l0 : List (S53)) (l1 : List (S53)) : Option (Bool) := if (l0.length : Int) = (l1.length : Int) then (laws_samePages.l0 k l0 l1 0) else (some false)
theorem laws_samePages.mono_l : ∀ k, (∀ y0 y1 y2, LeO (laws_samePages.l0 k y0 y1 y2) (laws_samePages.l0 (k + 1) y0 y1 y2))
 | 0 => fun _ _ _ r h => by simp [laws_samePages.l0] at h
 | k + 1 => by
  have ih0 := laws_samePages.mono_l k
  ·intro y0 y1 y2
   unfold laws_samePages.l0
   repeat' first
   | (with_reducible exact ih0 _ _ _)
   | (with_reducible exact laws_samePairs.mono _ _ _)
   | (with_reducible exact LeO.refl _)
   | (with_reducible exact LeO.none _)
   | (with_reducible refine LeO.ite ?_ ?_)
   | (with_reducible refine LeO.bind ?_ (fun _ => ?_))
   | exact ih0 _ _ _
   | exact LeO.none _
   | refine LeO.ite ?_ ?_
   | refine LeO.bind ?_ (fun _ => ?_)
theorem laws_samePages.mono : ∀ a0 a1 k, LeO (laws_samePages.f k a0 a1) (laws_samePages.f (k + 1) a0 a1) := by
 intro a0 a1 k
 have ih0 := laws_samePages.mono_l k
 unfold laws_samePages.f
 repeat' first
   | (with_reducible exact ih0 _ _ _)
   | (with_reducible exact laws_samePairs.mono _ _ _)
   | (with_reducible exact LeO.refl _)
   | (with_reducible exact LeO.none _)
   | (with_reducible refine LeO.ite ?_ ?_)
   | (with_reducible refine LeO.bind ?_ (fun _ => ?_))
   | exact ih0 _ _ _
   | exact LeO.none _
   | refine LeO.ite ?_ ?_
   | refine LeO.bind ?_ (fun _ => ?_)
theorem laws_samePages.calls (k : Nat) (A0 : Option Addr) (c0 : Nat) (l0 : List (S53)) (A1 : Option Addr) (c1 : Nat) (l1 : List (S53)) (r : Bool) (w : World) (hr0 : Kd.C k53 w A0 l0.length l0) (hc0 : l0.length ≤ c0) (hr1 : Kd.C k53 w A1 l1.length l1) (hc1 : l1.length ≤ c1) (h : laws_samePages.f k l0 l1 = some r) :
  Calls Try.prog 16 #[.slice A0 l0.length c0, .slice A1 l1.length c1] w fun e w' => e = .returned (.bool r) ∧ Drawn0 w w' := by
 have HR0 := ak hr0
 have HC0 := ak hc0
 clear hr0 hc0
 have HR1 := ak hr1
 have HC1 := ak hc1
 clear hr1 hc1
 have H : (if (l0.length : Int) = (l1.length : Int) then (laws_samePages.l0 k l0 l1 0) else (some false)) = some r := h
 clear h
 by_cases c3 : (l0.length : Int) = (l1.length : Int)
 ·rw [if_pos c3] at H
  have c3b0 : ((l0.length : Int) == (l1.length : Int)) = true := beq_iff_eq.mpr c3
  have c3b1 : ((l0.length : Int) != (l1.length : Int)) = false := bne_eq_false_iff_eq.mpr c3
  have c3b2 : (l0.length == l1.length) = true := by first | simpa using c3 | (simp at c3 ⊢; omega)
  clear c3
  have H' := ak H
  clear H
  go_enter Try.func16, Try.ntmps16
  go_wp2
  repeat (go_quiet (fail); try go_wp2)
  go_loopg [5] k (fun kq v5 w' => ∃ (x5_1 : Int), v5 = .int .i64 x5_1 ∧ Aside0 (laws_samePages.l0 kq l0 l1 x5_1 = some r) ∧ Aside0 (kq ≤ k) ∧ Drawn0 w w')
  case atStart => exact ⟨(0), (by first | rfl | (simp [*]; done)), H', ⟨Nat.le_refl _⟩, by repeat (first | exact Drawn0.refl _ | apply Drawn0.step)⟩
  case round =>
   clear H'
   try clear c1
   try clear p2
   try clear c3
   try clear c3b0
   try clear c3b1
   try clear c3b2
   obtain ⟨x5_1, rfl, HA, HK1, ⟨m1, rfl⟩⟩ := hrel
   cases gk with
   | zero => exact absurd HA.out (by simp [laws_samePages.l0])
   | succ k1 =>
    have H := HA.out
    clear HA
    simp only [laws_samePages.l0] at H
    by_cases c4 : x5_1 < (l0.length : Int)
    ·rw [if_pos c4] at H
     have c4b0 : decide (x5_1 < (l0.length : Int)) = true := decide_eq_true c4
     clear c4
     by_cases c5 : 0 ≤ x5_1
     ·rw [if_pos c5] at H
      have c5b0 : decide (0 ≤ x5_1) = true := decide_eq_true c5
      clear c5
      by_cases c6 : x5_1 < (l1.length : Int)
      ·rw [if_pos c6] at H
       have c6b0 : decide (x5_1 < (l1.length : Int)) = true := decide_eq_true c6
       clear c6
       replace H := Option.bind_eq_some_iff.mp H
       obtain ⟨t656, A70, H⟩ := H
       try dsimp only at H
       have A7 := ak A70
       clear A70
       by_cases c8 : t656 = true
       ·subst c8
        rw [if_pos rfl] at H
        have H' := ak H
        clear H
        have p654 : 0 ≤ (x5_1 : Int) := of_decide_eq_true (by assumption)
        have q654 : x5_1 < (l0.length : Int) := of_decide_eq_true (by assumption)
        obtain ⟨ad654, A654_0, c654_0, e654, hx654_0, hl654_0, hi654_0⟩ := at_T53 HR0.out x5_1 p654 q654
        cases e654
        have HR654_0 := ak hi654_0
        have HC654_0 := ak hl654_0
        clear hi654_0 hl654_0
        replace p654 := eq_true p654
        replace q654 := eq_true q654
        have p655 : 0 ≤ (x5_1 : Int) := of_decide_eq_true (by assumption)
        have q655 : x5_1 < (l1.length : Int) := of_decide_eq_true (by assumption)
        obtain ⟨ad655, A655_0, c655_0, e655, hx655_0, hl655_0, hi655_0⟩ := at_T53 HR1.out x5_1 p655 q655
        cases e655
        have HR655_0 := ak hi655_0
        have HC655_0 := ak hl655_0
        clear hi655_0 hl655_0
        replace p655 := eq_true p655
        replace q655 := eq_true q655
        go_wp2_with (first | (go_at_call 21; (with_reducible refine (laws_samePairs.calls k1 _ _ ((rd_T53 l0 x5_1).f0) _ _ ((rd_T53 l1 x5_1).f0) true _ ?side1 ?side2 ?side3 ?side4 A7.out).mono ?_); (case side1 => exact hC HR654_0.out); (case side2 => exact HC654_0.out); (case side3 => exact hC HR655_0.out); (case side4 => exact HC655_0.out); rintro e w' ⟨rfl, ⟨nd, rfl⟩⟩; (try first | exact ⟨rfl, _, World.drewN_drewN _ _ _⟩ | exact ⟨rfl, _, Eq.trans (World.drewN_drewN _ _ _) (congrArg (World.drewN _) (Nat.add_assoc _ _ _))⟩)))
        repeat (go_quiet (first | (go_at_call 21; (with_reducible refine (laws_samePairs.calls k1 _ _ ((rd_T53 l0 x5_1).f0) _ _ ((rd_T53 l1 x5_1).f0) true _ ?side1 ?side2 ?side3 ?side4 A7.out).mono ?_); (case side1 => exact hC HR654_0.out); (case side2 => exact HC654_0.out); (case side3 => exact hC HR655_0.out); (case side4 => exact HC655_0.out); rintro e w' ⟨rfl, ⟨nd, rfl⟩⟩; (try first | exact ⟨rfl, _, World.drewN_drewN _ _ _⟩ | exact ⟨rfl, _, Eq.trans (World.drewN_drewN _ _ _) (congrArg (World.drewN _) (Nat.add_assoc _ _ _))⟩))); try go_wp2_with (first | (go_at_call 21; (with_reducible refine (laws_samePairs.calls k1 _ _ ((rd_T53 l0 x5_1).f0) _ _ ((rd_T53 l1 x5_1).f0) true _ ?side1 ?side2 ?side3 ?side4 A7.out).mono ?_); (case side1 => exact hC HR654_0.out); (case side2 => exact HC654_0.out); (case side3 => exact hC HR655_0.out); (case side4 => exact HC655_0.out); rintro e w' ⟨rfl, ⟨nd, rfl⟩⟩; (try first | exact ⟨rfl, _, World.drewN_drewN _ _ _⟩ | exact ⟨rfl, _, Eq.trans (World.drewN_drewN _ _ _) (congrArg (World.drewN _) (Nat.add_assoc _ _ _))⟩))))
        go_roundg k1
        case measure => have := HK1.out; omega
        case rel => exact ⟨(wrap64 (x5_1 + 1)), (by first | rfl | (simp [*]; done)), H', ⟨by have := HK1.out; omega⟩, by repeat (first | exact Drawn0.refl _ | apply Drawn0.step)⟩
       ·replace c8 := Bool.eq_false_iff.mpr c8
        subst c8
        rw [if_neg (show ¬ (false = true) by decide)] at H
        obtain rfl := Option.some.inj H
        have p654 : 0 ≤ (x5_1 : Int) := of_decide_eq_true (by assumption)
        have q654 : x5_1 < (l0.length : Int) := of_decide_eq_true (by assumption)
        obtain ⟨ad654, A654_0, c654_0, e654, hx654_0, hl654_0, hi654_0⟩ := at_T53 HR0.out x5_1 p654 q654
        cases e654
        have HR654_0 := ak hi654_0
        have HC654_0 := ak hl654_0
        clear hi654_0 hl654_0
        replace p654 := eq_true p654
        replace q654 := eq_true q654
        have p655 : 0 ≤ (x5_1 : Int) := of_decide_eq_true (by assumption)
        have q655 : x5_1 < (l1.length : Int) := of_decide_eq_true (by assumption)
        obtain ⟨ad655, A655_0, c655_0, e655, hx655_0, hl655_0, hi655_0⟩ := at_T53 HR1.out x5_1 p655 q655
        cases e655
        have HR655_0 := ak hi655_0
        have HC655_0 := ak hl655_0
        clear hi655_0 hl655_0
        replace p655 := eq_true p655
        replace q655 := eq_true q655
        go_wp2_with (first | (go_at_call 21; (with_reducible refine (laws_samePairs.calls k1 _ _ ((rd_T53 l0 x5_1).f0) _ _ ((rd_T53 l1 x5_1).f0) false _ ?side1 ?side2 ?side3 ?side4 A7.out).mono ?_); (case side1 => exact hC HR654_0.out); (case side2 => exact HC654_0.out); (case side3 => exact hC HR655_0.out); (case side4 => exact HC655_0.out); rintro e w' ⟨rfl, ⟨nd, rfl⟩⟩; (try first | exact ⟨rfl, _, World.drewN_drewN _ _ _⟩ | exact ⟨rfl, _, Eq.trans (World.drewN_drewN _ _ _) (congrArg (World.drewN _) (Nat.add_assoc _ _ _))⟩)))
        repeat (go_quiet (first | (go_at_call 21; (with_reducible refine (laws_samePairs.calls k1 _ _ ((rd_T53 l0 x5_1).f0) _ _ ((rd_T53 l1 x5_1).f0) false _ ?side1 ?side2 ?side3 ?side4 A7.out).mono ?_); (case side1 => exact hC HR654_0.out); (case side2 => exact HC654_0.out); (case side3 => exact hC HR655_0.out); (case side4 => exact HC655_0.out); rintro e w' ⟨rfl, ⟨nd, rfl⟩⟩; (try first | exact ⟨rfl, _, World.drewN_drewN _ _ _⟩ | exact ⟨rfl, _, Eq.trans (World.drewN_drewN _ _ _) (congrArg (World.drewN _) (Nat.add_assoc _ _ _))⟩))); try go_wp2_with (first | (go_at_call 21; (with_reducible refine (laws_samePairs.calls k1 _ _ ((rd_T53 l0 x5_1).f0) _ _ ((rd_T53 l1 x5_1).f0) false _ ?side1 ?side2 ?side3 ?side4 A7.out).mono ?_); (case side1 => exact hC HR654_0.out); (case side2 => exact HC654_0.out); (case side3 => exact hC HR655_0.out); (case side4 => exact HC655_0.out); rintro e w' ⟨rfl, ⟨nd, rfl⟩⟩; (try first | exact ⟨rfl, _, World.drewN_drewN _ _ _⟩ | exact ⟨rfl, _, Eq.trans (World.drewN_drewN _ _ _) (congrArg (World.drewN _) (Nat.add_assoc _ _ _))⟩))))
        go_ret
        exact ⟨by first | rfl | (simp; done) | (simp [*]; done), by repeat (first | exact Drawn0.refl _ | apply Drawn0.step)⟩
      ·rw [if_neg c6] at H
       exact absurd H (by simp)
     ·rw [if_neg c5] at H
      exact absurd H (by simp)
    ·rw [if_neg c4] at H
     have c4b0 : decide (x5_1 < (l0.length : Int)) = false := decide_eq_false c4
     clear c4
     obtain rfl := Option.some.inj H
     go_wp2
     repeat (go_quiet (fail); try go_wp2)
     go_ret
     exact ⟨by first | rfl | (simp; done) | (simp [*]; done), by repeat (first | exact Drawn0.refl _ | apply Drawn0.step)⟩
 ·rw [if_neg c3] at H
  have c3b0 : ((l0.length : Int) == (l1.length : Int)) = false := beq_eq_false_iff_ne.mpr c3
  have c3b1 : ((l0.length : Int) != (l1.length : Int)) = true := bne_iff_ne.mpr c3
  have c3b2 : (l0.length == l1.length) = false := by first | simpa using c3 | (simp at c3 ⊢; omega)
  obtain rfl := Option.some.inj H
  go_enter Try.func16, Try.ntmps16
  go_wp2
  repeat (go_quiet (fail); try go_wp2)
  go_ret
  exact ⟨by first | rfl | (simp; done) | (simp [*]; done), by repeat (first | exact Drawn0.refl _ | apply Drawn0.step)⟩

/-! ### impl_keysFrom: function 74 -/
def impl_keysFrom.f : Nat → Int → Option (Int)
 | 0, _ => none
 | k + 1, a0 => if a0 ≥ 4 then (some 1) else ((impl_keysFrom.f k (wrap64 (a0 + 1))).bind fun t657 => (some (wrap64 (1 + (wrap64 (26 * t657))))))
theorem impl_keysFrom.mono_l : ∀ k, (∀ y0, LeO (impl_keysFrom.f k y0) (impl_keysFrom.f (k + 1) y0))
 | 0 => fun _ r h => by simp [impl_keysFrom.f] at h
 | k + 1 => by
  have ih0 := impl_keysFrom.mono_l k
  ·intro y0
   unfold impl_keysFrom.f
   repeat' first
   | (with_reducible exact ih0 _)
   | (with_reducible exact LeO.refl _)
   | (with_reducible exact LeO.none _)
   | (with_reducible refine LeO.ite ?_ ?_)
   | (with_reducible refine LeO.bind ?_ (fun _ => ?_))
   | exact ih0 _
   | exact LeO.none _
   | refine LeO.ite ?_ ?_
   | refine LeO.bind ?_ (fun _ => ?_)
theorem impl_keysFrom.mono : ∀ a0 k, LeO (impl_keysFrom.f k a0) (impl_keysFrom.f (k + 1) a0) := by
 intro a0 k
 have ih0 := impl_keysFrom.mono_l k
 exact ih0 a0
theorem impl_keysFrom.calls (k : Nat) : ∀ (a0 : Int) (r : Int) (w : World) (h : impl_keysFrom.f k a0 = some r),
  Calls Try.prog 74 #[.int .i64 a0] w fun e w' => e = .returned (.int .i64 r) ∧ Drawn0 w w' := by
 induction k using Nat.strongRecOn with
 | _ k ih =>
 intro a0 r w h
 cases k with
 | zero => exact absurd h (by simp [impl_keysFrom.f])
 | succ k =>
 simp only [impl_keysFrom.f] at h
 have H : (if a0 ≥ 4 then (some 1) else ((impl_keysFrom.f k (wrap64 (a0 + 1))).bind fun t657 => (some (wrap64 (1 + (wrap64 (26 * t657))))))) = some r := h
 clear h
 by_cases c2 : a0 ≥ 4
 ·rw [if_pos c2] at H
  have c2b0 : decide (4 ≤ a0) = true := decide_eq_true c2
  clear c2
  obtain rfl := Option.some.inj H
  go_enter Try.func74, Try.ntmps74
  go_wp2
  go_ret
  exact ⟨by first | rfl | (simp; done) | (simp [*]; done), by repeat (first | exact Drawn0.refl _ | apply Drawn0.step)⟩
 ·rw [if_neg c2] at H
  have c2b0 : decide (4 ≤ a0) = false := decide_eq_false c2
  clear c2
  replace H := Option.bind_eq_some_iff.mp H
  obtain ⟨t657, A30, H⟩ := H
  try dsimp only at H
  have A3 := ak A30
  clear A30
  obtain rfl := Option.some.inj H
  go_enter Try.func74, Try.ntmps74
  go_wp2_with (first | ((with_reducible refine gate_callee (f := 74) rfl ?_); refine gL (some 7) Try.func74 #[.int .i64 (wrap64 (a0 + 1))] ?_; (with_reducible refine (ih k (by omega) (wrap64 (a0 + 1)) t657 _ A3.out).mono ?_); rintro e w' ⟨rfl, ⟨nd, rfl⟩⟩; refine ⟨_, rfl, ?_⟩))
  go_ret
  exact ⟨by first | rfl | (simp; done) | (simp [*]; done), by repeat (first | exact Drawn0.refl _ | apply Drawn0.step)⟩

end Go.Proofs.Ytengnnhehjcfhaa.PFnPagesPut
