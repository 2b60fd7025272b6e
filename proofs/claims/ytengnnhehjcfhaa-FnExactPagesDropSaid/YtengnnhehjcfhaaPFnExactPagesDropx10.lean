-- Written for this claim by a program of this session (wip/myprint in the proofs' repo)
import Derived.Test.YtengnnhehjcfhaaPFnExactPagesDropx0
import Derived.Test.YtengnnhehjcfhaaWZip
-- slim3
namespace Go.Proofs.Ytengnnhehjcfhaa.PFnExactPagesDrop
open Go.RowKit Go.Proofs.YtengnnhehjcfhaaW.PrintWords Go.Proofs.YtengnnhehjcfhaaW.PrintLast Go.Proofs.YtengnnhehjcfhaaW.PrintMore
attribute [local go_sem] max2_int min2_int max_two min_two max_three min_three max_four min_four max2_strs min2_strs   -- for this text's walks alone
set_option linter.unusedVariables false
set_option linter.unusedSimpArgs false
set_option maxHeartbeats 8000000
set_option maxRecDepth 100000

/-! ### laws_markText: function 59 -/
def laws_markText.l0 : Nat → Int → ByteArray → Option (ByteArray)
 | 0, _, _ => none
 | k + 1, x0, x3 => if x0 > 0 then ((some (([(wrap64 (48 + (Int.tmod x0 10))) % 256] : List Int) : List Int)).bind fun y353 => (if (strOfNums y353).size + x3.size ≤ 9223372036854775807 then (laws_markText.l0 k (wrap64 (Int.tdiv x0 10)) ((strOfNums y353) ++ x3)) else (none))) else (if 1 + x3.size ≤ 9223372036854775807 then (some ((⟨#[109]⟩ : ByteArray) ++ x3)) else (none))
def laws_markText.f (k : Nat) (a0 : Int) : Option (ByteArray) := if a0 ≤ 0 then (some (⟨#[109, 48]⟩ : ByteArray)) else (laws_markText.l0 k a0 (⟨#[]⟩ : ByteArray))
theorem laws_markText.mono_l : ∀ k, (∀ y0 y1, LeO (laws_markText.l0 k y0 y1) (laws_markText.l0 (k + 1) y0 y1))
 | 0 => fun _ _ r h => by simp [laws_markText.l0] at h
 | k + 1 => by
  have ih0 := laws_markText.mono_l k
  ·intro y0 y1
   unfold laws_markText.l0
   repeat' first
   | (with_reducible exact ih0 _ _)
   | (with_reducible exact LeO.refl _)
   | (with_reducible exact LeO.none _)
   | (with_reducible refine LeO.ite ?_ ?_)
   | (with_reducible refine LeO.bind ?_ (fun _ => ?_))
   | exact ih0 _ _
   | exact LeO.none _
   | refine LeO.ite ?_ ?_
   | refine LeO.bind ?_ (fun _ => ?_)
theorem laws_markText.mono : ∀ a0 k, LeO (laws_markText.f k a0) (laws_markText.f (k + 1) a0) := by
 intro a0 k
 have ih0 := laws_markText.mono_l k
 unfold laws_markText.f
 repeat' first
   | (with_reducible exact ih0 _ _)
   | (with_reducible exact LeO.refl _)
   | (with_reducible exact LeO.none _)
   | (with_reducible refine LeO.ite ?_ ?_)
   | (with_reducible refine LeO.bind ?_ (fun _ => ?_))
   | exact ih0 _ _
   | exact LeO.none _
   | refine LeO.ite ?_ ?_
   | refine LeO.bind ?_ (fun _ => ?_)
theorem laws_markText.calls (k : Nat) (a0 : Int) (r : ByteArray) (w : World) (h : laws_markText.f k a0 = some r) :
  Calls Try.prog 59 #[.int .i64 a0] w fun e w' => e = .returned (.string r) ∧ Below w.heap.size w w' := by
 have HB := ak (Below.refl w.heap.size w)
 have H : (if a0 ≤ 0 then (some (⟨#[109, 48]⟩ : ByteArray)) else (laws_markText.l0 k a0 (⟨#[]⟩ : ByteArray))) = some r := h
 clear h
 by_cases c2 : a0 ≤ 0
 ·rw [if_pos c2] at H
  have c2b0 : decide (a0 ≤ 0) = true := decide_eq_true c2
  clear c2
  obtain rfl := Option.some.inj H
  go_enter Try.func59, Try.ntmps59
  go_wp2
  go_ret
  exact ⟨by first | rfl | (simp [*, errW_none, errW_some] <;> rfl), by exact hopb HB.out⟩
 ·rw [if_neg c2] at H
  have c2b0 : decide (a0 ≤ 0) = false := decide_eq_false c2
  clear c2
  have H' := ak H
  clear H
  go_enter Try.func59, Try.ntmps59
  go_wp2
  go_loopg [0, 3] k (fun kq v0 v3 w' => ∃ (x0_1 : Int) (x3_1 : ByteArray), v0 = .int .i64 x0_1 ∧ v3 = .string x3_1 ∧ Aside0 (laws_markText.l0 kq x0_1 x3_1 = some r) ∧ Aside0 (kq ≤ k) ∧ Aside0 (Below w.heap.size w w'))
  case atStart => exact ⟨(a0), ((⟨#[]⟩ : ByteArray)), (by first | rfl | (simp [*]; done)), (by first | rfl | (simp [*]; done)), H', ⟨Nat.le_refl _⟩, ⟨by exact hopb HB.out⟩⟩
  case round =>
   clear H'
   try clear c2
   try clear c2b0
   try clear p2
   obtain ⟨x0_1, x3_1, rfl, rfl, HA, HK1, HB⟩ := hrel
   cases gk with
   | zero => exact absurd HA.out (by simp [laws_markText.l0])
   | succ k1 =>
    have H := HA.out
    clear HA
    simp only [laws_markText.l0] at H
    by_cases c3 : x0_1 > 0
    ·rw [if_pos c3] at H
     have c3b0 : decide (0 < x0_1) = true := decide_eq_true c3
     clear c3
     obtain ⟨y353, hy353⟩ : ∃ y_ : List Int, y_ = (([(wrap64 (48 + (Int.tmod x0_1 10))) % 256] : List Int)) := ⟨_, rfl⟩
     replace H : (if (strOfNums y353).size + x3_1.size ≤ 9223372036854775807 then (laws_markText.l0 k1 (wrap64 (Int.tdiv x0_1 10)) ((strOfNums y353) ++ x3_1)) else (none)) = some r := by first | (rw [hy353]; exact H) | exact H
     have Ny353 := ak hy353
     clear hy353
     by_cases c4 : (strOfNums y353).size + x3_1.size ≤ 9223372036854775807
     ·rw [if_pos c4] at H
      have c4b0 := eq_true c4
      have c4b1 : decide ((strOfNums y353).size + x3_1.size ≤ 9223372036854775807) = true := decide_eq_true c4
      try have c4b2 : (9223372036854775807 < (strOfNums y353).size + x3_1.size) = False := eq_false (Nat.not_lt.2 c4)
      have H' := ak H
      clear H
      go_wp2_with (first | ((with_reducible refine gate_dst (N := 12) rfl ?_); refine Kd.R_lit (Kd.int .u8) _ 5 ?hg (N := 12) ?hd (xs := ([(wrap64 (48 + (Int.tmod x0_1 10))) % 256] : List Int)) (inner := [.int .u8 ((wrap64 (48 + (Int.tmod x0_1 10))) % 256)]) (ok := fun _ => True) (okp := fun _ => True) ?hr ?hp (fun _ hk => hk) trivial (Below.refl _ _) (Nat.le_refl _) (by simp) ?_; (case hd => rfl); (case hg => rfl); (case hr => first | (go_simp; done) | (go_simp; rfl)); (case hp => exact (Reps.one (show Kd.M (Kd.int .u8) _ _ _ ((wrap64 (48 + (Int.tmod x0_1 10))) % 256) [.int .u8 ((wrap64 (48 + (Int.tmod x0_1 10))) % 256)] from rfl) (Reps.none _ _))); intro v354 w5 ho6 hb hg_ hnew_; clear hg_ hnew_; (first | rw [← Ny353.out] at ho6 | (simp only [Int.reduceToNat] at ho6; rw [← Ny353.out] at ho6)); have HO355 := ak (Kd.R_lower ho6 (below_size (by exact hopb HB.out))); replace HB := ak (below_step (by exact hopb HB.out) hb); clear hb ho6; have hcv7 := own_string (P := Try.prog) Try.underlying31 Try.underlying5 Try.underlying9 (Kd.own_of_R HO355.out)))
      go_roundg k1
      case measure => have := HK1.out; omega
      case rel => exact ⟨(wrap64 (Int.tdiv x0_1 10)), ((strOfNums y353) ++ x3_1), (by first | rfl | (simp [*]; done)), (by first | rfl | (simp [*]; done)), H', ⟨by have := HK1.out; omega⟩, ⟨by exact hopb HB.out⟩⟩
     ·rw [if_neg c4] at H
      exact absurd H (by simp)
    ·rw [if_neg c3] at H
     have c3b0 : decide (0 < x0_1) = false := decide_eq_false c3
     clear c3
     by_cases c8 : 1 + x3_1.size ≤ 9223372036854775807
     ·rw [if_pos c8] at H
      have c8b0 := eq_true c8
      have c8b1 : decide (1 + x3_1.size ≤ 9223372036854775807) = true := decide_eq_true c8
      try have c8b2 : (9223372036854775807 < 1 + x3_1.size) = False := eq_false (Nat.not_lt.2 c8)
      obtain rfl := Option.some.inj H
      go_wp2
      go_ret
      exact ⟨by first | rfl | (simp [*, errW_none, errW_some] <;> rfl), by exact hopb HB.out⟩
     ·rw [if_neg c8] at H
      exact absurd H (by simp)

/-! ### laws_markPairS: function 36 -/
def laws_markPairS.l0 : Nat → List (S65) → Int → Int → Option (Int × (List (S65)))
 | 0, _, _, _ => none
 | k + 1, x0, x1, x5 => if x5 < (x0.length : Int) then ((laws_markText.f k x1).bind fun t356 => (if 0 ≤ x5 then ((some (x0.set (x5 : Int).toNat (⟨t356, (rd_T65 x0 x5).f1⟩ : S65) : List (S65))).bind fun y357 => (laws_markPairS.l0 k (y357.set (x5 : Int).toNat (⟨(rd_T65 y357 x5).f0, wrap64 (x1 + 1)⟩ : S65)) (wrap64 ((wrap64 (x1 + 1)) + 1)) (wrap64 (x5 + 1)))) else (none))) else (some (x1, x0))
def laws_markPairS.f (k : Nat) (l0 : List (S65)) (a1 : Int) : Option (Int × (List (S65))) := laws_markPairS.l0 k l0 a1 0
theorem laws_markPairS.mono_l : ∀ k, (∀ y0 y1 y2, LeO (laws_markPairS.l0 k y0 y1 y2) (laws_markPairS.l0 (k + 1) y0 y1 y2))
 | 0 => fun _ _ _ r h => by simp [laws_markPairS.l0] at h
 | k + 1 => by
  have ih0 := laws_markPairS.mono_l k
  ·intro y0 y1 y2
   unfold laws_markPairS.l0
   repeat' first
   | (with_reducible exact ih0 _ _ _)
   | (with_reducible exact laws_markText.mono _ _)
   | (with_reducible exact LeO.refl _)
   | (with_reducible exact LeO.none _)
   | (with_reducible refine LeO.ite ?_ ?_)
   | (with_reducible refine LeO.bind ?_ (fun _ => ?_))
   | exact ih0 _ _ _
   | exact LeO.none _
   | refine LeO.ite ?_ ?_
   | refine LeO.bind ?_ (fun _ => ?_)
theorem laws_markPairS.mono : ∀ a0 a1 k, LeO (laws_markPairS.f k a0 a1) (laws_markPairS.f (k + 1) a0 a1) := by
 intro a0 a1 k
 have ih0 := laws_markPairS.mono_l k
 unfold laws_markPairS.f
 repeat' first
   | (with_reducible exact ih0 _ _ _)
   | (with_reducible exact laws_markText.mono _ _)
   | (with_reducible exact LeO.refl _)
   | (with_reducible exact LeO.none _)
   | (with_reducible refine LeO.ite ?_ ?_)
   | (with_reducible refine LeO.bind ?_ (fun _ => ?_))
   | exact ih0 _ _ _
   | exact LeO.none _
   | refine LeO.ite ?_ ?_
   | refine LeO.bind ?_ (fun _ => ?_)
theorem laws_markPairS.calls (k : Nat) (P0_ : Nat → Prop) (u9000_ : Value) (l0 : List (S65)) (a1 : Int) (r1 : Int) (r2 : List (S65)) (w0 w : World) (hB : Below w0.heap.size w0 w) (ho0 : Kd.R k65 65 w w0.heap.size P0_ u9000_ l0) (h : laws_markPairS.f k l0 a1 = some (r1, r2)) :
  Calls Try.prog 36 #[u9000_, .int .i64 a1] w fun e w' => e = .returned (.int .i64 r1) ∧ Kd.R k65 65 w' w0.heap.size (fun k_ => (P0_ k_ ∨ w.heap.size ≤ k_)) u9000_ r2 ∧ Below w0.heap.size w0 w' ∧ Kept w w' (fun k_ => P0_ k_) := by
 have HO0 := ak (show Kd.R k65 65 w w0.heap.size (fun k_ => (P0_ k_ ∨ w.heap.size ≤ k_)) u9000_ l0 from Kd.R_mono ho0 (fun k_ hk => (.inl hk)))
 have HK := ak (Kept.refl w (fun k_ => P0_ k_))
 have HW0 := ak hB.size
 have HB := ak hB
 clear hB
 have H : (laws_markPairS.l0 k l0 a1 0) = some (r1, r2) := h
 clear h
 have H' := ak H
 clear H
 go_enter Try.func36, Try.ntmps36
 go_wp2
 go_loopg [1, 5] k (fun kq v1 v5 w' => ∃ (x0_1 : List (S65)) (x1_1 : Int) (x5_1 : Int), v1 = .int .i64 x1_1 ∧ v5 = .int .i64 x5_1 ∧ Aside0 (laws_markPairS.l0 kq x0_1 x1_1 x5_1 = some (r1, r2)) ∧ Aside0 (kq ≤ k) ∧ Aside0 (Kd.R k65 65 w' w0.heap.size (fun k_ => (P0_ k_ ∨ w.heap.size ≤ k_)) u9000_ x0_1) ∧ Aside0 (Kept w w' (fun k_ => P0_ k_)) ∧ Aside0 (Below w0.heap.size w0 w'))
 case atStart => exact ⟨(l0), (a1), (0), (by first | rfl | (simp [*]; done)), (by first | rfl | (simp [*]; done)), H', ⟨Nat.le_refl _⟩, ⟨by (with_reducible repeat (first | apply Kd.R_alloc | apply Kd.R_drewN | apply Kd.R_drew)); exact HO0.out⟩, ⟨by repeat (first | exact HK.out | apply Kept.alloc | apply Kept.drewN | apply Kept.drew)⟩, ⟨by exact hopb HB.out⟩⟩
 case round =>
  clear H'
  try clear p2
  obtain ⟨x0_1, x1_1, x5_1, rfl, rfl, HA, HK1, HO_0, HK, HB⟩ := hrel
  cases gk with
  | zero => exact absurd HA.out (by simp [laws_markPairS.l0])
  | succ k1 =>
   have H := HA.out
   clear HA
   simp only [laws_markPairS.l0] at H
   by_cases c3 : x5_1 < (x0_1.length : Int)
   ·rw [if_pos c3] at H
    have c3b0 : decide (x5_1 < (x0_1.length : Int)) = true := decide_eq_true c3
    clear c3
    replace H := Option.bind_eq_some_iff.mp H
    obtain ⟨t356, A40, H⟩ := H
    try dsimp only at H
    have A4 := ak A40
    clear A40
    by_cases c5 : 0 ≤ x5_1
    ·rw [if_pos c5] at H
     have c5b0 : decide (0 ≤ x5_1) = true := decide_eq_true c5
     clear c5
     obtain ⟨y357, hy357⟩ : ∃ y_ : List (S65), y_ = (x0_1.set (x5_1 : Int).toNat (⟨t356, (rd_T65 x0_1 x5_1).f1⟩ : S65)) := ⟨_, rfl⟩
     replace H : (laws_markPairS.l0 k1 (y357.set (x5_1 : Int).toNat (⟨(rd_T65 y357 x5_1).f0, wrap64 (x1_1 + 1)⟩ : S65)) (wrap64 ((wrap64 (x1_1 + 1)) + 1)) (wrap64 (x5_1 + 1))) = some (r1, r2) := by first | (rw [hy357]; exact H) | exact H
     have Ny357 := ak hy357
     clear hy357
     obtain ⟨y358, hy358⟩ : ∃ y_ : List (S65), y_ = (y357.set (x5_1 : Int).toNat (⟨(rd_T65 y357 x5_1).f0, wrap64 (x1_1 + 1)⟩ : S65)) := ⟨_, rfl⟩
     replace H : (laws_markPairS.l0 k1 y358 (wrap64 ((wrap64 (x1_1 + 1)) + 1)) (wrap64 (x5_1 + 1))) = some (r1, r2) := by first | (rw [hy358]; exact H) | exact H
     have Ny358 := ak hy358
     clear hy358
     have H' := ak H
     clear H
     obtain ⟨Ao8, co8, eo8⟩ := Kd.R_slice HO_0.out
     subst eo8
     go_wp2_with (first | ((with_reducible refine gate_callee (f := 59) rfl ?_); refine goesL_ (some 15) rfl rfl Try.func59 (by kernel_rfl) rfl #[.int .i64 x1_1] rfl (by (try simp only [List.map_toArray, List.map_cons, List.map_nil]); first | done | rfl | (simp only [List.length_drop, List.length_take]; rfl)) ?_; (with_reducible refine (laws_markText.calls k1 x1_1 t356 _ A4.out).mono ?_); rintro e w9 ⟨rfl, hb⟩; refine ⟨_, rfl, ?_⟩; replace HO_0 := ak (Kd.R_below (by (with_reducible repeat (first | apply Kd.R_alloc | apply Kd.R_drewN | apply Kd.R_drew)); exact HO_0.out) hb); replace HK := ak (Kept.below (S := (fun k_ => P0_ k_)) (by repeat (first | exact HK.out | apply Kept.alloc | apply Kept.drewN | apply Kept.drew)) hb); replace HB := ak (below_step (by exact hopb HB.out) hb); (try clear hb); have p6 : 0 ≤ (x5_1 : Int) := of_decide_eq_true (by assumption); have q6 : (x5_1 : Int) < ((x0_1.length : Int) : Int) := of_decide_eq_true (by assumption); obtain ⟨go6, co6, eo6, gb6, gl6, cl6, HG6⟩ := Kd.R_form HO_0.out (by omega); (first | cases eo6 | (injection eo6 with ea_ en_ ec_; (first | subst ea_ | (injection ea_ with ea_; subst ea_)); subst ec_; clear en_)); have GB6 := ak gb6; have GG6 := ak HG6; clear gb6 gl6 HG6; have HMgo6 := ak (show (P0_ go6 ∨ w.heap.size ≤ go6) from (HO_0.out.1 _ rfl)); obtain ⟨ce6, hcl6, hM6, hcc6, hfr6⟩ := Kd.R_elem HO_0.out z65 (x5_1 : Int) p6 q6; obtain rfl := k65_openM hM6; have hx6_0 : w9.cell? ⟨go6, (x5_1 : Int).toNat * 2, none⟩ = some (.string ((rd_T65 x0_1 x5_1).f0)) := hcc6 0 _ rfl; have hx6_1 : w9.cell? ⟨go6, (x5_1 : Int).toNat * 2 + 1, none⟩ = some (.int .i64 ((rd_T65 x0_1 x5_1).f1)) := hcc6 1 _ rfl; have hf6_0 : w9.frozen? ⟨go6, (x5_1 : Int).toNat * 2, none⟩ = false := hfr6 0; have hf6_1 : w9.frozen? ⟨go6, (x5_1 : Int).toNat * 2 + 1, none⟩ = false := hfr6 1; clear hcl6 hcc6 hfr6 hM6; replace p6 := eq_true p6; replace q6 := eq_true q6; have HX10 := ak (show Kd.R k65 65 w9 w0.heap.size (fun k_ => (P0_ k_ ∨ w.heap.size ≤ k_)) (.slice (some ⟨go6, 0, none⟩) x0_1.length co8) x0_1 from (by (with_reducible repeat (first | apply Kd.R_alloc | apply Kd.R_drewN | apply Kd.R_drew)); exact HO_0.out)); obtain ⟨ce10, hcl10, hM10, hcc10, hfr10⟩ := Kd.R_elem HX10.out z65 (x5_1 : Int) (of_decide_eq_true (by assumption)) (by have h_ : (x5_1 : Int) < ((x0_1.length : Int) : Int) := of_decide_eq_true (by assumption); first | exact h_ | (have e_ := (Kd.R_reads' HO_0.out).1; omega) | simpa using h_); obtain rfl := k65_openM hM10; have HP10 := Kd.R_seg HX10.out (x5_1 : Int) (of_decide_eq_true (by assumption)) (by have h_ : (x5_1 : Int) < ((x0_1.length : Int) : Int) := of_decide_eq_true (by assumption); first | exact h_ | (have e_ := (Kd.R_reads' HO_0.out).1; omega) | simpa using h_) (seg := [.string t356]) (j := 0) hcl10 hcc10 (show 1 ≤ 2 from by decide) (x' := (⟨t356, (rd_T65 x0_1 x5_1).f1⟩ : S65)) (k65_mkM _ _ _ (⟨t356, (rd_T65 x0_1 x5_1).f1⟩ : S65) ) (fun _ hk => hk); have hx10_0 := hcc10 0 _ rfl; (try simp only [show (k65).sz = 2 from rfl, Nat.mul_one, Nat.add_zero] at hx10_0); have hf10_0 := hfr10 0; (try simp only [show (k65).sz = 2 from rfl, Nat.mul_one, Nat.add_zero] at hf10_0); clear hcl10 hcc10 hfr10 hM10) | ((with_reducible refine gate_store (t := 9) (p := 17) rfl ?_); refine store_event (t := 9) (p := 17) (v := ?vo_w11) (w1 := (w9.setCell ⟨go6, (x5_1 : Int).toNat * 2, none⟩ (.string t356))) ?hg ?ho ?hn ?hr ?_; (case ho => rfl); (case hg => rfl); (case hn => rfl); (case hr => first | (go_simp; done) | (go_simp; rfl)); intro w11 hw; have hg : w9.grownBy w11 (some go6) := (by rw [hw]; exact HP10.2); have hp_ : Kd.R k65 65 w11 w0.heap.size (fun k_ => (P0_ k_ ∨ w.heap.size ≤ k_)) (.slice (some ⟨go6, 0, none⟩) x0_1.length co8) y357 := (by rw [hw, Ny357.out]; exact HP10.1); clear HP10; replace HB := ak ((by rw [hw]; exact below_set (HB.out) GB6.out : Below w0.heap.size w0 w11)); replace HK := ak (Kept.of_grown (S := (fun k_ => P0_ k_)) hg (by repeat (first | exact HK.out | apply Kept.alloc | apply Kept.drewN | apply Kept.drew)) (fun k_ e_ => (HO_0.out.1 k_ e_))); replace HO_0 := ak (hp_); clear hg hw hp_; have p7 : 0 ≤ (x5_1 : Int) := of_decide_eq_true (by assumption); have q7 : (x5_1 : Int) < ((x0_1.length : Int) : Int) := of_decide_eq_true (by assumption); obtain ⟨ce7, hcl7, hM7, hcc7, hfr7⟩ := Kd.R_elem HO_0.out z65 (x5_1 : Int) p7 q7; obtain rfl := k65_openM hM7; have hx7_0 : w11.cell? ⟨go6, (x5_1 : Int).toNat * 2, none⟩ = some (.string ((rd_T65 y357 x5_1).f0)) := hcc7 0 _ rfl; have hx7_1 : w11.cell? ⟨go6, (x5_1 : Int).toNat * 2 + 1, none⟩ = some (.int .i64 ((rd_T65 y357 x5_1).f1)) := hcc7 1 _ rfl; have hf7_0 : w11.frozen? ⟨go6, (x5_1 : Int).toNat * 2, none⟩ = false := hfr7 0; have hf7_1 : w11.frozen? ⟨go6, (x5_1 : Int).toNat * 2 + 1, none⟩ = false := hfr7 1; clear hcl7 hcc7 hfr7 hM7; replace p7 := eq_true p7; replace q7 := eq_true q7; have HX12 := ak (show Kd.R k65 65 w11 w0.heap.size (fun k_ => (P0_ k_ ∨ w.heap.size ≤ k_)) (.slice (some ⟨go6, 0, none⟩) x0_1.length co8) y357 from (by (with_reducible repeat (first | apply Kd.R_alloc | apply Kd.R_drewN | apply Kd.R_drew)); exact HO_0.out)); obtain ⟨ce12, hcl12, hM12, hcc12, hfr12⟩ := Kd.R_elem HX12.out z65 (x5_1 : Int) (of_decide_eq_true (by assumption)) (by have h_ : (x5_1 : Int) < ((x0_1.length : Int) : Int) := of_decide_eq_true (by assumption); first | exact h_ | (have e_ := (Kd.R_reads' HO_0.out).1; omega) | simpa using h_); obtain rfl := k65_openM hM12; have HP12 := Kd.R_seg HX12.out (x5_1 : Int) (of_decide_eq_true (by assumption)) (by have h_ : (x5_1 : Int) < ((x0_1.length : Int) : Int) := of_decide_eq_true (by assumption); first | exact h_ | (have e_ := (Kd.R_reads' HO_0.out).1; omega) | simpa using h_) (seg := [.int .i64 (wrap64 (x1_1 + 1))]) (j := 1) hcl12 hcc12 (show 2 ≤ 2 from by decide) (x' := (⟨(rd_T65 y357 x5_1).f0, wrap64 (x1_1 + 1)⟩ : S65)) (k65_mkM _ _ _ (⟨(rd_T65 y357 x5_1).f0, wrap64 (x1_1 + 1)⟩ : S65) ) (fun _ hk => hk); have hx12_1 := hcc12 1 _ rfl; (try simp only [show (k65).sz = 2 from rfl, Nat.mul_one, Nat.add_zero] at hx12_1); have hf12_1 := hfr12 1; (try simp only [show (k65).sz = 2 from rfl, Nat.mul_one, Nat.add_zero] at hf12_1); clear hcl12 hcc12 hfr12 hM12) | ((with_reducible refine gate_store (t := 3) (p := 24) rfl ?_); refine store_event (t := 3) (p := 24) (v := ?vo_w13) (w1 := (w11.setCell ⟨go6, (x5_1 : Int).toNat * 2 + 1, none⟩ (.int .i64 (wrap64 (x1_1 + 1))))) ?hg ?ho ?hn ?hr ?_; (case ho => rfl); (case hg => rfl); (case hn => rfl); (case hr => first | (go_simp; done) | (go_simp; rfl)); intro w13 hw; have hg : w11.grownBy w13 (some go6) := (by rw [hw]; exact HP12.2); have hp_ : Kd.R k65 65 w13 w0.heap.size (fun k_ => (P0_ k_ ∨ w.heap.size ≤ k_)) (.slice (some ⟨go6, 0, none⟩) x0_1.length co8) y358 := (by rw [hw, Ny358.out]; exact HP12.1); clear HP12; replace HB := ak ((by rw [hw]; exact below_set (HB.out) GB6.out : Below w0.heap.size w0 w13)); replace HK := ak (Kept.of_grown (S := (fun k_ => P0_ k_)) hg (by repeat (first | exact HK.out | apply Kept.alloc | apply Kept.drewN | apply Kept.drew)) (fun k_ e_ => (HO_0.out.1 k_ e_))); replace HO_0 := ak (hp_); clear hg hw hp_))
     go_roundg k1
     case measure => have := HK1.out; omega
     case rel => exact ⟨(y358), (wrap64 ((wrap64 (x1_1 + 1)) + 1)), (wrap64 (x5_1 + 1)), (by first | rfl | (simp [*]; done)), (by first | rfl | (simp [*]; done)), H', ⟨by have := HK1.out; omega⟩, ⟨by (with_reducible repeat (first | apply Kd.R_alloc | apply Kd.R_drewN | apply Kd.R_drew)); exact HO_0.out⟩, ⟨by repeat (first | exact HK.out | apply Kept.alloc | apply Kept.drewN | apply Kept.drew)⟩, ⟨by exact hopb HB.out⟩⟩
    ·rw [if_neg c5] at H
     exact absurd H (by simp)
   ·rw [if_neg c3] at H
    have c3b0 : decide (x5_1 < (x0_1.length : Int)) = false := decide_eq_false c3
    clear c3
    simp only [Option.some.injEq, Prod.mk.injEq] at H
    obtain ⟨rfl, rfl⟩ := H
    obtain ⟨Ao14, co14, eo14⟩ := Kd.R_slice HO_0.out
    subst eo14
    go_wp2
    go_ret
    exact ⟨by first | rfl | (simp [*, errW_none, errW_some] <;> rfl), by (with_reducible repeat (first | apply Kd.R_alloc | apply Kd.R_drewN | apply Kd.R_drew)); exact HO_0.out, by exact hopb HB.out, by repeat (first | exact HK.out | apply Kept.alloc | apply Kept.drewN | apply Kept.drew)⟩

/-! ### laws_markPageS: function 11 -/
def laws_markPageS.l0 : Nat → List (S53) → Int → Int → Option (Int × (List (S53)))
 | 0, _, _, _ => none
 | k + 1, x0, x1, x5 => if x5 < (x0.length : Int) then (if 0 ≤ x5 then ((laws_markPairS.f k ((rd_T53 x0 x5).f0) x1).bind fun t => (laws_markPageS.l0 k (x0.set (x5 : Int).toNat (⟨t.2⟩ : S53)) t.1 (wrap64 (x5 + 1)))) else (none)) else (some (x1, x0))
def laws_markPageS.f (k : Nat) (l0 : List (S53)) (a1 : Int) : Option (Int × (List (S53))) := laws_markPageS.l0 k l0 a1 0
theorem laws_markPageS.mono_l : ∀ k, (∀ y0 y1 y2, LeO (laws_markPageS.l0 k y0 y1 y2) (laws_markPageS.l0 (k + 1) y0 y1 y2))
 | 0 => fun _ _ _ r h => by simp [laws_markPageS.l0] at h
 | k + 1 => by
  have ih0 := laws_markPageS.mono_l k
  ·intro y0 y1 y2
   unfold laws_markPageS.l0
   repeat' first
   | (with_reducible exact ih0 _ _ _)
   | (with_reducible exact laws_markPairS.mono _ _ _)
   | (with_reducible exact LeO.refl _)
   | (with_reducible exact LeO.none _)
   | (with_reducible refine LeO.ite ?_ ?_)
   | (with_reducible refine LeO.bind ?_ (fun _ => ?_))
theorem laws_markPageS.mono : ∀ a0 a1 k, LeO (laws_markPageS.f k a0 a1) (laws_markPageS.f (k + 1) a0 a1) := by
 intro a0 a1 k
 exact laws_markPageS.mono_l k _ _ _
theorem laws_markPageS.calls (k : Nat) (P0_ : Nat → Prop) (u9000_ : Value) (l0 : List (S53)) (a1 : Int) (r1 : Int) (r2 : List (S53)) (w0 w : World) (hB : Below w0.heap.size w0 w) (ho0 : Kd.S k53 53 w w0.heap.size P0_ u9000_ l0) (h : laws_markPageS.f k l0 a1 = some (r1, r2)) :
  Calls Try.prog 11 #[u9000_, .int .i64 a1] w fun e w' => e = .returned (.int .i64 r1) ∧ Kd.S k53 53 w' w0.heap.size P0_ u9000_ r2 ∧ Below w0.heap.size w0 w' ∧ Kept w w' P0_ := by
 have HO0 := ak ho0
 have HK := ak (Kept.refl w P0_)
 have HB := ak hB
 clear hB ho0
 have H' := ak (show (laws_markPageS.l0 k l0 a1 0) = some (r1, r2) from h)
 clear h
 go_enter Try.func11, Try.ntmps11
 go_wp2
 go_loopg [1, 5] k (fun kq v1 v5 w' => ∃ (x0_1 : List (S53)) (x1_1 : Int) (x5_1 : Int), v1 = .int .i64 x1_1 ∧ v5 = .int .i64 x5_1 ∧ Aside0 (laws_markPageS.l0 kq x0_1 x1_1 x5_1 = some (r1, r2)) ∧ Aside0 (kq ≤ k) ∧ Aside0 (Kd.S k53 53 w' w0.heap.size P0_ u9000_ x0_1) ∧ Aside0 (Kept w w' P0_) ∧ Aside0 (Below w0.heap.size w0 w'))
 case atStart => exact ⟨(l0), (a1), (0), (by first | rfl | (simp [*]; done)), (by first | rfl | (simp [*]; done)), H', ⟨Nat.le_refl _⟩, ⟨by (with_reducible repeat (first | apply Kd.S_alloc | apply Kd.S_drewN | apply Kd.S_drew)); exact HO0.out⟩, ⟨by repeat (first | exact HK.out | apply Kept.alloc | apply Kept.drewN | apply Kept.drew)⟩, ⟨by exact hopb HB.out⟩⟩
 case round =>
  clear H'
  try clear p2
  obtain ⟨x0_1, x1_1, x5_1, rfl, rfl, HA, HK1, HO_0, HK, HB⟩ := hrel
  cases gk with
  | zero => exact absurd HA.out (by simp [laws_markPageS.l0])
  | succ k1 =>
   have H := HA.out
   clear HA
   simp only [laws_markPageS.l0] at H
   by_cases c3 : x5_1 < (x0_1.length : Int)
   ·rw [if_pos c3] at H
    have c3b0 : decide (x5_1 < (x0_1.length : Int)) = true := decide_eq_true c3
    clear c3
    by_cases c5 : 0 ≤ x5_1
    ·rw [if_pos c5] at H
     have c5b0 : decide (0 ≤ x5_1) = true := decide_eq_true c5
     clear c5
     replace H := Option.bind_eq_some_iff.mp H
     obtain ⟨⟨t1, t2⟩, A40, H⟩ := H
     have A4 := ak A40
     clear A40
     obtain ⟨y170, hy170⟩ : ∃ y_ : List (S53), y_ = (x0_1.set (x5_1 : Int).toNat (⟨t2⟩ : S53)) := ⟨_, rfl⟩
     replace H : (laws_markPageS.l0 k1 y170 t1 (wrap64 (x5_1 + 1))) = some (r1, r2) := by rw [hy170]; exact H
     have Ny170 := ak hy170
     clear hy170
     have H' := ak H
     clear H
     have p6 : 0 ≤ (x5_1 : Int) := of_decide_eq_true (by assumption)
     have q6 : (x5_1 : Int) < ((x0_1.length : Int) : Int) := of_decide_eq_true (by assumption)
     obtain ⟨go6, co6, eo6, gb6, gl6, cl6, HG6⟩ := Kd.S_form HO_0.out (by omega)
     subst eo6
     obtain ⟨oki, c, hcl, hM, hcc, hoki, hH⟩ := Kd.S_lend HO_0.out z53 x5_1 p6 (by exact q6)
     obtain ⟨v0, rfl, hv0⟩ := k53_openM hM
     obtain ⟨Ai, ci, ei⟩ := Kd.R_slice hv0
     subst ei
     replace hv0 : Kd.R k65 65 _ w0.heap.size oki (.slice Ai ((rd_T53 x0_1 x5_1).f0).length ci) ((rd_T53 x0_1 x5_1).f0) := hv0
     have hx6_ := hcc 0 _ rfl
     simp only [show (k53).sz = 1 from rfl, Nat.mul_one, Nat.add_zero] at hx6_
     have hx6 : World.cell? _ ⟨go6, (x5_1 : Int).toNat, none⟩ = some (.slice Ai ((rd_T53 x0_1 x5_1).f0).length ci) := hx6_
     clear hx6_
     clear hcl hM hcc gb6 gl6 HG6
     have HV := ak hv0
     have HH := ak hH
     have HI := ak hoki
     clear hv0 hH hoki
     replace p6 := eq_true p6
     replace q6 := eq_true q6
     go_wp2_with (first | ((with_reducible refine gate_callee (f := 36) rfl ?_); refine goesL_ (some 18) rfl rfl Try.func36 (by kernel_rfl) rfl #[.slice Ai ((rd_T53 x0_1 x5_1).f0).length ci, .int .i64 x1_1] rfl (by (try simp only [List.map_toArray, List.map_cons, List.map_nil]); first | done | rfl | (simp only [List.length_drop, List.length_take]; rfl)) ?_; (refine (laws_markPairS.calls k1 oki _ ((rd_T53 x0_1 x5_1).f0) x1_1 t1 t2 w0 _ HB.out HV.out A4.out).mono ?_); rintro e w9 ⟨rfl, hy, hb, hk⟩; refine ⟨_, rfl, ?_⟩; have n0_ := ak (show Kd.S k53 53 w9 w0.heap.size P0_ _ y170 from (by rw [Ny170.out]; exact Kd.H_back (Kd.H_step HH.out (fun k_ _ hn_ hlt_ => hk.2 k_ hlt_ hn_)) (k53_mkM w9 w0.heap.size oki (⟨t2⟩ : S53) (Kd.R_mono (Kd.R_tight rfl hy) (fun k_ e_ => HV.out.1 k_ e_.symm))) (fun _ h_ => h_))); have n1_ := ak (Kept.then_ HK.out hk (fun k_ h_ => .inl (HI.out k_ h_).1)); clear HO_0 HK HB HH HV; have HO_0 := n0_; have HK := n1_; have HB := ak hb; clear n0_ n1_ hy hb hk))
     go_roundg k1
     case measure => have := HK1.out; omega
     case rel => exact ⟨(y170), t1, (wrap64 (x5_1 + 1)), (by first | rfl | (simp [*]; done)), (by first | rfl | (simp [*]; done)), H', ⟨by have := HK1.out; omega⟩, ⟨by (with_reducible repeat (first | apply Kd.S_alloc | apply Kd.S_drewN | apply Kd.S_drew)); exact HO_0.out⟩, ⟨by repeat (first | exact HK.out | apply Kept.alloc | apply Kept.drewN | apply Kept.drew)⟩, ⟨by exact hopb HB.out⟩⟩
    ·rw [if_neg c5] at H
     exact absurd H (by simp)
   ·rw [if_neg c3] at H
    have c3b0 : decide (x5_1 < (x0_1.length : Int)) = false := decide_eq_false c3
    clear c3
    simp only [Option.some.injEq, Prod.mk.injEq] at H
    obtain ⟨rfl, rfl⟩ := H
    obtain ⟨Ao14, co14, eo14⟩ := Kd.S_slice HO_0.out
    subst eo14
    go_wp2
    go_ret
    exact ⟨by first | rfl | (simp [*, errW_none, errW_some] <;> rfl), by (with_reducible repeat (first | apply Kd.S_alloc | apply Kd.S_drewN | apply Kd.S_drew)); exact HO_0.out, by exact hopb HB.out, by repeat (first | exact HK.out | apply Kept.alloc | apply Kept.drewN | apply Kept.drew)⟩

/-! ### laws_heldPairS: function 37 -/
def laws_heldPairS.l0 : Nat → List (S65) → Int → Int → Option (Int)
 | 0, _, _, _ => none
 | k + 1, x0, x1, x5 => if x5 < (x0.length : Int) then (if 0 ≤ x5 then ((laws_markText.f k x1).bind fun t360 => (if ((rd_T65 x0 x5).f0).toList = t360.toList then (if ((rd_T65 x0 x5).f1) = (wrap64 (x1 + 1)) then (laws_heldPairS.l0 k x0 (wrap64 ((wrap64 (x1 + 1)) + 1)) (wrap64 (x5 + 1))) else (some (-1))) else (some (-1)))) else (none)) else (some x1)
def laws_heldPairS.f (k : Nat) (l0 : List (S65)) (a1 : Int) : Option (Int) := laws_heldPairS.l0 k l0 a1 0
theorem laws_heldPairS.mono_l : ∀ k, (∀ y0 y1 y2, LeO (laws_heldPairS.l0 k y0 y1 y2) (laws_heldPairS.l0 (k + 1) y0 y1 y2))
 | 0 => fun _ _ _ r h => by simp [laws_heldPairS.l0] at h
 | k + 1 => by
  have ih0 := laws_heldPairS.mono_l k
  ·intro y0 y1 y2
   unfold laws_heldPairS.l0
   repeat' first
   | (with_reducible exact ih0 _ _ _)
   | (with_reducible exact laws_markText.mono _ _)
   | (with_reducible exact LeO.refl _)
   | (with_reducible exact LeO.none _)
   | (with_reducible refine LeO.ite ?_ ?_)
   | (with_reducible refine LeO.bind ?_ (fun _ => ?_))
   | exact ih0 _ _ _
   | exact LeO.none _
   | refine LeO.ite ?_ ?_
   | refine LeO.bind ?_ (fun _ => ?_)
theorem laws_heldPairS.mono : ∀ a0 a1 k, LeO (laws_heldPairS.f k a0 a1) (laws_heldPairS.f (k + 1) a0 a1) := by
 intro a0 a1 k
 have ih0 := laws_heldPairS.mono_l k
 unfold laws_heldPairS.f
 repeat' first
   | (with_reducible exact ih0 _ _ _)
   | (with_reducible exact laws_markText.mono _ _)
   | (with_reducible exact LeO.refl _)
   | (with_reducible exact LeO.none _)
   | (with_reducible refine LeO.ite ?_ ?_)
   | (with_reducible refine LeO.bind ?_ (fun _ => ?_))
   | exact ih0 _ _ _
   | exact LeO.none _
   | refine LeO.ite ?_ ?_
   | refine LeO.bind ?_ (fun _ => ?_)
def laws_heldPairS.T4 : Bool × List (List Nat × List Nat) := (true, [([], []), ([], []), ([0, 1], [0, 1]), ([2], [2]), ([3], [3]), ([], []), ([5], [5]), ([4, 6], [4, 6])])
def laws_heldPairS.B4 : List Nat := [0, 0, 3, 7, 15, 0, 32, 127]
theorem laws_heldPairS.tab4 : rtab .any (opsOf Try.f37 4) = laws_heldPairS.T4 := by kernel_rfl
theorem laws_heldPairS.bits4 : waitsOk laws_heldPairS.T4.2 laws_heldPairS.B4 = true := by kernel_rfl
theorem laws_heldPairS.calls (k : Nat) (A0 : Option Addr) (c0 : Nat) (l0 : List (S65)) (a1 : Int) (r : Int) (w : World) (hr0 : Kd.C k65 w A0 l0.length l0) (hc0 : l0.length ≤ c0) (h : laws_heldPairS.f k l0 a1 = some r) :
  Calls Try.prog 37 #[.slice A0 l0.length c0, .int .i64 a1] w fun e w' => e = .returned (.int .i64 r) ∧ Below w.heap.size w w' := by
 have HR0 := ak hr0
 have HC0 := ak hc0
 clear hr0 hc0
 have HB := ak (Below.refl w.heap.size w)
 have H : (laws_heldPairS.l0 k l0 a1 0) = some r := h
 clear h
 have H' := ak H
 clear H
 go_enter Try.func37, Try.ntmps37
 go_wp2
 go_loopg [1, 5] k (fun kq v1 v5 w' => ∃ (x1_1 : Int) (x5_1 : Int), v1 = .int .i64 x1_1 ∧ v5 = .int .i64 x5_1 ∧ Aside0 (laws_heldPairS.l0 kq l0 x1_1 x5_1 = some r) ∧ Aside0 (kq ≤ k) ∧ Aside0 (Below w.heap.size w w'))
 case atStart => exact ⟨(a1), (0), (by first | rfl | (simp [*]; done)), (by first | rfl | (simp [*]; done)), H', ⟨Nat.le_refl _⟩, ⟨by exact hopb HB.out⟩⟩
 case round =>
  clear H'
  try clear p2
  obtain ⟨x1_1, x5_1, rfl, rfl, HA, HK1, HB⟩ := hrel
  cases gk with
  | zero => exact absurd HA.out (by simp [laws_heldPairS.l0])
  | succ k1 =>
   have H := HA.out
   clear HA
   simp only [laws_heldPairS.l0] at H
   by_cases c3 : x5_1 < (l0.length : Int)
   ·rw [if_pos c3] at H
    have c3b0 : decide (x5_1 < (l0.length : Int)) = true := decide_eq_true c3
    clear c3
    by_cases c4 : 0 ≤ x5_1
    ·rw [if_pos c4] at H
     have c4b0 : decide (0 ≤ x5_1) = true := decide_eq_true c4
     clear c4
     replace H := Option.bind_eq_some_iff.mp H
     obtain ⟨t360, A50, H⟩ := H
     try dsimp only at H
     have A5 := ak A50
     clear A50
     by_cases c6 : ((rd_T65 l0 x5_1).f0).toList = t360.toList
     ·rw [if_pos c6] at H
      have c6b0 : (((rd_T65 l0 x5_1).f0).toList == t360.toList) = true := beq_iff_eq.mpr c6
      have c6b1 : (((rd_T65 l0 x5_1).f0).toList != t360.toList) = false := bne_eq_false_iff_eq.mpr c6
      clear c6
      by_cases c7 : ((rd_T65 l0 x5_1).f1) = (wrap64 (x1_1 + 1))
      ·rw [if_pos c7] at H
       have c7b0 : (((rd_T65 l0 x5_1).f1) == (wrap64 (x1_1 + 1))) = true := beq_iff_eq.mpr c7
       have c7b1 : (((rd_T65 l0 x5_1).f1) != (wrap64 (x1_1 + 1))) = false := bne_eq_false_iff_eq.mpr c7
       clear c7
       have H' := ak H
       clear H
       try go_wp2
       replace HB := ak (below_drew1 HB.out)
       have p359 : 0 ≤ (x5_1 : Int) := of_decide_eq_true (by assumption)
       have q359 : x5_1 < (l0.length : Int) := of_decide_eq_true (by assumption)
       obtain ⟨ad359, e359, hx359_0, hx359_1⟩ := at_T65 HR0.out x5_1 p359 q359
       have hw359_1 := hx359_1
       have hw359_0 := hx359_0
       cases e359
       replace hx359_0 := bc HB.out hx359_0
       replace hx359_1 := bc HB.out hx359_1
       replace p359 := eq_true p359
       replace q359 := eq_true q359
       refine start_ (n := 8) (S := fun w' => w'.cell? (ad359.add ((x5_1).toNat * 2)) = some (.string ((rd_T65 l0 x5_1).f0)) ∧ w'.cell? ⟨(ad359.add ((x5_1).toNat * 2)).block, (ad359.add ((x5_1).toNat * 2)).off + 1, none⟩ = some (.int .i64 ((rd_T65 l0 x5_1).f1))) (ds := []) #[U,U,U,U,U,U,U,U] (by kernel_rfl) rfl rfl ⟨(bc HB.out hw359_0), (bc HB.out hw359_1)⟩ (fun hHeld => ?_); refine with_tabW laws_heldPairS.tab4 laws_heldPairS.bits4 (fun HT_ HW_ => ?_)
       generalize wr.drew = w8 at HB hx359_0 hx359_1 hHeld ⊢
       refine pure_ (i := 0) (N := some 12) (v := ?_) (a' := ?_) #[T,U,U,U,U,U,U,U] rfl rfl (any_of HT_.out (by kernel_rfl)) (fun _ _ _ h => h) (Or.inl ⟨by rfl, ?_⟩) ?_ ?_
       rotate_left
       ·intro w'
        go_simp
        with_reducible rfl
       rotate_left
       ·simp only [Act.put, lT, lZ, lS, i64_w, i32_w]
        rfl
       refine pure_ (i := 1) (N := some 13) (v := ?_) (a' := ?_) #[T,T,U,U,U,U,U,U] rfl rfl (any_of HT_.out (by kernel_rfl)) (fun _ _ _ h => h) (Or.inl ⟨by rfl, ?_⟩) ?_ ?_
       rotate_left
       ·intro w'
        go_simp
        with_reducible rfl
       rotate_left
       ·simp only [Act.put, lT, lZ, lS, i64_w, i32_w]
        rfl
       refine pure_ (i := 2) (N := some 14) (v := ?_) (a' := ?_) #[T,T,T,U,U,U,U,U] rfl rfl (any_of HT_.out (by kernel_rfl)) (fun _ _ _ h => h) (Or.inl ⟨by rfl, ?_⟩) ?_ ?_
       rotate_left
       ·intro w'
        go_simp
        with_reducible rfl
       rotate_left
       ·simp only [Act.put, lT, lZ, lS, i64_w, i32_w]
        rfl
       refine pure_ (i := 3) (N := some 15) (v := ?_) (a' := ?_) #[T,T,T,T,U,U,U,U] rfl rfl (any_of HT_.out (by kernel_rfl)) (fun _ _ _ h => h) (Or.inl ⟨by rfl, ?_⟩) ?_ ?_
       rotate_left
       ·intro w'
        go_simp
        with_reducible rfl
       rotate_left
       ·simp only [Act.put, lT, lZ, lS, i64_w, i32_w]
        rfl
       refine pure_ (i := 5) (N := some 17) (v := ?_) (a' := ?_) #[T,T,T,T,U,T,U,U] rfl rfl (any_of HT_.out (by kernel_rfl)) (fun _ _ _ h => h) (Or.inl ⟨by rfl, ?_⟩) ?_ ?_
       rotate_left
       ·intro w'
        go_simp
        with_reducible rfl
       rotate_left
       ·simp only [Act.put, lT, lZ, lS, i64_w, i32_w]
        rfl
       refine take_ (i := 4) (N := some 16) (v := ?_) (a' := ?_) #[T,T,T,T,T,T,U,U] rfl rfl (take_ofW HT_.out HW_.out (by kernel_rfl)) (fun _ _ _ h => h) (Or.inl ⟨by rfl, ?_⟩) hHeld ?_ ?_
       rotate_left
       ·rintro w' ⟨s0, s1⟩
        go_simp
        with_reducible rfl
       rotate_left
       ·simp only [Act.put, lT, lZ, lS, i64_w, i32_w]
        rfl
       refine one_ (i := 6) (N := some 18) #[T,T,T,T,T,T,T,U] rfl rfl (one_of HT_.out (by kernel_rfl)) (by decide) (fun K hK => ?_)
       refine goes_ Try.func59 (by kernel_rfl) rfl #[.int .i64 x1_1] (by rfl) rfl rfl (by (try simp only [List.map_toArray, List.map_cons, List.map_nil]); first | done | rfl | (simp only [List.length_drop, List.length_take]; rfl)) ?_
       with_reducible refine (laws_markText.calls k1 x1_1 t360 _ A5.out).mono ?_
       rintro e w9 ⟨rfl, hb⟩
       refine ⟨_, rfl, ?_⟩
       replace HB := ak (below_step (by exact hopb HB.out) hb)
       (try clear hb)
       (try clear hb2)
       (try clear hk)
       (try clear hi)
       refine hK.out _ _ ⟨(bc HB.out hw359_0), (bc HB.out hw359_1)⟩ (fun hHeld => ?_)
       clear hK K
       refine norm_ (a' := ?_) ?_ ?_
       rotate_left
       ·show Act.put _ (some 18) _ = _
        simp only [Act.put, lT, lZ, lS, i64_w, i32_w]
        rfl
       refine pure_ (i := 7) (N := some 19) (v := ?_) (a' := ?_) #[T,T,T,T,T,T,T,T] rfl rfl (any_of HT_.out (by kernel_rfl)) (fun _ _ _ h => h) (Or.inl ⟨by rfl, ?_⟩) ?_ ?_
       rotate_left
       ·intro w'
        go_simp
        with_reducible rfl
       rotate_left
       ·simp only [Act.put, lT, lZ, lS, i64_w, i32_w]
        rfl
       refine done_ (done_of HT_.out (by kernel_rfl)) ?_
       have p361 : 0 ≤ (x5_1 : Int) := of_decide_eq_true (by assumption)
       have q361 : x5_1 < (l0.length : Int) := of_decide_eq_true (by assumption)
       obtain ⟨ad361, e361, hx361_0, hx361_1⟩ := at_T65 HR0.out x5_1 p361 q361
       obtain rfl : ad359 = ad361 := (by injection e361)
       replace hx361_0 := bc HB.out hx361_0
       replace hx361_1 := bc HB.out hx361_1
       replace p361 := eq_true p361
       replace q361 := eq_true q361
       try go_wp2
       go_roundg k1
       case measure => have := HK1.out; omega
       case rel => exact ⟨(wrap64 ((wrap64 (x1_1 + 1)) + 1)), (wrap64 (x5_1 + 1)), (by first | rfl | (simp [*]; done)), (by first | rfl | (simp [*]; done)), H', ⟨by have := HK1.out; omega⟩, ⟨by exact hopb HB.out⟩⟩
      ·rw [if_neg c7] at H
       have c7b0 : (((rd_T65 l0 x5_1).f1) == (wrap64 (x1_1 + 1))) = false := beq_eq_false_iff_ne.mpr c7
       have c7b1 : (((rd_T65 l0 x5_1).f1) != (wrap64 (x1_1 + 1))) = true := bne_iff_ne.mpr c7
       obtain rfl := Option.some.inj H
       try go_wp2
       replace HB := ak (below_drew1 HB.out)
       have p359 : 0 ≤ (x5_1 : Int) := of_decide_eq_true (by assumption)
       have q359 : x5_1 < (l0.length : Int) := of_decide_eq_true (by assumption)
       obtain ⟨ad359, e359, hx359_0, hx359_1⟩ := at_T65 HR0.out x5_1 p359 q359
       have hw359_1 := hx359_1
       have hw359_0 := hx359_0
       cases e359
       replace hx359_0 := bc HB.out hx359_0
       replace hx359_1 := bc HB.out hx359_1
       replace p359 := eq_true p359
       replace q359 := eq_true q359
       refine start_ (n := 8) (S := fun w' => w'.cell? (ad359.add ((x5_1).toNat * 2)) = some (.string ((rd_T65 l0 x5_1).f0)) ∧ w'.cell? ⟨(ad359.add ((x5_1).toNat * 2)).block, (ad359.add ((x5_1).toNat * 2)).off + 1, none⟩ = some (.int .i64 ((rd_T65 l0 x5_1).f1))) (ds := []) #[U,U,U,U,U,U,U,U] (by kernel_rfl) rfl rfl ⟨(bc HB.out hw359_0), (bc HB.out hw359_1)⟩ (fun hHeld => ?_); refine with_tabW laws_heldPairS.tab4 laws_heldPairS.bits4 (fun HT_ HW_ => ?_)
       generalize wr.drew = w10 at HB hx359_0 hx359_1 hHeld ⊢
       refine pure_ (i := 0) (N := some 12) (v := ?_) (a' := ?_) #[T,U,U,U,U,U,U,U] rfl rfl (any_of HT_.out (by kernel_rfl)) (fun _ _ _ h => h) (Or.inl ⟨by rfl, ?_⟩) ?_ ?_
       rotate_left
       ·intro w'
        go_simp
        with_reducible rfl
       rotate_left
       ·simp only [Act.put, lT, lZ, lS, i64_w, i32_w]
        rfl
       refine pure_ (i := 1) (N := some 13) (v := ?_) (a' := ?_) #[T,T,U,U,U,U,U,U] rfl rfl (any_of HT_.out (by kernel_rfl)) (fun _ _ _ h => h) (Or.inl ⟨by rfl, ?_⟩) ?_ ?_
       rotate_left
       ·intro w'
        go_simp
        with_reducible rfl
       rotate_left
       ·simp only [Act.put, lT, lZ, lS, i64_w, i32_w]
        rfl
       refine pure_ (i := 2) (N := some 14) (v := ?_) (a' := ?_) #[T,T,T,U,U,U,U,U] rfl rfl (any_of HT_.out (by kernel_rfl)) (fun _ _ _ h => h) (Or.inl ⟨by rfl, ?_⟩) ?_ ?_
       rotate_left
       ·intro w'
        go_simp
        with_reducible rfl
       rotate_left
       ·simp only [Act.put, lT, lZ, lS, i64_w, i32_w]
        rfl
       refine pure_ (i := 3) (N := some 15) (v := ?_) (a' := ?_) #[T,T,T,T,U,U,U,U] rfl rfl (any_of HT_.out (by kernel_rfl)) (fun _ _ _ h => h) (Or.inl ⟨by rfl, ?_⟩) ?_ ?_
       rotate_left
       ·intro w'
        go_simp
        with_reducible rfl
       rotate_left
       ·simp only [Act.put, lT, lZ, lS, i64_w, i32_w]
        rfl
       refine pure_ (i := 5) (N := some 17) (v := ?_) (a' := ?_) #[T,T,T,T,U,T,U,U] rfl rfl (any_of HT_.out (by kernel_rfl)) (fun _ _ _ h => h) (Or.inl ⟨by rfl, ?_⟩) ?_ ?_
       rotate_left
       ·intro w'
        go_simp
        with_reducible rfl
       rotate_left
       ·simp only [Act.put, lT, lZ, lS, i64_w, i32_w]
        rfl
       refine take_ (i := 4) (N := some 16) (v := ?_) (a' := ?_) #[T,T,T,T,T,T,U,U] rfl rfl (take_ofW HT_.out HW_.out (by kernel_rfl)) (fun _ _ _ h => h) (Or.inl ⟨by rfl, ?_⟩) hHeld ?_ ?_
       rotate_left
       ·rintro w' ⟨s0, s1⟩
        go_simp
        with_reducible rfl
       rotate_left
       ·simp only [Act.put, lT, lZ, lS, i64_w, i32_w]
        rfl
       refine one_ (i := 6) (N := some 18) #[T,T,T,T,T,T,T,U] rfl rfl (one_of HT_.out (by kernel_rfl)) (by decide) (fun K hK => ?_)
       refine goes_ Try.func59 (by kernel_rfl) rfl #[.int .i64 x1_1] (by rfl) rfl rfl (by (try simp only [List.map_toArray, List.map_cons, List.map_nil]); first | done | rfl | (simp only [List.length_drop, List.length_take]; rfl)) ?_
       with_reducible refine (laws_markText.calls k1 x1_1 t360 _ A5.out).mono ?_
       rintro e w11 ⟨rfl, hb⟩
       refine ⟨_, rfl, ?_⟩
       replace HB := ak (below_step (by exact hopb HB.out) hb)
       (try clear hb)
       (try clear hb2)
       (try clear hk)
       (try clear hi)
       refine hK.out _ _ ⟨(bc HB.out hw359_0), (bc HB.out hw359_1)⟩ (fun hHeld => ?_)
       clear hK K
       refine norm_ (a' := ?_) ?_ ?_
       rotate_left
       ·show Act.put _ (some 18) _ = _
        simp only [Act.put, lT, lZ, lS, i64_w, i32_w]
        rfl
       refine pure_ (i := 7) (N := some 19) (v := ?_) (a' := ?_) #[T,T,T,T,T,T,T,T] rfl rfl (any_of HT_.out (by kernel_rfl)) (fun _ _ _ h => h) (Or.inl ⟨by rfl, ?_⟩) ?_ ?_
       rotate_left
       ·intro w'
        go_simp
        with_reducible rfl
       rotate_left
       ·simp only [Act.put, lT, lZ, lS, i64_w, i32_w]
        rfl
       refine done_ (done_of HT_.out (by kernel_rfl)) ?_
       have p361 : 0 ≤ (x5_1 : Int) := of_decide_eq_true (by assumption)
       have q361 : x5_1 < (l0.length : Int) := of_decide_eq_true (by assumption)
       obtain ⟨ad361, e361, hx361_0, hx361_1⟩ := at_T65 HR0.out x5_1 p361 q361
       obtain rfl : ad359 = ad361 := (by injection e361)
       replace hx361_0 := bc HB.out hx361_0
       replace hx361_1 := bc HB.out hx361_1
       replace p361 := eq_true p361
       replace q361 := eq_true q361
       try go_wp2
       go_ret
       exact ⟨by first | rfl | (simp [*, errW_none, errW_some] <;> rfl), by exact hopb HB.out⟩
     ·rw [if_neg c6] at H
      have c6b0 : (((rd_T65 l0 x5_1).f0).toList == t360.toList) = false := beq_eq_false_iff_ne.mpr c6
      have c6b1 : (((rd_T65 l0 x5_1).f0).toList != t360.toList) = true := bne_iff_ne.mpr c6
      obtain rfl := Option.some.inj H
      try go_wp2
      replace HB := ak (below_drew1 HB.out)
      have p359 : 0 ≤ (x5_1 : Int) := of_decide_eq_true (by assumption)
      have q359 : x5_1 < (l0.length : Int) := of_decide_eq_true (by assumption)
      obtain ⟨ad359, e359, hx359_0, hx359_1⟩ := at_T65 HR0.out x5_1 p359 q359
      have hw359_1 := hx359_1
      have hw359_0 := hx359_0
      cases e359
      replace hx359_0 := bc HB.out hx359_0
      replace hx359_1 := bc HB.out hx359_1
      replace p359 := eq_true p359
      replace q359 := eq_true q359
      refine start_ (n := 8) (S := fun w' => w'.cell? (ad359.add ((x5_1).toNat * 2)) = some (.string ((rd_T65 l0 x5_1).f0)) ∧ w'.cell? ⟨(ad359.add ((x5_1).toNat * 2)).block, (ad359.add ((x5_1).toNat * 2)).off + 1, none⟩ = some (.int .i64 ((rd_T65 l0 x5_1).f1))) (ds := []) #[U,U,U,U,U,U,U,U] (by kernel_rfl) rfl rfl ⟨(bc HB.out hw359_0), (bc HB.out hw359_1)⟩ (fun hHeld => ?_); refine with_tabW laws_heldPairS.tab4 laws_heldPairS.bits4 (fun HT_ HW_ => ?_)
      generalize wr.drew = w12 at HB hx359_0 hx359_1 hHeld ⊢
      refine pure_ (i := 0) (N := some 12) (v := ?_) (a' := ?_) #[T,U,U,U,U,U,U,U] rfl rfl (any_of HT_.out (by kernel_rfl)) (fun _ _ _ h => h) (Or.inl ⟨by rfl, ?_⟩) ?_ ?_
      rotate_left
      ·intro w'
       go_simp
       with_reducible rfl
      rotate_left
      ·simp only [Act.put, lT, lZ, lS, i64_w, i32_w]
       rfl
      refine pure_ (i := 1) (N := some 13) (v := ?_) (a' := ?_) #[T,T,U,U,U,U,U,U] rfl rfl (any_of HT_.out (by kernel_rfl)) (fun _ _ _ h => h) (Or.inl ⟨by rfl, ?_⟩) ?_ ?_
      rotate_left
      ·intro w'
       go_simp
       with_reducible rfl
      rotate_left
      ·simp only [Act.put, lT, lZ, lS, i64_w, i32_w]
       rfl
      refine pure_ (i := 2) (N := some 14) (v := ?_) (a' := ?_) #[T,T,T,U,U,U,U,U] rfl rfl (any_of HT_.out (by kernel_rfl)) (fun _ _ _ h => h) (Or.inl ⟨by rfl, ?_⟩) ?_ ?_
      rotate_left
      ·intro w'
       go_simp
       with_reducible rfl
      rotate_left
      ·simp only [Act.put, lT, lZ, lS, i64_w, i32_w]
       rfl
      refine pure_ (i := 3) (N := some 15) (v := ?_) (a' := ?_) #[T,T,T,T,U,U,U,U] rfl rfl (any_of HT_.out (by kernel_rfl)) (fun _ _ _ h => h) (Or.inl ⟨by rfl, ?_⟩) ?_ ?_
      rotate_left
      ·intro w'
       go_simp
       with_reducible rfl
      rotate_left
      ·simp only [Act.put, lT, lZ, lS, i64_w, i32_w]
       rfl
      refine pure_ (i := 5) (N := some 17) (v := ?_) (a' := ?_) #[T,T,T,T,U,T,U,U] rfl rfl (any_of HT_.out (by kernel_rfl)) (fun _ _ _ h => h) (Or.inl ⟨by rfl, ?_⟩) ?_ ?_
      rotate_left
      ·intro w'
       go_simp
       with_reducible rfl
      rotate_left
      ·simp only [Act.put, lT, lZ, lS, i64_w, i32_w]
       rfl
      refine take_ (i := 4) (N := some 16) (v := ?_) (a' := ?_) #[T,T,T,T,T,T,U,U] rfl rfl (take_ofW HT_.out HW_.out (by kernel_rfl)) (fun _ _ _ h => h) (Or.inl ⟨by rfl, ?_⟩) hHeld ?_ ?_
      rotate_left
      ·rintro w' ⟨s0, s1⟩
       go_simp
       with_reducible rfl
      rotate_left
      ·simp only [Act.put, lT, lZ, lS, i64_w, i32_w]
       rfl
      refine one_ (i := 6) (N := some 18) #[T,T,T,T,T,T,T,U] rfl rfl (one_of HT_.out (by kernel_rfl)) (by decide) (fun K hK => ?_)
      refine goes_ Try.func59 (by kernel_rfl) rfl #[.int .i64 x1_1] (by rfl) rfl rfl (by (try simp only [List.map_toArray, List.map_cons, List.map_nil]); first | done | rfl | (simp only [List.length_drop, List.length_take]; rfl)) ?_
      with_reducible refine (laws_markText.calls k1 x1_1 t360 _ A5.out).mono ?_
      rintro e w13 ⟨rfl, hb⟩
      refine ⟨_, rfl, ?_⟩
      replace HB := ak (below_step (by exact hopb HB.out) hb)
      (try clear hb)
      (try clear hb2)
      (try clear hk)
      (try clear hi)
      refine hK.out _ _ ⟨(bc HB.out hw359_0), (bc HB.out hw359_1)⟩ (fun hHeld => ?_)
      clear hK K
      refine norm_ (a' := ?_) ?_ ?_
      rotate_left
      ·show Act.put _ (some 18) _ = _
       simp only [Act.put, lT, lZ, lS, i64_w, i32_w]
       rfl
      refine pure_ (i := 7) (N := some 19) (v := ?_) (a' := ?_) #[T,T,T,T,T,T,T,T] rfl rfl (any_of HT_.out (by kernel_rfl)) (fun _ _ _ h => h) (Or.inl ⟨by rfl, ?_⟩) ?_ ?_
      rotate_left
      ·intro w'
       go_simp
       with_reducible rfl
      rotate_left
      ·simp only [Act.put, lT, lZ, lS, i64_w, i32_w]
       rfl
      refine done_ (done_of HT_.out (by kernel_rfl)) ?_
      try go_wp2
      go_ret
      exact ⟨by first | rfl | (simp [*, errW_none, errW_some] <;> rfl), by exact hopb HB.out⟩
    ·rw [if_neg c4] at H
     exact absurd H (by simp)
   ·rw [if_neg c3] at H
    have c3b0 : decide (x5_1 < (l0.length : Int)) = false := decide_eq_false c3
    clear c3
    obtain rfl := Option.some.inj H
    go_wp2
    go_ret
    exact ⟨by first | rfl | (simp [*, errW_none, errW_some] <;> rfl), by exact hopb HB.out⟩

/-! ### laws_heldPageS: function 12 -/
def laws_heldPageS.l0 : Nat → List (S53) → Int → Int → Option (Int)
 | 0, _, _, _ => none
 | k + 1, x0, x1, x5 => if x5 < (x0.length : Int) then (if 0 ≤ x5 then ((laws_heldPairS.f k ((rd_T53 x0 x5).f0) x1).bind fun t363 => (if t363 < 0 then (some (-1)) else (laws_heldPageS.l0 k x0 t363 (wrap64 (x5 + 1))))) else (none)) else (some x1)
def laws_heldPageS.f (k : Nat) (l0 : List (S53)) (a1 : Int) : Option (Int) := laws_heldPageS.l0 k l0 a1 0
theorem laws_heldPageS.mono_l : ∀ k, (∀ y0 y1 y2, LeO (laws_heldPageS.l0 k y0 y1 y2) (laws_heldPageS.l0 (k + 1) y0 y1 y2))
 | 0 => fun _ _ _ r h => by simp [laws_heldPageS.l0] at h
 | k + 1 => by
  have ih0 := laws_heldPageS.mono_l k
  ·intro y0 y1 y2
   unfold laws_heldPageS.l0
   repeat' first
   | (with_reducible exact ih0 _ _ _)
   | (with_reducible exact laws_heldPairS.mono _ _ _)
   | (with_reducible exact LeO.refl _)
   | (with_reducible exact LeO.none _)
   | (with_reducible refine LeO.ite ?_ ?_)
   | (with_reducible refine LeO.bind ?_ (fun _ => ?_))
   | exact ih0 _ _ _
   | exact LeO.none _
   | refine LeO.ite ?_ ?_
   | refine LeO.bind ?_ (fun _ => ?_)
theorem laws_heldPageS.mono : ∀ a0 a1 k, LeO (laws_heldPageS.f k a0 a1) (laws_heldPageS.f (k + 1) a0 a1) := by
 intro a0 a1 k
 have ih0 := laws_heldPageS.mono_l k
 unfold laws_heldPageS.f
 repeat' first
   | (with_reducible exact ih0 _ _ _)
   | (with_reducible exact laws_heldPairS.mono _ _ _)
   | (with_reducible exact LeO.refl _)
   | (with_reducible exact LeO.none _)
   | (with_reducible refine LeO.ite ?_ ?_)
   | (with_reducible refine LeO.bind ?_ (fun _ => ?_))
   | exact ih0 _ _ _
   | exact LeO.none _
   | refine LeO.ite ?_ ?_
   | refine LeO.bind ?_ (fun _ => ?_)
theorem laws_heldPageS.calls (k : Nat) (A0 : Option Addr) (c0 : Nat) (l0 : List (S53)) (a1 : Int) (r : Int) (w : World) (hr0 : Kd.C k53 w A0 l0.length l0) (hc0 : l0.length ≤ c0) (h : laws_heldPageS.f k l0 a1 = some r) :
  Calls Try.prog 12 #[.slice A0 l0.length c0, .int .i64 a1] w fun e w' => e = .returned (.int .i64 r) ∧ Below w.heap.size w w' := by
 have HR0 := ak hr0
 have HC0 := ak hc0
 clear hr0 hc0
 have HB := ak (Below.refl w.heap.size w)
 have H : (laws_heldPageS.l0 k l0 a1 0) = some r := h
 clear h
 have H' := ak H
 clear H
 go_enter Try.func12, Try.ntmps12
 go_wp2
 go_loopg [1, 5] k (fun kq v1 v5 w' => ∃ (x1_1 : Int) (x5_1 : Int), v1 = .int .i64 x1_1 ∧ v5 = .int .i64 x5_1 ∧ Aside0 (laws_heldPageS.l0 kq l0 x1_1 x5_1 = some r) ∧ Aside0 (kq ≤ k) ∧ Aside0 (Below w.heap.size w w'))
 case atStart => exact ⟨(a1), (0), (by first | rfl | (simp [*]; done)), (by first | rfl | (simp [*]; done)), H', ⟨Nat.le_refl _⟩, ⟨by exact hopb HB.out⟩⟩
 case round =>
  clear H'
  try clear c1
  try clear p2
  obtain ⟨x1_1, x5_1, rfl, rfl, HA, HK1, HB⟩ := hrel
  cases gk with
  | zero => exact absurd HA.out (by simp [laws_heldPageS.l0])
  | succ k1 =>
   have H := HA.out
   clear HA
   simp only [laws_heldPageS.l0] at H
   by_cases c3 : x5_1 < (l0.length : Int)
   ·rw [if_pos c3] at H
    have c3b0 : decide (x5_1 < (l0.length : Int)) = true := decide_eq_true c3
    clear c3
    by_cases c4 : 0 ≤ x5_1
    ·rw [if_pos c4] at H
     have c4b0 : decide (0 ≤ x5_1) = true := decide_eq_true c4
     clear c4
     replace H := Option.bind_eq_some_iff.mp H
     obtain ⟨t363, A50, H⟩ := H
     try dsimp only at H
     have A5 := ak A50
     clear A50
     by_cases c6 : t363 < 0
     ·rw [if_pos c6] at H
      have c6b0 : decide (t363 < 0) = true := decide_eq_true c6
      clear c6
      obtain rfl := Option.some.inj H
      have p362 : 0 ≤ (x5_1 : Int) := of_decide_eq_true (by assumption)
      have q362 : x5_1 < (l0.length : Int) := of_decide_eq_true (by assumption)
      obtain ⟨ad362, A362_0, c362_0, e362, hx362_0, hl362_0, hi362_0⟩ := at_T53 HR0.out x5_1 p362 q362
      cases e362
      replace hx362_0 := bc HB.out hx362_0
      have HR362_0 := ak hi362_0
      have HC362_0 := ak hl362_0
      clear hi362_0 hl362_0
      replace p362 := eq_true p362
      replace q362 := eq_true q362
      go_wp2_with (first | ((with_reducible refine gate_callee (f := 37) rfl ?_); refine goesL_ (some 18) rfl rfl Try.func37 (by kernel_rfl) rfl #[.slice A362_0 ((rd_T53 l0 x5_1).f0).length c362_0, .int .i64 x1_1] rfl (by (try simp only [List.map_toArray, List.map_cons, List.map_nil]); first | done | rfl | (simp only [List.length_drop, List.length_take]; rfl)) ?_; (with_reducible refine (laws_heldPairS.calls k1 _ _ ((rd_T53 l0 x5_1).f0) x1_1 t363 _ ?side1 ?side2 A5.out).mono ?_); (case side1 => repeat (first | exact (Kd.C_below HR362_0.out HB.out) | (with_reducible refine Kd.C_alloc ?_ _) | (with_reducible refine Kd.C_drewN ?_ _) | (with_reducible refine Kd.C_drew ?_))); (case side2 => exact HC362_0.out); rintro e w7 ⟨rfl, hb⟩; refine ⟨_, rfl, ?_⟩; replace HB := ak (below_step (by exact hopb HB.out) hb); (try clear hb)))
      go_ret
      exact ⟨by first | rfl | (simp [*, errW_none, errW_some] <;> rfl), by exact hopb HB.out⟩
     ·rw [if_neg c6] at H
      have c6b0 : decide (t363 < 0) = false := decide_eq_false c6
      clear c6
      have H' := ak H
      clear H
      have p362 : 0 ≤ (x5_1 : Int) := of_decide_eq_true (by assumption)
      have q362 : x5_1 < (l0.length : Int) := of_decide_eq_true (by assumption)
      obtain ⟨ad362, A362_0, c362_0, e362, hx362_0, hl362_0, hi362_0⟩ := at_T53 HR0.out x5_1 p362 q362
      cases e362
      replace hx362_0 := bc HB.out hx362_0
      have HR362_0 := ak hi362_0
      have HC362_0 := ak hl362_0
      clear hi362_0 hl362_0
      replace p362 := eq_true p362
      replace q362 := eq_true q362
      go_wp2_with (first | ((with_reducible refine gate_callee (f := 37) rfl ?_); refine goesL_ (some 18) rfl rfl Try.func37 (by kernel_rfl) rfl #[.slice A362_0 ((rd_T53 l0 x5_1).f0).length c362_0, .int .i64 x1_1] rfl (by (try simp only [List.map_toArray, List.map_cons, List.map_nil]); first | done | rfl | (simp only [List.length_drop, List.length_take]; rfl)) ?_; (with_reducible refine (laws_heldPairS.calls k1 _ _ ((rd_T53 l0 x5_1).f0) x1_1 t363 _ ?side1 ?side2 A5.out).mono ?_); (case side1 => repeat (first | exact (Kd.C_below HR362_0.out HB.out) | (with_reducible refine Kd.C_alloc ?_ _) | (with_reducible refine Kd.C_drewN ?_ _) | (with_reducible refine Kd.C_drew ?_))); (case side2 => exact HC362_0.out); rintro e w8 ⟨rfl, hb⟩; refine ⟨_, rfl, ?_⟩; replace HB := ak (below_step (by exact hopb HB.out) hb); (try clear hb)))
      go_roundg k1
      case measure => have := HK1.out; omega
      case rel => exact ⟨(t363), (wrap64 (x5_1 + 1)), (by first | rfl | (simp [*]; done)), (by first | rfl | (simp [*]; done)), H', ⟨by have := HK1.out; omega⟩, ⟨by exact hopb HB.out⟩⟩
    ·rw [if_neg c4] at H
     exact absurd H (by simp)
   ·rw [if_neg c3] at H
    have c3b0 : decide (x5_1 < (l0.length : Int)) = false := decide_eq_false c3
    clear c3
    obtain rfl := Option.some.inj H
    go_wp2
    go_ret
    exact ⟨by first | rfl | (simp [*, errW_none, errW_some] <;> rfl), by exact hopb HB.out⟩

end Go.Proofs.Ytengnnhehjcfhaa.PFnExactPagesDrop
