-- Written for this claim by a program of this session (wip/myprint in the proofs' repo)
import Derived.Test.YtmbkffpcbknndaaPFnPairGetx0
import Derived.Test.YtmbkffpcbknndaaPFnPairGetx1
import Derived.Test.YtmbkffpcbknndaaPFnPairGetx2
import Derived.Test.YtmbkffpcbknndaaPFnPairGetx3
import Derived.Test.YtmbkffpcbknndaaPFnPairGetx4
import Derived.Test.YtmbkffpcbknndaaPFnPairGetx6
namespace Go.Proofs.Ytmbkffpcbknndaa.PFnPairGet
open Go.RowKit Go.Proofs.YtmbkffpcbknndaaW.PrintWords Go.Proofs.YtmbkffpcbknndaaW.PrintLast Go.Proofs.YtmbkffpcbknndaaW.PrintMore
attribute [local go_sem] max2_int min2_int max_two min_two max_three min_three max_four min_four max2_strs min2_strs   -- for this text's walks alone
set_option linter.unusedVariables false
set_option linter.unusedSimpArgs false

/-! ### impl_pairPlace: function 50 -/
/-- what cmp.Compare says of two strings -/
def impl_pairPlace.cs (a b : ByteArray) : Int := if (Op.bytesLess a.toList b.toList) = true then -1 else if a.toList = b.toList then 0 else 1
/-- the search between lo and hi, with so many rounds left -/
def impl_pairPlace.bs (l : List (S28)) (key : ByteArray) : Nat → Nat → Nat → Option (Int × Bool)
  | 0, _, _ => none
  | k + 1, lo, hi => if lo < hi then (if impl_pairPlace.cs (rd_T28 l (((lo + hi) / 2 : Nat) : Int)).f0 key < 0 then impl_pairPlace.bs l key k ((lo + hi) / 2 + 1) hi else impl_pairPlace.bs l key k lo ((lo + hi) / 2))
      else if lo < l.length then some ((lo : Int), decide (impl_pairPlace.cs (rd_T28 l (lo : Int)).f0 key = 0)) else some ((lo : Int), false)
def impl_pairPlace.f (l0 : List (S28)) (a1 : ByteArray) : Option (Int × Bool) := if l0.length < 5864062014805 then impl_pairPlace.bs l0 a1 (l0.length + 1) 0 l0.length else none
theorem impl_pairPlace.cmp_f (a0 : ByteArray) (a1 : Int) (b : ByteArray) : impl_pairPlace_1.f a0 a1 b = some (impl_pairPlace.cs a0 b) := by
  unfold impl_pairPlace_1.f cmp_Compare_string.f cmp_isNaN_string.f impl_pairPlace.cs
  simp only [bne_self_eq_false, Option.bind_some, Bool.false_eq_true, if_false]
  by_cases h1 : (Op.bytesLess a0.toList b.toList) = true
  · simp only [if_pos h1, Option.bind_some]
  · by_cases h2 : a0.toList = b.toList
    · simp only [if_neg h1, if_pos h2, Option.bind_some]
    · simp only [if_neg h1, if_neg h2, Option.bind_some]
set_option maxHeartbeats 8000000 in
set_option maxRecDepth 100000 in
theorem impl_pairPlace.search (A0 : Option Addr) (c0 : Nat) (l0 : List (S28)) (key : ByteArray) (r1 : Int) (r2 : Bool) (w : World) (hr0 : Kd.C k28 w A0 l0.length l0) (hl : l0.length < 5864062014805) (h : impl_pairPlace.bs l0 key (l0.length + 1) 0 l0.length = some (r1, r2)) :
    Calls Try.prog 67 #[.slice A0 l0.length c0, .string key, .func (.func 68) #[] #[]] w fun e w' => e = .returned (.tuple #[.int .i64 r1, .bool r2]) ∧ Below w.heap.size w w' := by
  have hu28 := Try.underlying28
  have HR0 := Aside0.mk hr0
  clear hr0
  have H' := Aside0.mk h
  clear h
  have HB := Aside0.mk (Below.refl w.heap.size w)
  go_enter Try.func67, Try.ntmps67
  go_wp2
  go_loopg [9, 10] l0.length (fun kx s9 s10 wr => ∃ lo hi fuel : Nat, s9 = .int .i64 lo ∧ s10 = .int .i64 hi ∧ lo ≤ hi ∧ hi ≤ l0.length ∧ hi - lo ≤ kx ∧ Aside0 (impl_pairPlace.bs l0 key fuel lo hi = some (r1, r2)) ∧ Aside0 (Below w.heap.size w wr))
  case atStart => exact ⟨0, l0.length, l0.length + 1, rfl, rfl, Nat.zero_le _, Nat.le_refl _, by omega, H', HB⟩
  case round =>
    clear H' HB
    obtain ⟨lo, hi, fuel, rfl, rfl, hlh, hin, hg, HA, HB⟩ := hrel
    cases fuel with
    | zero => exact absurd HA.out (by simp [impl_pairPlace.bs])
    | succ fuel =>
      have H := HA.out
      clear HA
      rw [impl_pairPlace.bs] at H
      by_cases hlt : lo < hi
      · rw [if_pos hlt] at H
        obtain ⟨ad, e0, hx0, hx1⟩ := at_T28 HR0.out (((lo + hi) / 2 : Nat) : Int) (by omega) (by omega)
        cases e0
        replace hx0 := (HB.out.cell (World.block_lt_of_cell? w _ hx0)).trans hx0
        replace hx1 := (HB.out.cell (World.block_lt_of_cell? w _ hx1)).trans hx1
        simp only [Int.toNat_natCast] at hx0 hx1
        have hcf := impl_pairPlace.cmp_f (rd_T28 l0 (((lo + hi) / 2 : Nat) : Int)).f0 (rd_T28 l0 (((lo + hi) / 2 : Nat) : Int)).f1 key
        generalize hcc : impl_pairPlace.cs (rd_T28 l0 (((lo + hi) / 2 : Nat) : Int)).f0 key = cv at H hcf
        clear hcc
        have HCF := Aside0.mk hcf
        clear hcf
        generalize (rd_T28 l0 (((lo + hi) / 2 : Nat) : Int)).f0 = kf at hx0 HCF
        generalize (rd_T28 l0 (((lo + hi) / 2 : Nat) : Int)).f1 = vf at hx1 HCF
        by_cases hc : cv < 0
        · rw [if_pos hc] at H
          have H2 := Aside0.mk H
          clear H
          go_wp2_with (go_at_call 68; (with_reducible refine (impl_pairPlace_1.calls kf vf key cv _ HCF.out).mono ?_); rintro e w1 ⟨rfl, hb⟩; have HB1 := Aside0.mk (below_step (by repeat (first | (with_reducible first | exact HB.out | apply below_alloc | apply pw_below_drewN | apply below_drew1) | exact HB.out)) hb); clear hb)
          go_roundg (hi - ((lo + hi) / 2 + 1))
          case measure => omega
          case rel => exact ⟨(lo + hi) / 2 + 1, hi, fuel, by rw [show ((lo : Int) + (hi : Int)) / 2 + 1 = (((lo + hi) / 2 + 1 : Nat) : Int) by omega], rfl, by omega, hin, Nat.le_refl _, H2, HB1⟩
        · rw [if_neg hc] at H
          have H2 := Aside0.mk H
          clear H
          go_wp2_with (go_at_call 68; (with_reducible refine (impl_pairPlace_1.calls kf vf key cv _ HCF.out).mono ?_); rintro e w1 ⟨rfl, hb⟩; have HB1 := Aside0.mk (below_step (by repeat (first | (with_reducible first | exact HB.out | apply below_alloc | apply pw_below_drewN | apply below_drew1) | exact HB.out)) hb); clear hb)
          go_roundg ((lo + hi) / 2 - lo)
          case measure => omega
          case rel => exact ⟨lo, (lo + hi) / 2, fuel, rfl, by rw [show ((lo : Int) + (hi : Int)) / 2 = (((lo + hi) / 2 : Nat) : Int) by omega], by omega, by omega, Nat.le_refl _, H2, HB1⟩
      · rw [if_neg hlt] at H
        obtain rfl : hi = lo := by omega
        by_cases hn : hi < l0.length
        · rw [if_pos hn] at H
          simp only [Option.some.injEq, Prod.mk.injEq] at H
          obtain ⟨rfl, rfl⟩ := H
          obtain ⟨ad, e0, hx0, hx1⟩ := at_T28 HR0.out (hi : Int) (by omega) (by omega)
          cases e0
          replace hx0 := (HB.out.cell (World.block_lt_of_cell? w _ hx0)).trans hx0
          replace hx1 := (HB.out.cell (World.block_lt_of_cell? w _ hx1)).trans hx1
          simp only [Int.toNat_natCast] at hx0 hx1
          have hcf := impl_pairPlace.cmp_f (rd_T28 l0 (hi : Int)).f0 (rd_T28 l0 (hi : Int)).f1 key
          generalize hcv : impl_pairPlace.cs (rd_T28 l0 (hi : Int)).f0 key = cv at hcf
          have HCV := Aside0.mk hcv
          have HCF := Aside0.mk hcf
          clear hcf hcv
          generalize (rd_T28 l0 (hi : Int)).f0 = kf at hx0 HCF
          generalize (rd_T28 l0 (hi : Int)).f1 = vf at hx1 HCF
          by_cases hc : cv = 0
          · subst hc
            go_wp2_with (go_at_call 68; (with_reducible refine (impl_pairPlace_1.calls kf vf key 0 _ HCF.out).mono ?_); rintro e w1 ⟨rfl, hb⟩; have HB1 := Aside0.mk (below_step (by repeat (first | (with_reducible first | exact HB.out | apply below_alloc | apply pw_below_drewN | apply below_drew1) | exact HB.out)) hb); clear hb)
            go_ret2
            exact ⟨by rw [HCV.out]; first | rfl | simp, HB1.out⟩
          · have hcb : (cv == 0) = false := beq_eq_false_iff_ne.mpr hc
            go_wp2_with (go_at_call 68; (with_reducible refine (impl_pairPlace_1.calls kf vf key cv _ HCF.out).mono ?_); rintro e w1 ⟨rfl, hb⟩; have HB1 := Aside0.mk (below_step (by repeat (first | (with_reducible first | exact HB.out | apply below_alloc | apply pw_below_drewN | apply below_drew1) | exact HB.out)) hb); clear hb)
            go_ret2
            exact ⟨by rw [HCV.out]; first | rfl | simp [hc], HB1.out⟩
        · rw [if_neg hn] at H
          simp only [Option.some.injEq, Prod.mk.injEq] at H
          obtain ⟨rfl, rfl⟩ := H
          go_wp2
          go_ret2
          exact ⟨by first | rfl | simp, by repeat (first | (with_reducible first | exact HB.out | apply below_alloc | apply pw_below_drewN | apply below_drew1) | exact HB.out)⟩
set_option maxHeartbeats 8000000 in
set_option maxRecDepth 100000 in
theorem impl_pairPlace.calls (A0 : Option Addr) (c0 : Nat) (l0 : List (S28)) (a1 : ByteArray) (r1 : Int) (r2 : Bool) (w : World) (hr0 : Kd.C k28 w A0 l0.length l0) (hc0 : l0.length ≤ c0) (h : impl_pairPlace.f l0 a1 = some (r1, r2)) :
    Calls Try.prog 50 #[.slice A0 l0.length c0, .string a1] w fun e w' => e = .returned (.tuple #[.int .i64 r1, .bool r2]) ∧ Below w.heap.size w w' := by
  have HR0 := Aside0.mk hr0
  clear hr0 hc0
  have H : (if l0.length < 5864062014805 then impl_pairPlace.bs l0 a1 (l0.length + 1) 0 l0.length else none) = some (r1, r2) := h
  clear h
  by_cases c3 : l0.length < 5864062014805
  · rw [if_pos c3] at H
    have LM := Aside0.mk c3
    clear c3
    have HA := Aside0.mk H
    clear H
    go_enter Try.func50, Try.ntmps50
    go_wp2_with (go_at_call 67; (with_reducible refine (impl_pairPlace.search A0 c0 l0 a1 r1 r2 _ HR0.out LM.out HA.out).mono ?_); rintro e w1 ⟨rfl, hb⟩; have HB1 := Aside0.mk hb; clear hb)
    go_ret2
    exact ⟨rfl, HB1.out⟩
  · rw [if_neg c3] at H
    exact absurd H (by simp)

/-! ### impl_PairGet: function 17 -/
def impl_PairGet.f (k : Nat) (l0 : List (S28)) (a1 : ByteArray) : Option (Int) := (impl_PairsValid.f k l0).bind fun t259 => (if t259 = true then ((impl_pairPlace.f l0 a1).bind fun bt260 => (if bt260.2 = true then (if 0 ≤ bt260.1 then (if bt260.1 < (l0.length : Int) then (some ((rd_T28 l0 bt260.1).f1)) else (none)) else (none)) else (some (-1)))) else (some (-1)))
theorem impl_PairGet.mono : ∀ a0 a1 k, LeO (impl_PairGet.f k a0 a1) (impl_PairGet.f (k + 1) a0 a1) := by
  intro a0 a1 k
  unfold impl_PairGet.f
  repeat' first
      | (with_reducible exact impl_PairsValid.mono _ _)
      | (with_reducible exact LeO.refl _)
      | (with_reducible exact LeO.none _)
      | (with_reducible refine LeO.ite ?_ ?_)
      | (with_reducible refine LeO.bind ?_ (fun _ => ?_))
      | exact impl_PairsValid.mono _ _
      | exact LeO.none _
      | refine LeO.ite ?_ ?_
      | refine LeO.bind ?_ (fun _ => ?_)
set_option maxHeartbeats 8000000 in
set_option maxRecDepth 100000 in
theorem impl_PairGet.calls (k : Nat) (A0 : Option Addr) (c0 : Nat) (l0 : List (S28)) (a1 : ByteArray) (r : Int) (w : World) (hr0 : Kd.C k28 w A0 l0.length l0) (hc0 : l0.length ≤ c0) (h : impl_PairGet.f k l0 a1 = some r) :
    Calls Try.prog 17 #[.slice A0 l0.length c0, .string a1] w fun e w' => e = .returned (.int .i64 r) ∧ Below w.heap.size w w' := by
  have HR0 := Aside0.mk hr0
  have HC0 := Aside0.mk hc0
  clear hr0 hc0
  have HB := Aside0.mk (Below.refl w.heap.size w)
  have H : ((impl_PairsValid.f k l0).bind fun t259 => (if t259 = true then ((impl_pairPlace.f l0 a1).bind fun bt260 => (if bt260.2 = true then (if 0 ≤ bt260.1 then (if bt260.1 < (l0.length : Int) then (some ((rd_T28 l0 bt260.1).f1)) else (none)) else (none)) else (some (-1)))) else (some (-1)))) = some r := h
  clear h
  replace H := Option.bind_eq_some_iff.mp H
  obtain ⟨t259, A30, H⟩ := H
  replace H : (if t259 = true then ((impl_pairPlace.f l0 a1).bind fun bt260 => (if bt260.2 = true then (if 0 ≤ bt260.1 then (if bt260.1 < (l0.length : Int) then (some ((rd_T28 l0 bt260.1).f1)) else (none)) else (none)) else (some (-1)))) else (some (-1))) = some r := H
  have A3 := Aside0.mk A30
  clear A30
  by_cases c4 : t259 = true
  · subst c4
    have H1 : ((impl_pairPlace.f l0 a1).bind fun bt260 => (if bt260.2 = true then (if 0 ≤ bt260.1 then (if bt260.1 < (l0.length : Int) then (some ((rd_T28 l0 bt260.1).f1)) else (none)) else (none)) else (some (-1)))) = some r := by rw [if_pos rfl] at H; exact H
    clear H
    have H := H1
    clear H1
    replace H := Option.bind_eq_some_iff.mp H
    obtain ⟨⟨t260, t261⟩, A50, H⟩ := H
    replace H : (if t261 = true then (if 0 ≤ t260 then (if t260 < (l0.length : Int) then (some ((rd_T28 l0 t260).f1)) else (none)) else (none)) else (some (-1))) = some r := H
    have A5 := Aside0.mk A50
    clear A50
    by_cases c6 : t261 = true
    · subst c6
      have H1 : (if 0 ≤ t260 then (if t260 < (l0.length : Int) then (some ((rd_T28 l0 t260).f1)) else (none)) else (none)) = some r := by rw [if_pos rfl] at H; exact H
      clear H
      have H := H1
      clear H1
      by_cases c7 : 0 ≤ t260
      · rw [if_pos c7] at H
        have c7b0 : decide (0 ≤ t260) = true := decide_eq_true c7
        clear c7
        by_cases c8 : t260 < (l0.length : Int)
        · rw [if_pos c8] at H
          have c8b0 : decide (t260 < (l0.length : Int)) = true := decide_eq_true c8
          clear c8
          obtain rfl := Option.some.inj H
          go_enter Try.func17, Try.ntmps17
          go_wp2_with (first | ((with_reducible refine gate_callee (f := 13) rfl ?_); refine goesL_ (some 8) rfl rfl Try.func13 (by kernel_rfl) rfl #[.slice A0 l0.length c0] rfl (by (try simp only [List.map_toArray, List.map_cons, List.map_nil]); first | done | rfl | (simp only [List.length_drop, List.length_take]; rfl)) ?_; (with_reducible refine (impl_PairsValid.calls k _ _ l0 true _ ?side1 ?side2 A3.out).mono ?_); (case side1 => repeat (first | exact HR0.out | (with_reducible refine Kd.C_alloc ?_ _) | (with_reducible refine Kd.C_drewN ?_ _) | (with_reducible refine Kd.C_drew ?_))); (case side2 => exact HC0.out); rintro e w9 ⟨rfl, hb⟩; refine ⟨_, rfl, ?_⟩; have n0_ := Aside0.mk (below_step (by repeat (first | (with_reducible first | exact HB.out | apply below_alloc | apply pw_below_drewN | apply below_drew1) | exact HB.out)) hb); clear HB; have HB := n0_; clear n0_; (try clear hb); (try clear hb2); (try clear hk); (try clear hi)) | ((with_reducible refine gate_callee (f := 50) rfl ?_); refine goesL_ (some 13) rfl rfl Try.func50 (by kernel_rfl) rfl #[.slice A0 l0.length c0, .string a1] rfl (by (try simp only [List.map_toArray, List.map_cons, List.map_nil]); first | done | rfl | (simp only [List.length_drop, List.length_take]; rfl)) ?_; (with_reducible refine (impl_pairPlace.calls _ _ l0 a1 t260 true _ ?side1 ?side2 A5.out).mono ?_); (case side1 => repeat (first | exact (Kd.C_below HR0.out HB.out) | (with_reducible refine Kd.C_alloc ?_ _) | (with_reducible refine Kd.C_drewN ?_ _) | (with_reducible refine Kd.C_drew ?_))); (case side2 => exact HC0.out); rintro e w10 ⟨rfl, hb⟩; refine ⟨_, rfl, ?_⟩; have n0_ := Aside0.mk (below_step (by repeat (first | (with_reducible first | exact HB.out | apply below_alloc | apply pw_below_drewN | apply below_drew1) | exact HB.out)) hb); clear HB; have HB := n0_; clear n0_; (try clear hb); (try clear hb2); (try clear hk); (try clear hi); have p262 : 0 ≤ (t260 : Int) := of_decide_eq_true (by first | (with_reducible assumption) | assumption); have q262 : t260 < (l0.length : Int) := of_decide_eq_true (by first | (with_reducible assumption) | assumption); obtain ⟨ad262, e262, hx262_0, hx262_1⟩ := at_T28 HR0.out t260 p262 q262; cases e262; replace hx262_0 := (HB.out.cell (World.block_lt_of_cell? w _ hx262_0)).trans hx262_0; replace hx262_1 := (HB.out.cell (World.block_lt_of_cell? w _ hx262_1)).trans hx262_1; replace p262 := eq_true p262; replace q262 := eq_true q262))
          go_ret
          exact ⟨by first | rfl | (simp only [u8_w_, w64_u8_]; done) | (simp only [u8_w_, w64_u8_]; rfl) | (simp [errW_none, errW_some] <;> rfl) | (simp [*, errW_none, errW_some] <;> rfl), by repeat (first | (with_reducible first | exact HB.out | apply below_alloc | apply pw_below_drewN | apply below_drew1) | exact HB.out)⟩
        · rw [if_neg c8] at H
          exact absurd H (by simp)
      · rw [if_neg c7] at H
        exact absurd H (by simp)
    · replace c6 := Bool.eq_false_iff.mpr c6
      subst c6
      have H1 : (some (-1)) = some r := by rw [if_neg (show ¬ (false = true) by decide)] at H; exact H
      clear H
      have H := H1
      clear H1
      obtain rfl := Option.some.inj H
      go_enter Try.func17, Try.ntmps17
      go_wp2_with (first | ((with_reducible refine gate_callee (f := 13) rfl ?_); refine goesL_ (some 8) rfl rfl Try.func13 (by kernel_rfl) rfl #[.slice A0 l0.length c0] rfl (by (try simp only [List.map_toArray, List.map_cons, List.map_nil]); first | done | rfl | (simp only [List.length_drop, List.length_take]; rfl)) ?_; (with_reducible refine (impl_PairsValid.calls k _ _ l0 true _ ?side1 ?side2 A3.out).mono ?_); (case side1 => repeat (first | exact HR0.out | (with_reducible refine Kd.C_alloc ?_ _) | (with_reducible refine Kd.C_drewN ?_ _) | (with_reducible refine Kd.C_drew ?_))); (case side2 => exact HC0.out); rintro e w11 ⟨rfl, hb⟩; refine ⟨_, rfl, ?_⟩; have n0_ := Aside0.mk (below_step (by repeat (first | (with_reducible first | exact HB.out | apply below_alloc | apply pw_below_drewN | apply below_drew1) | exact HB.out)) hb); clear HB; have HB := n0_; clear n0_; (try clear hb); (try clear hb2); (try clear hk); (try clear hi)) | ((with_reducible refine gate_callee (f := 50) rfl ?_); refine goesL_ (some 13) rfl rfl Try.func50 (by kernel_rfl) rfl #[.slice A0 l0.length c0, .string a1] rfl (by (try simp only [List.map_toArray, List.map_cons, List.map_nil]); first | done | rfl | (simp only [List.length_drop, List.length_take]; rfl)) ?_; (with_reducible refine (impl_pairPlace.calls _ _ l0 a1 t260 false _ ?side1 ?side2 A5.out).mono ?_); (case side1 => repeat (first | exact (Kd.C_below HR0.out HB.out) | (with_reducible refine Kd.C_alloc ?_ _) | (with_reducible refine Kd.C_drewN ?_ _) | (with_reducible refine Kd.C_drew ?_))); (case side2 => exact HC0.out); rintro e w12 ⟨rfl, hb⟩; refine ⟨_, rfl, ?_⟩; have n0_ := Aside0.mk (below_step (by repeat (first | (with_reducible first | exact HB.out | apply below_alloc | apply pw_below_drewN | apply below_drew1) | exact HB.out)) hb); clear HB; have HB := n0_; clear n0_; (try clear hb); (try clear hb2); (try clear hk); (try clear hi)))
      go_ret
      exact ⟨by first | rfl | (simp only [u8_w_, w64_u8_]; done) | (simp only [u8_w_, w64_u8_]; rfl) | (simp [errW_none, errW_some] <;> rfl) | (simp [*, errW_none, errW_some] <;> rfl), by repeat (first | (with_reducible first | exact HB.out | apply below_alloc | apply pw_below_drewN | apply below_drew1) | exact HB.out)⟩
  · replace c4 := Bool.eq_false_iff.mpr c4
    subst c4
    have H1 : (some (-1)) = some r := by rw [if_neg (show ¬ (false = true) by decide)] at H; exact H
    clear H
    have H := H1
    clear H1
    obtain rfl := Option.some.inj H
    go_enter Try.func17, Try.ntmps17
    go_wp2_with (first | ((with_reducible refine gate_callee (f := 13) rfl ?_); refine goesL_ (some 8) rfl rfl Try.func13 (by kernel_rfl) rfl #[.slice A0 l0.length c0] rfl (by (try simp only [List.map_toArray, List.map_cons, List.map_nil]); first | done | rfl | (simp only [List.length_drop, List.length_take]; rfl)) ?_; (with_reducible refine (impl_PairsValid.calls k _ _ l0 false _ ?side1 ?side2 A3.out).mono ?_); (case side1 => repeat (first | exact HR0.out | (with_reducible refine Kd.C_alloc ?_ _) | (with_reducible refine Kd.C_drewN ?_ _) | (with_reducible refine Kd.C_drew ?_))); (case side2 => exact HC0.out); rintro e w13 ⟨rfl, hb⟩; refine ⟨_, rfl, ?_⟩; have n0_ := Aside0.mk (below_step (by repeat (first | (with_reducible first | exact HB.out | apply below_alloc | apply pw_below_drewN | apply below_drew1) | exact HB.out)) hb); clear HB; have HB := n0_; clear n0_; (try clear hb); (try clear hb2); (try clear hk); (try clear hi)))
    go_ret
    exact ⟨by first | rfl | (simp only [u8_w_, w64_u8_]; done) | (simp only [u8_w_, w64_u8_]; rfl) | (simp [errW_none, errW_some] <;> rfl) | (simp [*, errW_none, errW_some] <;> rfl), by repeat (first | (with_reducible first | exact HB.out | apply below_alloc | apply pw_below_drewN | apply below_drew1) | exact HB.out)⟩

/-! ### spec_PairGet: function 18 -/
def spec_PairGet.f (k : Nat) (l0 : List (S28)) (a1 : ByteArray) : Option (Int) := (spec_l4Place.f k l0 a1).bind fun t263 => ((spec_PairsValid.f k l0).bind fun t264 => (if t264 = true then (if t263 = (l0.length : Int) then (some (-1)) else (if 0 ≤ t263 then (if t263 < (l0.length : Int) then (if ((rd_T28 l0 t263).f0).toList = a1.toList then (some ((rd_T28 l0 t263).f1)) else (some (-1))) else (none)) else (none))) else (some (-1))))
theorem spec_PairGet.mono : ∀ a0 a1 k, LeO (spec_PairGet.f k a0 a1) (spec_PairGet.f (k + 1) a0 a1) := by
  intro a0 a1 k
  unfold spec_PairGet.f
  repeat' first
      | (with_reducible exact spec_PairsValid.mono _ _)
      | (with_reducible exact spec_l4Place.mono _ _ _)
      | (with_reducible exact LeO.refl _)
      | (with_reducible exact LeO.none _)
      | (with_reducible refine LeO.ite ?_ ?_)
      | (with_reducible refine LeO.bind ?_ (fun _ => ?_))
      | exact spec_PairsValid.mono _ _
      | exact spec_l4Place.mono _ _ _
      | exact LeO.none _
      | refine LeO.ite ?_ ?_
      | refine LeO.bind ?_ (fun _ => ?_)
set_option maxHeartbeats 8000000 in
set_option maxRecDepth 100000 in
theorem spec_PairGet.calls (k : Nat) (A0 : Option Addr) (c0 : Nat) (l0 : List (S28)) (a1 : ByteArray) (r : Int) (w : World) (hr0 : Kd.C k28 w A0 l0.length l0) (hc0 : l0.length ≤ c0) (h : spec_PairGet.f k l0 a1 = some r) :
    Calls Try.prog 18 #[.slice A0 l0.length c0, .string a1] w fun e w' => e = .returned (.int .i64 r) ∧ Below w.heap.size w w' := by
  have HR0 := Aside0.mk hr0
  have HC0 := Aside0.mk hc0
  clear hr0 hc0
  have HB := Aside0.mk (Below.refl w.heap.size w)
  have H : ((spec_l4Place.f k l0 a1).bind fun t263 => ((spec_PairsValid.f k l0).bind fun t264 => (if t264 = true then (if t263 = (l0.length : Int) then (some (-1)) else (if 0 ≤ t263 then (if t263 < (l0.length : Int) then (if ((rd_T28 l0 t263).f0).toList = a1.toList then (some ((rd_T28 l0 t263).f1)) else (some (-1))) else (none)) else (none))) else (some (-1))))) = some r := h
  clear h
  replace H := Option.bind_eq_some_iff.mp H
  obtain ⟨t263, A30, H⟩ := H
  replace H : ((spec_PairsValid.f k l0).bind fun t264 => (if t264 = true then (if t263 = (l0.length : Int) then (some (-1)) else (if 0 ≤ t263 then (if t263 < (l0.length : Int) then (if ((rd_T28 l0 t263).f0).toList = a1.toList then (some ((rd_T28 l0 t263).f1)) else (some (-1))) else (none)) else (none))) else (some (-1)))) = some r := H
  have A3 := Aside0.mk A30
  clear A30
  replace H := Option.bind_eq_some_iff.mp H
  obtain ⟨t264, A40, H⟩ := H
  replace H : (if t264 = true then (if t263 = (l0.length : Int) then (some (-1)) else (if 0 ≤ t263 then (if t263 < (l0.length : Int) then (if ((rd_T28 l0 t263).f0).toList = a1.toList then (some ((rd_T28 l0 t263).f1)) else (some (-1))) else (none)) else (none))) else (some (-1))) = some r := H
  have A4 := Aside0.mk A40
  clear A40
  by_cases c5 : t264 = true
  · subst c5
    have H1 : (if t263 = (l0.length : Int) then (some (-1)) else (if 0 ≤ t263 then (if t263 < (l0.length : Int) then (if ((rd_T28 l0 t263).f0).toList = a1.toList then (some ((rd_T28 l0 t263).f1)) else (some (-1))) else (none)) else (none))) = some r := by rw [if_pos rfl] at H; exact H
    clear H
    have H := H1
    clear H1
    by_cases c6 : t263 = (l0.length : Int)
    · rw [if_pos c6] at H
      have c6b0 : (t263 == (l0.length : Int)) = true := beq_iff_eq.mpr c6
      have c6b1 : (t263 != (l0.length : Int)) = false := bne_eq_false_iff_eq.mpr c6
      clear c6
      obtain rfl := Option.some.inj H
      go_enter Try.func18, Try.ntmps18
      go_wp2_with (first | ((with_reducible refine gate_callee (f := 51) rfl ?_); refine goesL_ (some 8) rfl rfl Try.func51 (by kernel_rfl) rfl #[.slice A0 l0.length c0, .string a1] rfl (by (try simp only [List.map_toArray, List.map_cons, List.map_nil]); first | done | rfl | (simp only [List.length_drop, List.length_take]; rfl)) ?_; (with_reducible refine (spec_l4Place.calls k _ _ l0 a1 t263 _ ?side1 ?side2 A3.out).mono ?_); (case side1 => repeat (first | exact HR0.out | (with_reducible refine Kd.C_alloc ?_ _) | (with_reducible refine Kd.C_drewN ?_ _) | (with_reducible refine Kd.C_drew ?_))); (case side2 => exact HC0.out); rintro e w' ⟨rfl, ⟨nd, rfl⟩⟩; refine ⟨_, rfl, ?_⟩) | ((with_reducible refine gate_callee (f := 14) rfl ?_); refine goesL_ (some 10) rfl rfl Try.func14 (by kernel_rfl) rfl #[.slice A0 l0.length c0] rfl (by (try simp only [List.map_toArray, List.map_cons, List.map_nil]); first | done | rfl | (simp only [List.length_drop, List.length_take]; rfl)) ?_; (with_reducible refine (spec_PairsValid.calls k _ _ l0 true _ ?side1 ?side2 A4.out).mono ?_); (case side1 => repeat (first | exact HR0.out | (with_reducible refine Kd.C_alloc ?_ _) | (with_reducible refine Kd.C_drewN ?_ _) | (with_reducible refine Kd.C_drew ?_))); (case side2 => exact HC0.out); rintro e w7 ⟨rfl, hb⟩; refine ⟨_, rfl, ?_⟩; have n0_ := Aside0.mk (below_step (by repeat (first | (with_reducible first | exact HB.out | apply below_alloc | apply pw_below_drewN | apply below_drew1) | exact HB.out)) hb); clear HB; have HB := n0_; clear n0_; (try clear hb); (try clear hb2); (try clear hk); (try clear hi)))
      go_ret
      exact ⟨by first | rfl | (simp only [u8_w_, w64_u8_]; done) | (simp only [u8_w_, w64_u8_]; rfl) | (simp [errW_none, errW_some] <;> rfl) | (simp [*, errW_none, errW_some] <;> rfl), by repeat (first | (with_reducible first | exact HB.out | apply below_alloc | apply pw_below_drewN | apply below_drew1) | exact HB.out)⟩
    · rw [if_neg c6] at H
      have c6b0 : (t263 == (l0.length : Int)) = false := beq_eq_false_iff_ne.mpr c6
      have c6b1 : (t263 != (l0.length : Int)) = true := bne_iff_ne.mpr c6
      by_cases c8 : 0 ≤ t263
      · rw [if_pos c8] at H
        have c8b0 : decide (0 ≤ t263) = true := decide_eq_true c8
        clear c8
        by_cases c9 : t263 < (l0.length : Int)
        · rw [if_pos c9] at H
          have c9b0 : decide (t263 < (l0.length : Int)) = true := decide_eq_true c9
          clear c9
          by_cases c10 : ((rd_T28 l0 t263).f0).toList = a1.toList
          · rw [if_pos c10] at H
            have c10b0 : (((rd_T28 l0 t263).f0).toList == a1.toList) = true := beq_iff_eq.mpr c10
            have c10b1 : (((rd_T28 l0 t263).f0).toList != a1.toList) = false := bne_eq_false_iff_eq.mpr c10
            clear c10
            obtain rfl := Option.some.inj H
            go_enter Try.func18, Try.ntmps18
            go_wp2_with (first | ((with_reducible refine gate_callee (f := 51) rfl ?_); refine goesL_ (some 8) rfl rfl Try.func51 (by kernel_rfl) rfl #[.slice A0 l0.length c0, .string a1] rfl (by (try simp only [List.map_toArray, List.map_cons, List.map_nil]); first | done | rfl | (simp only [List.length_drop, List.length_take]; rfl)) ?_; (with_reducible refine (spec_l4Place.calls k _ _ l0 a1 t263 _ ?side1 ?side2 A3.out).mono ?_); (case side1 => repeat (first | exact HR0.out | (with_reducible refine Kd.C_alloc ?_ _) | (with_reducible refine Kd.C_drewN ?_ _) | (with_reducible refine Kd.C_drew ?_))); (case side2 => exact HC0.out); rintro e w' ⟨rfl, ⟨nd, rfl⟩⟩; refine ⟨_, rfl, ?_⟩) | ((with_reducible refine gate_callee (f := 14) rfl ?_); refine goesL_ (some 10) rfl rfl Try.func14 (by kernel_rfl) rfl #[.slice A0 l0.length c0] rfl (by (try simp only [List.map_toArray, List.map_cons, List.map_nil]); first | done | rfl | (simp only [List.length_drop, List.length_take]; rfl)) ?_; (with_reducible refine (spec_PairsValid.calls k _ _ l0 true _ ?side1 ?side2 A4.out).mono ?_); (case side1 => repeat (first | exact HR0.out | (with_reducible refine Kd.C_alloc ?_ _) | (with_reducible refine Kd.C_drewN ?_ _) | (with_reducible refine Kd.C_drew ?_))); (case side2 => exact HC0.out); rintro e w11 ⟨rfl, hb⟩; refine ⟨_, rfl, ?_⟩; have n0_ := Aside0.mk (below_step (by repeat (first | (with_reducible first | exact HB.out | apply below_alloc | apply pw_below_drewN | apply below_drew1) | exact HB.out)) hb); clear HB; have HB := n0_; clear n0_; (try clear hb); (try clear hb2); (try clear hk); (try clear hi); have p265 : 0 ≤ (t263 : Int) := of_decide_eq_true (by first | (with_reducible assumption) | assumption); have q265 : t263 < (l0.length : Int) := of_decide_eq_true (by first | (with_reducible assumption) | assumption); obtain ⟨ad265, e265, hx265_0, hx265_1⟩ := at_T28 HR0.out t263 p265 q265; cases e265; replace hx265_0 := (HB.out.cell (World.block_lt_of_cell? w _ hx265_0)).trans hx265_0; replace hx265_1 := (HB.out.cell (World.block_lt_of_cell? w _ hx265_1)).trans hx265_1; replace p265 := eq_true p265; replace q265 := eq_true q265; have p266 : 0 ≤ (t263 : Int) := of_decide_eq_true (by first | (with_reducible assumption) | assumption); have q266 : t263 < (l0.length : Int) := of_decide_eq_true (by first | (with_reducible assumption) | assumption); obtain ⟨ad266, e266, hx266_0, hx266_1⟩ := at_T28 HR0.out t263 p266 q266; obtain rfl : ad265 = ad266 := (by injection e266); replace hx266_0 := (HB.out.cell (World.block_lt_of_cell? w _ hx266_0)).trans hx266_0; replace hx266_1 := (HB.out.cell (World.block_lt_of_cell? w _ hx266_1)).trans hx266_1; replace p266 := eq_true p266; replace q266 := eq_true q266))
            go_ret
            exact ⟨by first | rfl | (simp only [u8_w_, w64_u8_]; done) | (simp only [u8_w_, w64_u8_]; rfl) | (simp [errW_none, errW_some] <;> rfl) | (simp [*, errW_none, errW_some] <;> rfl), by repeat (first | (with_reducible first | exact HB.out | apply below_alloc | apply pw_below_drewN | apply below_drew1) | exact HB.out)⟩
          · rw [if_neg c10] at H
            have c10b0 : (((rd_T28 l0 t263).f0).toList == a1.toList) = false := beq_eq_false_iff_ne.mpr c10
            have c10b1 : (((rd_T28 l0 t263).f0).toList != a1.toList) = true := bne_iff_ne.mpr c10
            obtain rfl := Option.some.inj H
            go_enter Try.func18, Try.ntmps18
            go_wp2_with (first | ((with_reducible refine gate_callee (f := 51) rfl ?_); refine goesL_ (some 8) rfl rfl Try.func51 (by kernel_rfl) rfl #[.slice A0 l0.length c0, .string a1] rfl (by (try simp only [List.map_toArray, List.map_cons, List.map_nil]); first | done | rfl | (simp only [List.length_drop, List.length_take]; rfl)) ?_; (with_reducible refine (spec_l4Place.calls k _ _ l0 a1 t263 _ ?side1 ?side2 A3.out).mono ?_); (case side1 => repeat (first | exact HR0.out | (with_reducible refine Kd.C_alloc ?_ _) | (with_reducible refine Kd.C_drewN ?_ _) | (with_reducible refine Kd.C_drew ?_))); (case side2 => exact HC0.out); rintro e w' ⟨rfl, ⟨nd, rfl⟩⟩; refine ⟨_, rfl, ?_⟩) | ((with_reducible refine gate_callee (f := 14) rfl ?_); refine goesL_ (some 10) rfl rfl Try.func14 (by kernel_rfl) rfl #[.slice A0 l0.length c0] rfl (by (try simp only [List.map_toArray, List.map_cons, List.map_nil]); first | done | rfl | (simp only [List.length_drop, List.length_take]; rfl)) ?_; (with_reducible refine (spec_PairsValid.calls k _ _ l0 true _ ?side1 ?side2 A4.out).mono ?_); (case side1 => repeat (first | exact HR0.out | (with_reducible refine Kd.C_alloc ?_ _) | (with_reducible refine Kd.C_drewN ?_ _) | (with_reducible refine Kd.C_drew ?_))); (case side2 => exact HC0.out); rintro e w12 ⟨rfl, hb⟩; refine ⟨_, rfl, ?_⟩; have n0_ := Aside0.mk (below_step (by repeat (first | (with_reducible first | exact HB.out | apply below_alloc | apply pw_below_drewN | apply below_drew1) | exact HB.out)) hb); clear HB; have HB := n0_; clear n0_; (try clear hb); (try clear hb2); (try clear hk); (try clear hi); have p265 : 0 ≤ (t263 : Int) := of_decide_eq_true (by first | (with_reducible assumption) | assumption); have q265 : t263 < (l0.length : Int) := of_decide_eq_true (by first | (with_reducible assumption) | assumption); obtain ⟨ad265, e265, hx265_0, hx265_1⟩ := at_T28 HR0.out t263 p265 q265; cases e265; replace hx265_0 := (HB.out.cell (World.block_lt_of_cell? w _ hx265_0)).trans hx265_0; replace hx265_1 := (HB.out.cell (World.block_lt_of_cell? w _ hx265_1)).trans hx265_1; replace p265 := eq_true p265; replace q265 := eq_true q265))
            go_ret
            exact ⟨by first | rfl | (simp only [u8_w_, w64_u8_]; done) | (simp only [u8_w_, w64_u8_]; rfl) | (simp [errW_none, errW_some] <;> rfl) | (simp [*, errW_none, errW_some] <;> rfl), by repeat (first | (with_reducible first | exact HB.out | apply below_alloc | apply pw_below_drewN | apply below_drew1) | exact HB.out)⟩
        · rw [if_neg c9] at H
          exact absurd H (by simp)
      · rw [if_neg c8] at H
        exact absurd H (by simp)
  · replace c5 := Bool.eq_false_iff.mpr c5
    subst c5
    have H1 : (some (-1)) = some r := by rw [if_neg (show ¬ (false = true) by decide)] at H; exact H
    clear H
    have H := H1
    clear H1
    obtain rfl := Option.some.inj H
    go_enter Try.func18, Try.ntmps18
    go_wp2_with (first | ((with_reducible refine gate_callee (f := 51) rfl ?_); refine goesL_ (some 8) rfl rfl Try.func51 (by kernel_rfl) rfl #[.slice A0 l0.length c0, .string a1] rfl (by (try simp only [List.map_toArray, List.map_cons, List.map_nil]); first | done | rfl | (simp only [List.length_drop, List.length_take]; rfl)) ?_; (with_reducible refine (spec_l4Place.calls k _ _ l0 a1 t263 _ ?side1 ?side2 A3.out).mono ?_); (case side1 => repeat (first | exact HR0.out | (with_reducible refine Kd.C_alloc ?_ _) | (with_reducible refine Kd.C_drewN ?_ _) | (with_reducible refine Kd.C_drew ?_))); (case side2 => exact HC0.out); rintro e w' ⟨rfl, ⟨nd, rfl⟩⟩; refine ⟨_, rfl, ?_⟩) | ((with_reducible refine gate_callee (f := 14) rfl ?_); refine goesL_ (some 10) rfl rfl Try.func14 (by kernel_rfl) rfl #[.slice A0 l0.length c0] rfl (by (try simp only [List.map_toArray, List.map_cons, List.map_nil]); first | done | rfl | (simp only [List.length_drop, List.length_take]; rfl)) ?_; (with_reducible refine (spec_PairsValid.calls k _ _ l0 false _ ?side1 ?side2 A4.out).mono ?_); (case side1 => repeat (first | exact HR0.out | (with_reducible refine Kd.C_alloc ?_ _) | (with_reducible refine Kd.C_drewN ?_ _) | (with_reducible refine Kd.C_drew ?_))); (case side2 => exact HC0.out); rintro e w13 ⟨rfl, hb⟩; refine ⟨_, rfl, ?_⟩; have n0_ := Aside0.mk (below_step (by repeat (first | (with_reducible first | exact HB.out | apply below_alloc | apply pw_below_drewN | apply below_drew1) | exact HB.out)) hb); clear HB; have HB := n0_; clear n0_; (try clear hb); (try clear hb2); (try clear hk); (try clear hi)))
    go_ret
    exact ⟨by first | rfl | (simp only [u8_w_, w64_u8_]; done) | (simp only [u8_w_, w64_u8_]; rfl) | (simp [errW_none, errW_some] <;> rfl) | (simp [*, errW_none, errW_some] <;> rfl), by repeat (first | (with_reducible first | exact HB.out | apply below_alloc | apply pw_below_drewN | apply below_drew1) | exact HB.out)⟩

/-! ### laws_FnPairGet: function 4 -/
mutual
def laws_FnPairGet.l0 : Nat → List (S28) → ByteArray → Int → Int → Int → Option (Bool)
  | 0, _, _, _, _, _ => none
  | k + 1, x3, x4, x5, x6, x7 => if x7 < (x3.length : Int) then ((impl_PairsValid.f k x3).bind fun t273 => (laws_FnPairGet.j1 k x3 x4 x5 x6 x7 t273)) else (laws_FnPairGet.j1 k x3 x4 x5 x6 x7 false)
def laws_FnPairGet.j1 : Nat → List (S28) → ByteArray → Int → Int → Int → Bool → Option (Bool)
  | 0, _, _, _, _, _, _ => none
  | k + 1, x3, x4, x5, x6, x7, x31 => if x31 = true then (if 0 ≤ x7 then (if x7 < (x3.length : Int) then (if ((rd_T28 x3 x7).f0).toList = x4.toList then (laws_FnPairGet.l0 k x3 x4 x5 ((rd_T28 x3 x7).f1) (wrap64 (x7 + 1))) else (laws_FnPairGet.l0 k x3 x4 x5 x6 (wrap64 (x7 + 1)))) else (none)) else (none)) else (if x5 = x6 then ((laws_alive.f k).bind fun t276 => (some t276)) else (none))
end
def laws_FnPairGet.f (k : Nat) (l0 : List Int) : Option (Bool) := if (l0.length : Int) > 1048576 then (some true) else ((spec_DrawPairGet.f k l0).bind fun bt267 => ((impl_PairGet.f k bt267.1 bt267.2).bind fun t271 => ((spec_PairGet.f k bt267.1 bt267.2).bind fun t272 => (if t271 = t272 then (laws_FnPairGet.l0 k bt267.1 bt267.2 t271 (-1) 0) else (none)))))
theorem laws_FnPairGet.mono_l : ∀ k, (∀ y0 y1 y2 y3 y4, LeO (laws_FnPairGet.l0 k y0 y1 y2 y3 y4) (laws_FnPairGet.l0 (k + 1) y0 y1 y2 y3 y4)) ∧ (∀ y0 y1 y2 y3 y4 y5, LeO (laws_FnPairGet.j1 k y0 y1 y2 y3 y4 y5) (laws_FnPairGet.j1 (k + 1) y0 y1 y2 y3 y4 y5))
  | 0 => ⟨fun _ _ _ _ _ r h => by simp [laws_FnPairGet.l0] at h, fun _ _ _ _ _ _ r h => by simp [laws_FnPairGet.j1] at h⟩
  | k + 1 => by
    obtain ⟨ih0, ih1⟩ := laws_FnPairGet.mono_l k
    refine ⟨?_, ?_⟩
    · intro y0 y1 y2 y3 y4
      unfold laws_FnPairGet.l0
      repeat' first
      | (with_reducible exact ih0 _ _ _ _ _)
      | (with_reducible exact ih1 _ _ _ _ _ _)
      | (with_reducible exact impl_PairGet.mono _ _ _)
      | (with_reducible exact impl_PairsValid.mono _ _)
      | (with_reducible exact laws_alive.mono _)
      | (with_reducible exact spec_DrawPairGet.mono _ _)
      | (with_reducible exact spec_PairGet.mono _ _ _)
      | (with_reducible exact LeO.refl _)
      | (with_reducible exact LeO.none _)
      | (with_reducible refine LeO.ite ?_ ?_)
      | (with_reducible refine LeO.bind ?_ (fun _ => ?_))
      | exact ih0 _ _ _ _ _
      | exact ih1 _ _ _ _ _ _
      | exact impl_PairGet.mono _ _ _
      | exact impl_PairsValid.mono _ _
      | exact laws_alive.mono _
      | exact spec_DrawPairGet.mono _ _
      | exact spec_PairGet.mono _ _ _
      | exact LeO.none _
      | refine LeO.ite ?_ ?_
      | refine LeO.bind ?_ (fun _ => ?_)
    · intro y0 y1 y2 y3 y4 y5
      unfold laws_FnPairGet.j1
      repeat' first
      | (with_reducible exact ih0 _ _ _ _ _)
      | (with_reducible exact ih1 _ _ _ _ _ _)
      | (with_reducible exact impl_PairGet.mono _ _ _)
      | (with_reducible exact impl_PairsValid.mono _ _)
      | (with_reducible exact laws_alive.mono _)
      | (with_reducible exact spec_DrawPairGet.mono _ _)
      | (with_reducible exact spec_PairGet.mono _ _ _)
      | (with_reducible exact LeO.refl _)
      | (with_reducible exact LeO.none _)
      | (with_reducible refine LeO.ite ?_ ?_)
      | (with_reducible refine LeO.bind ?_ (fun _ => ?_))
      | exact ih0 _ _ _ _ _
      | exact ih1 _ _ _ _ _ _
      | exact impl_PairGet.mono _ _ _
      | exact impl_PairsValid.mono _ _
      | exact laws_alive.mono _
      | exact spec_DrawPairGet.mono _ _
      | exact spec_PairGet.mono _ _ _
      | exact LeO.none _
      | refine LeO.ite ?_ ?_
      | refine LeO.bind ?_ (fun _ => ?_)
theorem laws_FnPairGet.mono : ∀ a0 k, LeO (laws_FnPairGet.f k a0) (laws_FnPairGet.f (k + 1) a0) := by
  intro a0 k
  obtain ⟨ih0, ih1⟩ := laws_FnPairGet.mono_l k
  unfold laws_FnPairGet.f
  repeat' first
      | (with_reducible exact ih0 _ _ _ _ _)
      | (with_reducible exact ih1 _ _ _ _ _ _)
      | (with_reducible exact impl_PairGet.mono _ _ _)
      | (with_reducible exact impl_PairsValid.mono _ _)
      | (with_reducible exact laws_alive.mono _)
      | (with_reducible exact spec_DrawPairGet.mono _ _)
      | (with_reducible exact spec_PairGet.mono _ _ _)
      | (with_reducible exact LeO.refl _)
      | (with_reducible exact LeO.none _)
      | (with_reducible refine LeO.ite ?_ ?_)
      | (with_reducible refine LeO.bind ?_ (fun _ => ?_))
      | exact ih0 _ _ _ _ _
      | exact ih1 _ _ _ _ _ _
      | exact impl_PairGet.mono _ _ _
      | exact impl_PairsValid.mono _ _
      | exact laws_alive.mono _
      | exact spec_DrawPairGet.mono _ _
      | exact spec_PairGet.mono _ _ _
      | exact LeO.none _
      | refine LeO.ite ?_ ?_
      | refine LeO.bind ?_ (fun _ => ?_)
set_option maxHeartbeats 8000000 in
set_option maxRecDepth 100000 in
theorem laws_FnPairGet.calls (k : Nat) (A0 : Option Addr) (c0 : Nat) (l0 : List Int) (r : Bool) (w : World) (hr0 : Kd.C (Kd.int .u8) w A0 l0.length l0) (hc0 : l0.length ≤ c0) (h : laws_FnPairGet.f k l0 = some r) :
    Calls Try.prog 4 #[.slice A0 l0.length c0] w fun e w' => e = .returned (.bool r) ∧ Below w.heap.size w w' := by
  have HR0 := Aside0.mk hr0
  have HC0 := Aside0.mk hc0
  clear hr0 hc0
  have HB := Aside0.mk (Below.refl w.heap.size w)
  have H : (if (l0.length : Int) > 1048576 then (some true) else ((spec_DrawPairGet.f k l0).bind fun bt267 => ((impl_PairGet.f k bt267.1 bt267.2).bind fun t271 => ((spec_PairGet.f k bt267.1 bt267.2).bind fun t272 => (if t271 = t272 then (laws_FnPairGet.l0 k bt267.1 bt267.2 t271 (-1) 0) else (none)))))) = some r := h
  clear h
  by_cases c2 : (l0.length : Int) > 1048576
  · rw [if_pos c2] at H
    have c2b0 : decide (1048576 < (l0.length : Int)) = true := decide_eq_true c2
    have c2b1 : decide (1048576 < l0.length) = true := decide_eq_true (by omega)
    clear c2
    obtain rfl := Option.some.inj H
    go_enter Try.func4, Try.ntmps4
    go_wp2
    go_ret
    exact ⟨by first | rfl | (simp only [u8_w_, w64_u8_]; done) | (simp only [u8_w_, w64_u8_]; rfl) | (simp [errW_none, errW_some] <;> rfl) | (simp [*, errW_none, errW_some] <;> rfl), by repeat (first | (with_reducible first | exact HB.out | apply below_alloc | apply pw_below_drewN | apply below_drew1) | exact HB.out)⟩
  · rw [if_neg c2] at H
    have c2b0 : decide (1048576 < (l0.length : Int)) = false := decide_eq_false c2
    have c2b1 : decide (1048576 < l0.length) = false := decide_eq_false (by omega)
    clear c2
    replace H := Option.bind_eq_some_iff.mp H
    obtain ⟨⟨t267, t268⟩, A30, H⟩ := H
    replace H : ((impl_PairGet.f k t267 t268).bind fun t271 => ((spec_PairGet.f k t267 t268).bind fun t272 => (if t271 = t272 then (laws_FnPairGet.l0 k t267 t268 t271 (-1) 0) else (none)))) = some r := H
    have A3 := Aside0.mk A30
    clear A30
    replace H := Option.bind_eq_some_iff.mp H
    obtain ⟨t271, A40, H⟩ := H
    replace H : ((spec_PairGet.f k t267 t268).bind fun t272 => (if t271 = t272 then (laws_FnPairGet.l0 k t267 t268 t271 (-1) 0) else (none))) = some r := H
    have A4 := Aside0.mk A40
    clear A40
    replace H := Option.bind_eq_some_iff.mp H
    obtain ⟨t272, A50, H⟩ := H
    replace H : (if t271 = t272 then (laws_FnPairGet.l0 k t267 t268 t271 (-1) 0) else (none)) = some r := H
    have A5 := Aside0.mk A50
    clear A50
    by_cases c6 : t271 = t272
    · rw [if_pos c6] at H
      have c6b0 : (t271 == t272) = true := beq_iff_eq.mpr c6
      have c6b1 : (t271 != t272) = false := bne_eq_false_iff_eq.mpr c6
      clear c6
      have H' := Aside0.mk H
      clear H
      go_enter Try.func4, Try.ntmps4
      go_wp2_with (first | ((with_reducible refine gate_callee (f := 16) rfl ?_); refine goesL_ (some 13) rfl rfl Try.func16 (by kernel_rfl) rfl #[.slice A0 l0.length c0] rfl (by (try simp only [List.map_toArray, List.map_cons, List.map_nil]); first | done | rfl | (simp only [List.length_drop, List.length_take]; rfl)) ?_; (with_reducible refine (spec_DrawPairGet.calls k _ _ l0 t267 t268 _ ?side1 ?side2 A3.out).mono ?_); (case side1 => repeat (first | exact HR0.out | (with_reducible refine Kd.C_alloc ?_ _) | (with_reducible refine Kd.C_drewN ?_ _) | (with_reducible refine Kd.C_drew ?_))); (case side2 => exact HC0.out); rintro e w7 ⟨v269, rfl, ho0, hb⟩; refine ⟨_, rfl, ?_⟩; have n0_ := Aside0.mk (Kd.R_lower ho0 (below_size (by repeat (first | (with_reducible first | exact HB.out | apply below_alloc | apply pw_below_drewN | apply below_drew1) | exact HB.out)))); have n1_ := Aside0.mk (below_step (by repeat (first | (with_reducible first | exact HB.out | apply below_alloc | apply pw_below_drewN | apply below_drew1) | exact HB.out)) hb); clear HB; have HO270 := n0_; have HB := n1_; clear n0_ n1_; (try clear hb); (try clear hb2); (try clear hk); (try clear hi); (try clear ho0); obtain ⟨Ao8, co8, eo8⟩ := Kd.R_slice HO270.out; subst eo8) | ((with_reducible refine gate_callee (f := 17) rfl ?_); refine goesL_ (some 18) rfl rfl Try.func17 (by kernel_rfl) rfl #[.slice Ao8 t267.length co8, .string t268] rfl (by (try simp only [List.map_toArray, List.map_cons, List.map_nil]); first | done | rfl | (simp only [List.length_drop, List.length_take]; rfl)) ?_; (with_reducible refine (impl_PairGet.calls k _ _ t267 t268 t271 _ ?side1 ?side2 A4.out).mono ?_); (case side1 => repeat (first | exact (Kd.R_reads' HO270.out).2.2 | (with_reducible refine Kd.C_alloc ?_ _) | (with_reducible refine Kd.C_drewN ?_ _) | (with_reducible refine Kd.C_drew ?_))); (case side2 => exact (Kd.R_reads' HO270.out).2.1); rintro e w9 ⟨rfl, hb⟩; refine ⟨_, rfl, ?_⟩; have n0_ := Aside0.mk (Kd.R_below (by (with_reducible repeat (first | apply Kd.R_alloc | apply Kd.R_drewN | apply Kd.R_drew)); exact HO270.out) hb); have n1_ := Aside0.mk (below_step (by repeat (first | (with_reducible first | exact HB.out | apply below_alloc | apply pw_below_drewN | apply below_drew1) | exact HB.out)) hb); clear HO270; clear HB; have HO270 := n0_; have HB := n1_; clear n0_ n1_; (try clear hb); (try clear hb2); (try clear hk); (try clear hi)) | ((with_reducible refine gate_callee (f := 18) rfl ?_); refine goesL_ (some 22) rfl rfl Try.func18 (by kernel_rfl) rfl #[.slice Ao8 t267.length co8, .string t268] rfl (by (try simp only [List.map_toArray, List.map_cons, List.map_nil]); first | done | rfl | (simp only [List.length_drop, List.length_take]; rfl)) ?_; (with_reducible refine (spec_PairGet.calls k _ _ t267 t268 t272 _ ?side1 ?side2 A5.out).mono ?_); (case side1 => repeat (first | exact (Kd.R_reads' HO270.out).2.2 | (with_reducible refine Kd.C_alloc ?_ _) | (with_reducible refine Kd.C_drewN ?_ _) | (with_reducible refine Kd.C_drew ?_))); (case side2 => exact (Kd.R_reads' HO270.out).2.1); rintro e w10 ⟨rfl, hb⟩; refine ⟨_, rfl, ?_⟩; have n0_ := Aside0.mk (Kd.R_below (by (with_reducible repeat (first | apply Kd.R_alloc | apply Kd.R_drewN | apply Kd.R_drew)); exact HO270.out) hb); have n1_ := Aside0.mk (below_step (by repeat (first | (with_reducible first | exact HB.out | apply below_alloc | apply pw_below_drewN | apply below_drew1) | exact HB.out)) hb); clear HO270; clear HB; have HO270 := n0_; have HB := n1_; clear n0_ n1_; (try clear hb); (try clear hb2); (try clear hk); (try clear hi)))
      go_loopg [6, 7] k (fun kq v6 v7 w' => ∃ (x6_1 : Int) (x7_1 : Int), v6 = .int .i64 x6_1 ∧ v7 = .int .i64 x7_1 ∧ Aside0 (laws_FnPairGet.l0 kq t267 t268 t271 x6_1 x7_1 = some r) ∧ Aside0 (kq ≤ k) ∧ Aside0 (Kd.R k28 28 w' w.heap.size (fun _ => True) (.slice Ao8 t267.length co8) t267) ∧ Aside0 (Below w.heap.size w w'))
      case atStart => exact ⟨((-1)), (0), (by first | rfl | (simp; done) | (simp [bne]; done) | (simp [*]; done)), (by first | rfl | (simp; done) | (simp [bne]; done) | (simp [*]; done)), H', ⟨Nat.le_refl _⟩, ⟨by (with_reducible repeat (first | apply Kd.R_alloc | apply Kd.R_drewN | apply Kd.R_drew)); exact HO270.out⟩, ⟨by repeat (first | (with_reducible first | exact HB.out | apply below_alloc | apply pw_below_drewN | apply below_drew1) | exact HB.out)⟩⟩
      case round =>
        clear H'
        try clear c1
        try clear c2
        try clear c2b0
        try clear c2b1
        try clear p2
        try clear c4
        try clear c6
        try clear c6b0
        try clear c6b1
        obtain ⟨x6_1, x7_1, rfl, rfl, HA, HK1, HO_3, HB⟩ := hrel
        cases gk with
        | zero => exact absurd HA.out (by simp [laws_FnPairGet.l0])
        | succ k1 =>
          have H := HA.out
          clear HA
          simp only [laws_FnPairGet.l0] at H
          have HC11 := Aside0.mk H
          clear H
          go_upto_region 9 with (fail)
          go_cut [31] (fun v31 wc => ∃ (kq : Nat) (x31_10 : Bool), v31 = .bool x31_10 ∧ Aside0 (laws_FnPairGet.j1 kq t267 t268 t271 x6_1 x7_1 x31_10 = some r) ∧ Aside0 (kq ≤ k1) ∧ Aside0 (Kd.R k28 28 wc w.heap.size (fun _ => True) (.slice Ao8 t267.length co8) t267) ∧ Aside0 (Below w.heap.size w wc))
          case first =>
            have H := HC11.out
            clear HC11
            by_cases c12 : x7_1 < (t267.length : Int)
            · rw [if_pos c12] at H
              have c12b0 : decide (x7_1 < (t267.length : Int)) = true := decide_eq_true c12
              clear c12
              (first | rw [c12b0] | (simp only [i64_w, i32_w]; rw [c12b0]) | skip)
              replace H := Option.bind_eq_some_iff.mp H
              obtain ⟨t273, A130, H⟩ := H
              replace H : (laws_FnPairGet.j1 k1 t267 t268 t271 x6_1 x7_1 t273) = some r := H
              have A13 := Aside0.mk A130
              clear A130
              have H' := Aside0.mk H
              clear H
              go_wp2_with (first | (go_at_call 13; (with_reducible refine (impl_PairsValid.calls k1 _ _ t267 t273 _ ?side1 ?side2 A13.out).mono ?_); (case side1 => repeat (first | exact (Kd.R_reads' HO_3.out).2.2 | (with_reducible refine Kd.C_alloc ?_ _) | (with_reducible refine Kd.C_drewN ?_ _) | (with_reducible refine Kd.C_drew ?_))); (case side2 => exact (Kd.R_reads' HO_3.out).2.1); rintro e w14 ⟨rfl, hb⟩; have n0_ := Aside0.mk (Kd.R_below (by (with_reducible repeat (first | apply Kd.R_alloc | apply Kd.R_drewN | apply Kd.R_drew)); exact HO_3.out) hb); have n1_ := Aside0.mk (below_step (by repeat (first | (with_reducible first | exact HB.out | apply below_alloc | apply pw_below_drewN | apply below_drew1) | exact HB.out)) hb); clear HO_3; clear HB; have HO_3 := n0_; have HB := n1_; clear n0_ n1_; (try clear hb); (try clear hb2); (try clear hk); (try clear hi)))
              go_meet
              case rel => exact ⟨_, (t273), (by first | rfl | (simp; done) | (simp [bne]; done) | (simp [*]; done)), H', ⟨by have := HK1.out; first | omega | exact Nat.le_refl _⟩, ⟨by (with_reducible repeat (first | apply Kd.R_alloc | apply Kd.R_drewN | apply Kd.R_drew)); exact HO_3.out⟩, ⟨by repeat (first | (with_reducible first | exact HB.out | apply below_alloc | apply pw_below_drewN | apply below_drew1) | exact HB.out)⟩⟩
            · rw [if_neg c12] at H
              have c12b0 : decide (x7_1 < (t267.length : Int)) = false := decide_eq_false c12
              clear c12
              (first | rw [c12b0] | (simp only [i64_w, i32_w]; rw [c12b0]) | skip)
              have H' := Aside0.mk H
              clear H
              go_wp2
              go_meet
              case rel => exact ⟨_, (false), (by first | rfl | (simp; done) | (simp [bne]; done) | (simp [*]; done)), H', ⟨by have := HK1.out; first | omega | exact Nat.le_refl _⟩, ⟨by (with_reducible repeat (first | apply Kd.R_alloc | apply Kd.R_drewN | apply Kd.R_drew)); exact HO_3.out⟩, ⟨by repeat (first | (with_reducible first | exact HB.out | apply below_alloc | apply pw_below_drewN | apply below_drew1) | exact HB.out)⟩⟩
          case rest =>
            clear HC11
            try clear c1
            try clear c2
            try clear c2b0
            try clear c2b1
            try clear p2
            try clear c4
            try clear c6
            try clear c6b0
            try clear c6b1
            try clear c12
            try clear c12b0
            try clear p2
            obtain ⟨kq, x31_10, rfl, HA, HJ10, HO_3, HB⟩ := hcut
            cases kq with
            | zero => exact absurd HA.out (by simp [laws_FnPairGet.j1])
            | succ kj10 =>
              have H := HA.out
              clear HA
              simp only [laws_FnPairGet.j1] at H
              by_cases c15 : x31_10 = true
              · subst c15
                have H1 : (if 0 ≤ x7_1 then (if x7_1 < (t267.length : Int) then (if ((rd_T28 t267 x7_1).f0).toList = t268.toList then (laws_FnPairGet.l0 kj10 t267 t268 t271 ((rd_T28 t267 x7_1).f1) (wrap64 (x7_1 + 1))) else (laws_FnPairGet.l0 kj10 t267 t268 t271 x6_1 (wrap64 (x7_1 + 1)))) else (none)) else (none)) = some r := by rw [if_pos rfl] at H; exact H
                clear H
                have H := H1
                clear H1
                by_cases c16 : 0 ≤ x7_1
                · rw [if_pos c16] at H
                  have c16b0 : decide (0 ≤ x7_1) = true := decide_eq_true c16
                  clear c16
                  by_cases c17 : x7_1 < (t267.length : Int)
                  · rw [if_pos c17] at H
                    have c17b0 : decide (x7_1 < (t267.length : Int)) = true := decide_eq_true c17
                    clear c17
                    by_cases c18 : ((rd_T28 t267 x7_1).f0).toList = t268.toList
                    · rw [if_pos c18] at H
                      have c18b0 : (((rd_T28 t267 x7_1).f0).toList == t268.toList) = true := beq_iff_eq.mpr c18
                      have c18b1 : (((rd_T28 t267 x7_1).f0).toList != t268.toList) = false := bne_eq_false_iff_eq.mpr c18
                      clear c18
                      have H' := Aside0.mk H
                      clear H
                      have p274 : 0 ≤ (x7_1 : Int) := of_decide_eq_true (by first | (with_reducible assumption) | assumption)
                      have q274 : x7_1 < (t267.length : Int) := of_decide_eq_true (by first | (with_reducible assumption) | assumption)
                      obtain ⟨ad274, e274, hx274_0, hx274_1⟩ := at_T28 (Kd.R_reads' HO_3.out).2.2 x7_1 p274 q274
                      cases e274
                      replace p274 := eq_true p274
                      replace q274 := eq_true q274
                      have p275 : 0 ≤ (x7_1 : Int) := of_decide_eq_true (by first | (with_reducible assumption) | assumption)
                      have q275 : x7_1 < (t267.length : Int) := of_decide_eq_true (by first | (with_reducible assumption) | assumption)
                      obtain ⟨ad275, e275, hx275_0, hx275_1⟩ := at_T28 (Kd.R_reads' HO_3.out).2.2 x7_1 p275 q275
                      obtain rfl : ad274 = ad275 := (by injection e275)
                      replace p275 := eq_true p275
                      replace q275 := eq_true q275
                      go_wp2
                      go_roundg kj10
                      case measure => have := HK1.out; have := HJ10.out; omega
                      case rel => exact ⟨((rd_T28 t267 x7_1).f1), (wrap64 (x7_1 + 1)), (by first | rfl | (simp; done) | (simp [bne]; done) | (simp [*]; done)), (by first | rfl | (simp; done) | (simp [bne]; done) | (simp [*]; done)), H', ⟨by have := HK1.out; have := HJ10.out; omega⟩, ⟨by (with_reducible repeat (first | apply Kd.R_alloc | apply Kd.R_drewN | apply Kd.R_drew)); exact HO_3.out⟩, ⟨by repeat (first | (with_reducible first | exact HB.out | apply below_alloc | apply pw_below_drewN | apply below_drew1) | exact HB.out)⟩⟩
                    · rw [if_neg c18] at H
                      have c18b0 : (((rd_T28 t267 x7_1).f0).toList == t268.toList) = false := beq_eq_false_iff_ne.mpr c18
                      have c18b1 : (((rd_T28 t267 x7_1).f0).toList != t268.toList) = true := bne_iff_ne.mpr c18
                      have H' := Aside0.mk H
                      clear H
                      have p274 : 0 ≤ (x7_1 : Int) := of_decide_eq_true (by first | (with_reducible assumption) | assumption)
                      have q274 : x7_1 < (t267.length : Int) := of_decide_eq_true (by first | (with_reducible assumption) | assumption)
                      obtain ⟨ad274, e274, hx274_0, hx274_1⟩ := at_T28 (Kd.R_reads' HO_3.out).2.2 x7_1 p274 q274
                      cases e274
                      replace p274 := eq_true p274
                      replace q274 := eq_true q274
                      go_wp2
                      go_roundg kj10
                      case measure => have := HK1.out; have := HJ10.out; omega
                      case rel => exact ⟨(x6_1), (wrap64 (x7_1 + 1)), (by first | rfl | (simp; done) | (simp [bne]; done) | (simp [*]; done)), (by first | rfl | (simp; done) | (simp [bne]; done) | (simp [*]; done)), H', ⟨by have := HK1.out; have := HJ10.out; omega⟩, ⟨by (with_reducible repeat (first | apply Kd.R_alloc | apply Kd.R_drewN | apply Kd.R_drew)); exact HO_3.out⟩, ⟨by repeat (first | (with_reducible first | exact HB.out | apply below_alloc | apply pw_below_drewN | apply below_drew1) | exact HB.out)⟩⟩
                  · rw [if_neg c17] at H
                    exact absurd H (by simp)
                · rw [if_neg c16] at H
                  exact absurd H (by simp)
              · replace c15 := Bool.eq_false_iff.mpr c15
                subst c15
                have H1 : (if t271 = x6_1 then ((laws_alive.f kj10).bind fun t276 => (some t276)) else (none)) = some r := by rw [if_neg (show ¬ (false = true) by decide)] at H; exact H
                clear H
                have H := H1
                clear H1
                by_cases c19 : t271 = x6_1
                · rw [if_pos c19] at H
                  have c19b0 : (t271 == x6_1) = true := beq_iff_eq.mpr c19
                  have c19b1 : (t271 != x6_1) = false := bne_eq_false_iff_eq.mpr c19
                  clear c19
                  replace H := Option.bind_eq_some_iff.mp H
                  obtain ⟨t276, A200, H⟩ := H
                  replace H : (some t276) = some r := H
                  have A20 := Aside0.mk A200
                  clear A200
                  obtain rfl := Option.some.inj H
                  go_wp2_with (first | (go_at_call 15; (with_reducible refine (laws_alive.calls kj10  t276 _ A20.out).mono ?_); rintro e w21 ⟨rfl, hb⟩; have n0_ := Aside0.mk (Kd.R_below (by (with_reducible repeat (first | apply Kd.R_alloc | apply Kd.R_drewN | apply Kd.R_drew)); exact HO_3.out) hb); have n1_ := Aside0.mk (below_step (by repeat (first | (with_reducible first | exact HB.out | apply below_alloc | apply pw_below_drewN | apply below_drew1) | exact HB.out)) hb); clear HO_3; clear HB; have HO_3 := n0_; have HB := n1_; clear n0_ n1_; (try clear hb); (try clear hb2); (try clear hk); (try clear hi)))
                  go_ret
                  exact ⟨by first | rfl | (simp only [u8_w_, w64_u8_]; done) | (simp only [u8_w_, w64_u8_]; rfl) | (simp [errW_none, errW_some] <;> rfl) | (simp [*, errW_none, errW_some] <;> rfl), by repeat (first | (with_reducible first | exact HB.out | apply below_alloc | apply pw_below_drewN | apply below_drew1) | exact HB.out)⟩
                · rw [if_neg c19] at H
                  exact absurd H (by simp)
    · rw [if_neg c6] at H
      exact absurd H (by simp)

/-- THE ONE PURE STATEMENT of laws_FnPairGet: yours. -/
def laws_FnPairGet.Pure : Prop := ∀ (l0 : List Int), l0.length ≤ maxLen → l0.length * 1 ≤ 140737488351232 → (∀ x ∈ l0, (Lit.int .u8 x).wf = true) → ∃ k, laws_FnPairGet.f k l0 = some true
theorem laws_FnPairGet.walk (P : laws_FnPairGet.Pure) (a0 : Option Addr) (len0 cap0 : Nat) (z0 : List Int) (w : World) (w0 : (a0 = none ∧ len0 = 0 ∧ cap0 = 0 ∧ z0 = []) ∨ ∃ x, a0 = some x ∧ len0 ≤ cap0 ∧ cap0 ≤ maxLen ∧ z0.length = cap0 ∧ (∀ i, i < z0.length → w.cell? (x.add i) = some (.int .u8 (z0.getD i 0))) ∧ ∀ n ∈ z0, (Lit.int .u8 n).wf = true) (y0 : len0 * 1 ≤ 140737488351232) :
    Calls Try.prog 4 #[.slice a0 len0 cap0] w fun e w' => e = .returned (.bool true) ∧ Below w.heap.size w w' := by
  obtain ⟨l0, rfl, hr0, hm0, hw0, hc0⟩ := ReadsInt.ofRowC w0
  obtain ⟨k, h⟩ := P l0 hm0 y0 hw0
  refine (laws_FnPairGet.calls k _ _ l0 true w (Kd.C_of_reads (d := (0 : Int)) (h1 := fun _ => rfl) hr0) hc0 h).mono ?_
  rintro e w' ⟨rfl, hd⟩
  exact ⟨rfl, hd⟩

end Go.Proofs.Ytmbkffpcbknndaa.PFnPairGet
