-- Written for this claim by a program of this session (wip/myprint in the proofs' repo)
import Derived.Test.YtengnnhehjcfhaaPFnExactPagesDropx0
import Derived.Test.YtengnnhehjcfhaaPFnExactPagesDropx6
import Derived.Test.YtengnnhehjcfhaaPFnExactPagesDropx7
import Derived.Test.YtengnnhehjcfhaaWZip
-- slim3
namespace Go.Proofs.Ytengnnhehjcfhaa.PFnExactPagesDrop
open Go.RowKit Go.Proofs.YtengnnhehjcfhaaW.PrintWords Go.Proofs.YtengnnhehjcfhaaW.PrintLast Go.Proofs.YtengnnhehjcfhaaW.PrintMore
attribute [local go_sem] max2_int min2_int max_two min_two max_three min_three max_four min_four max2_strs min2_strs   -- for this text's walks alone
set_option linter.unusedVariables false
set_option linter.unusedSimpArgs false
set_option maxHeartbeats 8000000
set_option maxRecDepth 100000

/-! ### cmp_Compare_string: function 67 -/
def cmp_Compare_string.f (a0 : ByteArray) (a1 : ByteArray) : Option (Int) := (cmp_isNaN_string.f a0).bind fun t329 => ((cmp_isNaN_string.f a1).bind fun t330 => (if t329 = true then (if t330 = true then (some 0) else (some (-1))) else (if t330 = true then (some 1) else (if (Op.bytesLess a0.toList a1.toList) = true then (some (-1)) else (if a0.toList = a1.toList then (some 0) else (some 1))))))
theorem cmp_Compare_string.calls (a0 : ByteArray) (a1 : ByteArray) (r : Int) (w : World) (h : cmp_Compare_string.f a0 a1 = some r) :
  Calls Try.prog 67 #[.string a0, .string a1] w fun e w' => e = .returned (.int .i64 r) ∧ Drawn0 w w' := by
 have H : ((cmp_isNaN_string.f a0).bind fun t329 => ((cmp_isNaN_string.f a1).bind fun t330 => (if t329 = true then (if t330 = true then (some 0) else (some (-1))) else (if t330 = true then (some 1) else (if (Op.bytesLess a0.toList a1.toList) = true then (some (-1)) else (if a0.toList = a1.toList then (some 0) else (some 1))))))) = some r := h
 clear h
 replace H := Option.bind_eq_some_iff.mp H
 obtain ⟨t329, A30, H⟩ := H
 try dsimp only at H
 have A3 := ak A30
 clear A30
 replace H := Option.bind_eq_some_iff.mp H
 obtain ⟨t330, A40, H⟩ := H
 try dsimp only at H
 have A4 := ak A40
 clear A40
 by_cases c5 : t329 = true
 ·subst c5
  rw [if_pos rfl] at H
  by_cases c6 : t330 = true
  ·subst c6
   rw [if_pos rfl] at H
   obtain rfl := Option.some.inj H
   go_enter Try.func67, Try.ntmps67
   go_wp2_with (first | ((with_reducible refine gate_callee (f := 73) rfl ?_); refine goesL_ (some 8) rfl rfl Try.func73 (by kernel_rfl) rfl #[.string a0] rfl (by (try simp only [List.map_toArray, List.map_cons, List.map_nil]); first | done | rfl | (simp only [List.length_drop, List.length_take]; rfl)) ?_; (with_reducible refine (cmp_isNaN_string.calls a0 true _ A3.out).mono ?_); rintro e w' ⟨rfl, ⟨nd, rfl⟩⟩; refine ⟨_, rfl, ?_⟩) | ((with_reducible refine gate_callee (f := 73) rfl ?_); refine goesL_ (some 10) rfl rfl Try.func73 (by kernel_rfl) rfl #[.string a1] rfl (by (try simp only [List.map_toArray, List.map_cons, List.map_nil]); first | done | rfl | (simp only [List.length_drop, List.length_take]; rfl)) ?_; (with_reducible refine (cmp_isNaN_string.calls a1 true _ A4.out).mono ?_); rintro e w' ⟨rfl, ⟨nd, rfl⟩⟩; refine ⟨_, rfl, ?_⟩))
   go_ret
   exact ⟨by first | rfl | (simp; done) | (simp [*]; done), by repeat (first | exact Drawn0.refl _ | apply Drawn0.step)⟩
  ·replace c6 := Bool.eq_false_iff.mpr c6
   subst c6
   rw [if_neg (show ¬ (false = true) by decide)] at H
   obtain rfl := Option.some.inj H
   go_enter Try.func67, Try.ntmps67
   go_wp2_with (first | ((with_reducible refine gate_callee (f := 73) rfl ?_); refine goesL_ (some 8) rfl rfl Try.func73 (by kernel_rfl) rfl #[.string a0] rfl (by (try simp only [List.map_toArray, List.map_cons, List.map_nil]); first | done | rfl | (simp only [List.length_drop, List.length_take]; rfl)) ?_; (with_reducible refine (cmp_isNaN_string.calls a0 true _ A3.out).mono ?_); rintro e w' ⟨rfl, ⟨nd, rfl⟩⟩; refine ⟨_, rfl, ?_⟩) | ((with_reducible refine gate_callee (f := 73) rfl ?_); refine goesL_ (some 10) rfl rfl Try.func73 (by kernel_rfl) rfl #[.string a1] rfl (by (try simp only [List.map_toArray, List.map_cons, List.map_nil]); first | done | rfl | (simp only [List.length_drop, List.length_take]; rfl)) ?_; (with_reducible refine (cmp_isNaN_string.calls a1 false _ A4.out).mono ?_); rintro e w' ⟨rfl, ⟨nd, rfl⟩⟩; refine ⟨_, rfl, ?_⟩))
   go_ret
   exact ⟨by first | rfl | (simp; done) | (simp [*]; done), by repeat (first | exact Drawn0.refl _ | apply Drawn0.step)⟩
 ·replace c5 := Bool.eq_false_iff.mpr c5
  subst c5
  rw [if_neg (show ¬ (false = true) by decide)] at H
  by_cases c7 : t330 = true
  ·subst c7
   rw [if_pos rfl] at H
   obtain rfl := Option.some.inj H
   go_enter Try.func67, Try.ntmps67
   go_wp2_with (first | ((with_reducible refine gate_callee (f := 73) rfl ?_); refine goesL_ (some 8) rfl rfl Try.func73 (by kernel_rfl) rfl #[.string a0] rfl (by (try simp only [List.map_toArray, List.map_cons, List.map_nil]); first | done | rfl | (simp only [List.length_drop, List.length_take]; rfl)) ?_; (with_reducible refine (cmp_isNaN_string.calls a0 false _ A3.out).mono ?_); rintro e w' ⟨rfl, ⟨nd, rfl⟩⟩; refine ⟨_, rfl, ?_⟩) | ((with_reducible refine gate_callee (f := 73) rfl ?_); refine goesL_ (some 10) rfl rfl Try.func73 (by kernel_rfl) rfl #[.string a1] rfl (by (try simp only [List.map_toArray, List.map_cons, List.map_nil]); first | done | rfl | (simp only [List.length_drop, List.length_take]; rfl)) ?_; (with_reducible refine (cmp_isNaN_string.calls a1 true _ A4.out).mono ?_); rintro e w' ⟨rfl, ⟨nd, rfl⟩⟩; refine ⟨_, rfl, ?_⟩))
   go_ret
   exact ⟨by first | rfl | (simp; done) | (simp [*]; done), by repeat (first | exact Drawn0.refl _ | apply Drawn0.step)⟩
  ·replace c7 := Bool.eq_false_iff.mpr c7
   subst c7
   rw [if_neg (show ¬ (false = true) by decide)] at H
   by_cases c8 : (Op.bytesLess a0.toList a1.toList) = true
   ·rw [if_pos c8] at H
    have c8b0 : (Op.bytesLess a0.toList a1.toList) = true := c8
    clear c8
    obtain rfl := Option.some.inj H
    go_enter Try.func67, Try.ntmps67
    go_wp2_with (first | ((with_reducible refine gate_callee (f := 73) rfl ?_); refine goesL_ (some 8) rfl rfl Try.func73 (by kernel_rfl) rfl #[.string a0] rfl (by (try simp only [List.map_toArray, List.map_cons, List.map_nil]); first | done | rfl | (simp only [List.length_drop, List.length_take]; rfl)) ?_; (with_reducible refine (cmp_isNaN_string.calls a0 false _ A3.out).mono ?_); rintro e w' ⟨rfl, ⟨nd, rfl⟩⟩; refine ⟨_, rfl, ?_⟩) | ((with_reducible refine gate_callee (f := 73) rfl ?_); refine goesL_ (some 10) rfl rfl Try.func73 (by kernel_rfl) rfl #[.string a1] rfl (by (try simp only [List.map_toArray, List.map_cons, List.map_nil]); first | done | rfl | (simp only [List.length_drop, List.length_take]; rfl)) ?_; (with_reducible refine (cmp_isNaN_string.calls a1 false _ A4.out).mono ?_); rintro e w' ⟨rfl, ⟨nd, rfl⟩⟩; refine ⟨_, rfl, ?_⟩))
    go_ret
    exact ⟨by first | rfl | (simp; done) | (simp [*]; done), by repeat (first | exact Drawn0.refl _ | apply Drawn0.step)⟩
   ·rw [if_neg c8] at H
    have c8b0 : (Op.bytesLess a0.toList a1.toList) = false := by simpa using c8
    clear c8
    by_cases c9 : a0.toList = a1.toList
    ·rw [if_pos c9] at H
     have c9b0 : (a0.toList == a1.toList) = true := beq_iff_eq.mpr c9
     have c9b1 : (a0.toList != a1.toList) = false := bne_eq_false_iff_eq.mpr c9
     clear c9
     obtain rfl := Option.some.inj H
     go_enter Try.func67, Try.ntmps67
     go_wp2_with (first | ((with_reducible refine gate_callee (f := 73) rfl ?_); refine goesL_ (some 8) rfl rfl Try.func73 (by kernel_rfl) rfl #[.string a0] rfl (by (try simp only [List.map_toArray, List.map_cons, List.map_nil]); first | done | rfl | (simp only [List.length_drop, List.length_take]; rfl)) ?_; (with_reducible refine (cmp_isNaN_string.calls a0 false _ A3.out).mono ?_); rintro e w' ⟨rfl, ⟨nd, rfl⟩⟩; refine ⟨_, rfl, ?_⟩) | ((with_reducible refine gate_callee (f := 73) rfl ?_); refine goesL_ (some 10) rfl rfl Try.func73 (by kernel_rfl) rfl #[.string a1] rfl (by (try simp only [List.map_toArray, List.map_cons, List.map_nil]); first | done | rfl | (simp only [List.length_drop, List.length_take]; rfl)) ?_; (with_reducible refine (cmp_isNaN_string.calls a1 false _ A4.out).mono ?_); rintro e w' ⟨rfl, ⟨nd, rfl⟩⟩; refine ⟨_, rfl, ?_⟩))
     go_ret
     exact ⟨by first | rfl | (simp; done) | (simp [*]; done), by repeat (first | exact Drawn0.refl _ | apply Drawn0.step)⟩
    ·rw [if_neg c9] at H
     have c9b0 : (a0.toList == a1.toList) = false := beq_eq_false_iff_ne.mpr c9
     have c9b1 : (a0.toList != a1.toList) = true := bne_iff_ne.mpr c9
     obtain rfl := Option.some.inj H
     go_enter Try.func67, Try.ntmps67
     go_wp2_with (first | ((with_reducible refine gate_callee (f := 73) rfl ?_); refine goesL_ (some 8) rfl rfl Try.func73 (by kernel_rfl) rfl #[.string a0] rfl (by (try simp only [List.map_toArray, List.map_cons, List.map_nil]); first | done | rfl | (simp only [List.length_drop, List.length_take]; rfl)) ?_; (with_reducible refine (cmp_isNaN_string.calls a0 false _ A3.out).mono ?_); rintro e w' ⟨rfl, ⟨nd, rfl⟩⟩; refine ⟨_, rfl, ?_⟩) | ((with_reducible refine gate_callee (f := 73) rfl ?_); refine goesL_ (some 10) rfl rfl Try.func73 (by kernel_rfl) rfl #[.string a1] rfl (by (try simp only [List.map_toArray, List.map_cons, List.map_nil]); first | done | rfl | (simp only [List.length_drop, List.length_take]; rfl)) ?_; (with_reducible refine (cmp_isNaN_string.calls a1 false _ A4.out).mono ?_); rintro e w' ⟨rfl, ⟨nd, rfl⟩⟩; refine ⟨_, rfl, ?_⟩))
     go_ret
     exact ⟨by first | rfl | (simp; done) | (simp [*]; done), by repeat (first | exact Drawn0.refl _ | apply Drawn0.step)⟩

/-! ### impl_pairPlace_1: function 66 -/
def impl_pairPlace_1.f (a0_0 : ByteArray) (a0_1 : Int) (a1 : ByteArray) : Option (Int) := (cmp_Compare_string.f a0_0 a1).bind fun t332 => (some t332)
theorem impl_pairPlace_1.calls (a0_0 : ByteArray) (a0_1 : Int) (a1 : ByteArray) (r : Int) (w : World) (h : impl_pairPlace_1.f a0_0 a0_1 a1 = some r) :
  Calls Try.prog 66 #[.agg #[.string a0_0, .int .i64 a0_1], .string a1] w fun e w' => e = .returned (.int .i64 r) ∧ Below w.heap.size w w' := by
 have hu65 := Try.underlying65
 have HB := ak (Below.refl w.heap.size w)
 have H : ((cmp_Compare_string.f a0_0 a1).bind fun t332 => (some t332)) = some r := h
 clear h
 replace H := Option.bind_eq_some_iff.mp H
 obtain ⟨t332, A30, H⟩ := H
 try dsimp only at H
 have A3 := ak A30
 clear A30
 obtain rfl := Option.some.inj H
 go_enter Try.func66, Try.ntmps66
 go_wp2_with (first | ((with_reducible refine gate_dst (N := 2) rfl ?_); refine box_event ?hg (N := 2) ?hd (cs := #[.string a0_0, .int .i64 a0_1]) (t := 65) ?hr ?_; (case hd => rfl); (case hg => rfl); (case hr => first | (go_simp; done) | (go_simp; rfl)); intro gb331 hg w4 hbox hb; have n0_ := ak (below_step (by exact hopb HB.out) hb); have n1_ := ak (hbox); have n2_ := ak ((by rw [hg]; exact (below_size (by exact hopb HB.out)) : w.heap.size ≤ gb331)); have n3_ := n2_; clear HB; have HB := n0_; have BK331 := n1_; have GW331 := n2_; have GE331 := n3_; clear n0_ n1_ n2_ n3_; clear hb hbox hg; have hcz5_0 : w4.cell? ⟨gb331, 0, none⟩ = some (.string a0_0) := (blk_cell BK331.out 0).trans rfl; have hcz5_1 : w4.cell? ⟨gb331, 1, none⟩ = some (.int .i64 a0_1) := (blk_cell BK331.out 1).trans rfl; have hfz5_0 := blk_frozen BK331.out 0; have hfz5_1 := blk_frozen BK331.out 1) | ((with_reducible refine gate_callee (f := 67) rfl ?_); refine goesL_ (some 8) rfl rfl Try.func67 (by kernel_rfl) rfl #[.string a0_0, .string a1] rfl (by (try simp only [List.map_toArray, List.map_cons, List.map_nil]); first | done | rfl | (simp only [List.length_drop, List.length_take]; rfl)) ?_; (with_reducible refine (cmp_Compare_string.calls a0_0 a1 t332 _ A3.out).mono ?_); rintro e w' ⟨rfl, ⟨nd, rfl⟩⟩; refine ⟨_, rfl, ?_⟩))
 go_ret
 exact ⟨by first | rfl | (simp [*, errW_none, errW_some] <;> rfl), by repeat (first | exact HB.out | apply bA | apply bN | apply bD | refine bS ?_ GE331.out)⟩

/-! ### impl_pairPlace: function 44 -/
/-- what cmp.Compare says of two strings -/
def impl_pairPlace.cs (a b : ByteArray) : Int := if (Op.bytesLess a.toList b.toList) = true then -1 else if a.toList = b.toList then 0 else 1
/-- the search between lo and hi, with so many rounds left -/
def impl_pairPlace.bs (l : List (S65)) (key : ByteArray) : Nat → Nat → Nat → Option (Int × Bool)
 | 0, _, _ => none
 | k + 1, lo, hi => if lo < hi then (if impl_pairPlace.cs (rd_T65 l (((lo + hi) / 2 : Nat) : Int)).f0 key < 0 then impl_pairPlace.bs l key k ((lo + hi) / 2 + 1) hi else impl_pairPlace.bs l key k lo ((lo + hi) / 2))
   else if lo < l.length then some ((lo : Int), decide (impl_pairPlace.cs (rd_T65 l (lo : Int)).f0 key = 0)) else some ((lo : Int), false)
def impl_pairPlace.f (l0 : List (S65)) (a1 : ByteArray) : Option (Int × Bool) := if l0.length < 5864062014805 then impl_pairPlace.bs l0 a1 (l0.length + 1) 0 l0.length else none
theorem impl_pairPlace.cmp_f (a0 : ByteArray) (a1 : Int) (b : ByteArray) : impl_pairPlace_1.f a0 a1 b = some (impl_pairPlace.cs a0 b) := by
 unfold impl_pairPlace_1.f cmp_Compare_string.f cmp_isNaN_string.f impl_pairPlace.cs
 simp only [bne_self_eq_false, Option.bind_some, Bool.false_eq_true, if_false]
 by_cases h1 : (Op.bytesLess a0.toList b.toList) = true
 ·simp only [if_pos h1, Option.bind_some]
 ·by_cases h2 : a0.toList = b.toList
  ·simp only [if_neg h1, if_pos h2, Option.bind_some]
  ·simp only [if_neg h1, if_neg h2, Option.bind_some]
theorem impl_pairPlace.search (A0 : Option Addr) (c0 : Nat) (l0 : List (S65)) (key : ByteArray) (r1 : Int) (r2 : Bool) (w : World) (hr0 : Kd.C k65 w A0 l0.length l0) (hl : l0.length < 5864062014805) (h : impl_pairPlace.bs l0 key (l0.length + 1) 0 l0.length = some (r1, r2)) :
  Calls Try.prog 65 #[.slice A0 l0.length c0, .string key, .func (.func 66) #[] #[]] w fun e w' => e = .returned (.tuple #[.int .i64 r1, .bool r2]) ∧ Below w.heap.size w w' := by
 have hu65 := Try.underlying65
 have HR0 := ak hr0
 clear hr0
 have H' := ak h
 clear h
 have HB := ak (Below.refl w.heap.size w)
 go_enter Try.func65, Try.ntmps65
 go_wp2
 go_loopg [9, 10] l0.length (fun kx s9 s10 wr => ∃ lo hi fuel : Nat, s9 = .int .i64 lo ∧ s10 = .int .i64 hi ∧ lo ≤ hi ∧ hi ≤ l0.length ∧ hi - lo ≤ kx ∧ Aside0 (impl_pairPlace.bs l0 key fuel lo hi = some (r1, r2)) ∧ Aside0 (Below w.heap.size w wr))
 case atStart => exact ⟨0, l0.length, l0.length + 1, rfl, rfl, Nat.zero_le _, Nat.le_refl _, by omega, H', HB⟩
 case round =>
  clear H' HB
  obtain ⟨lo, hi, fuel, rfl, rfl, hlh, hin, hg, HA, HB⟩ := hrel
  cases fuel with
  | zero => exact absurd HA.out (by simp [impl_pairPlace.bs])
  | succ fuel =>
   have H := HA.out
   clear HA
   rw [impl_pairPlace.bs] at H
   by_cases hlt : lo < hi
   ·rw [if_pos hlt] at H
    obtain ⟨ad, e0, hx0, hx1⟩ := at_T65 HR0.out (((lo + hi) / 2 : Nat) : Int) (by omega) (by omega)
    cases e0
    replace hx0 := bc HB.out hx0
    replace hx1 := bc HB.out hx1
    simp only [Int.toNat_natCast] at hx0 hx1
    have hcf := impl_pairPlace.cmp_f (rd_T65 l0 (((lo + hi) / 2 : Nat) : Int)).f0 (rd_T65 l0 (((lo + hi) / 2 : Nat) : Int)).f1 key
    generalize hcc : impl_pairPlace.cs (rd_T65 l0 (((lo + hi) / 2 : Nat) : Int)).f0 key = cv at H hcf
    clear hcc
    have HCF := ak hcf
    clear hcf
    generalize (rd_T65 l0 (((lo + hi) / 2 : Nat) : Int)).f0 = kf at hx0 HCF
    generalize (rd_T65 l0 (((lo + hi) / 2 : Nat) : Int)).f1 = vf at hx1 HCF
    by_cases hc : cv < 0
    ·rw [if_pos hc] at H
     have H2 := ak H
     clear H
     go_wp2_with (go_at_call 66; (with_reducible refine (impl_pairPlace_1.calls kf vf key cv _ HCF.out).mono ?_); rintro e w1 ⟨rfl, hb⟩; have HB1 := ak (below_step (by exact hopb HB.out) hb); clear hb)
     go_roundg (hi - ((lo + hi) / 2 + 1))
     case measure => omega
     case rel => exact ⟨(lo + hi) / 2 + 1, hi, fuel, by rw [show ((lo : Int) + (hi : Int)) / 2 + 1 = (((lo + hi) / 2 + 1 : Nat) : Int) by omega], rfl, by omega, hin, Nat.le_refl _, H2, HB1⟩
    ·rw [if_neg hc] at H
     have H2 := ak H
     clear H
     go_wp2_with (go_at_call 66; (with_reducible refine (impl_pairPlace_1.calls kf vf key cv _ HCF.out).mono ?_); rintro e w1 ⟨rfl, hb⟩; have HB1 := ak (below_step (by exact hopb HB.out) hb); clear hb)
     go_roundg ((lo + hi) / 2 - lo)
     case measure => omega
     case rel => exact ⟨lo, (lo + hi) / 2, fuel, rfl, by rw [show ((lo : Int) + (hi : Int)) / 2 = (((lo + hi) / 2 : Nat) : Int) by omega], by omega, by omega, Nat.le_refl _, H2, HB1⟩
   ·rw [if_neg hlt] at H
    obtain rfl : hi = lo := by omega
    by_cases hn : hi < l0.length
    ·rw [if_pos hn] at H
     simp only [Option.some.injEq, Prod.mk.injEq] at H
     obtain ⟨rfl, rfl⟩ := H
     obtain ⟨ad, e0, hx0, hx1⟩ := at_T65 HR0.out (hi : Int) (by omega) (by omega)
     cases e0
     replace hx0 := bc HB.out hx0
     replace hx1 := bc HB.out hx1
     simp only [Int.toNat_natCast] at hx0 hx1
     have hcf := impl_pairPlace.cmp_f (rd_T65 l0 (hi : Int)).f0 (rd_T65 l0 (hi : Int)).f1 key
     generalize hcv : impl_pairPlace.cs (rd_T65 l0 (hi : Int)).f0 key = cv at hcf
     have HCV := ak hcv
     have HCF := ak hcf
     clear hcf hcv
     generalize (rd_T65 l0 (hi : Int)).f0 = kf at hx0 HCF
     generalize (rd_T65 l0 (hi : Int)).f1 = vf at hx1 HCF
     by_cases hc : cv = 0
     ·subst hc
      go_wp2_with (go_at_call 66; (with_reducible refine (impl_pairPlace_1.calls kf vf key 0 _ HCF.out).mono ?_); rintro e w1 ⟨rfl, hb⟩; have HB1 := ak (below_step (by exact hopb HB.out) hb); clear hb)
      go_ret2
      exact ⟨by rw [HCV.out]; first | rfl | simp, HB1.out⟩
     ·have hcb : (cv == 0) = false := beq_eq_false_iff_ne.mpr hc
      go_wp2_with (go_at_call 66; (with_reducible refine (impl_pairPlace_1.calls kf vf key cv _ HCF.out).mono ?_); rintro e w1 ⟨rfl, hb⟩; have HB1 := ak (below_step (by exact hopb HB.out) hb); clear hb)
      go_ret2
      exact ⟨by rw [HCV.out]; first | rfl | simp [hc], HB1.out⟩
    ·rw [if_neg hn] at H
     simp only [Option.some.injEq, Prod.mk.injEq] at H
     obtain ⟨rfl, rfl⟩ := H
     go_wp2
     go_ret2
     exact ⟨by first | rfl | simp, by exact hopb HB.out⟩
theorem impl_pairPlace.calls (A0 : Option Addr) (c0 : Nat) (l0 : List (S65)) (a1 : ByteArray) (r1 : Int) (r2 : Bool) (w : World) (hr0 : Kd.C k65 w A0 l0.length l0) (hc0 : l0.length ≤ c0) (h : impl_pairPlace.f l0 a1 = some (r1, r2)) :
  Calls Try.prog 44 #[.slice A0 l0.length c0, .string a1] w fun e w' => e = .returned (.tuple #[.int .i64 r1, .bool r2]) ∧ Below w.heap.size w w' := by
 have HR0 := ak hr0
 clear hr0 hc0
 have H : (if l0.length < 5864062014805 then impl_pairPlace.bs l0 a1 (l0.length + 1) 0 l0.length else none) = some (r1, r2) := h
 clear h
 by_cases c3 : l0.length < 5864062014805
 ·rw [if_pos c3] at H
  have LM := ak c3
  clear c3
  have HA := ak H
  clear H
  go_enter Try.func44, Try.ntmps44
  go_wp2_with (go_at_call 65; (with_reducible refine (impl_pairPlace.search A0 c0 l0 a1 r1 r2 _ HR0.out LM.out HA.out).mono ?_); rintro e w1 ⟨rfl, hb⟩; have HB1 := ak hb; clear hb)
  go_ret2
  exact ⟨rfl, HB1.out⟩
 ·rw [if_neg c3] at H
  exact absurd H (by simp)

/-! ### impl_replaced_Pair: function 52 -/
def impl_replaced_Pair.f (l0 : List (S65)) (a1 : Int) (a2 : Int) (l3 : List (S65)) : Option (List (S65)) := if 0 ≤ a1 ∧ 0 ≤ a2 ∧ a1 + a2 ≤ (l0.length : Int) ∧ l0.length + l3.length < 5864062014805 then some (l0.take a1.toNat ++ l3 ++ l0.drop (a1 + a2).toNat) else none
theorem impl_replaced_Pair.calls (A0 : Option Addr) (c0 : Nat) (l0 : List (S65)) (a1 : Int) (a2 : Int) (A3 : Option Addr) (c3 : Nat) (l3 : List (S65)) (r : List (S65)) (w : World) (hr0 : Kd.C k65 w A0 l0.length l0) (hc0 : l0.length ≤ c0) (hr3 : Kd.C k65 w A3 l3.length l3) (hc3 : l3.length ≤ c3) (h : impl_replaced_Pair.f l0 a1 a2 l3 = some r) :
  Calls Try.prog 52 #[.slice A0 l0.length c0, .int .i64 a1, .int .i64 a2, .slice A3 l3.length c3] w fun e w' => ∃ v0_ : Value, e = .returned (v0_) ∧ Kd.R k65 65 w' w.heap.size (fun _ => True) v0_ r ∧ Below w.heap.size w w' := by
 have HR3 := ak hr3
 clear hr3 hc3
 have H : (if 0 ≤ a1 ∧ 0 ≤ a2 ∧ a1 + a2 ≤ (l0.length : Int) ∧ l0.length + l3.length < 5864062014805 then some (l0.take a1.toNat ++ l3 ++ l0.drop (a1 + a2).toNat) else none) = some r := h
 clear h
 by_cases c : 0 ≤ a1 ∧ 0 ≤ a2 ∧ a1 + a2 ≤ (l0.length : Int) ∧ l0.length + l3.length < 5864062014805
 ·rw [if_pos c] at H
  obtain ⟨h1, h2, h12, hl⟩ := c
  obtain rfl := Option.some.inj H
  clear H
  have LM := ak hl
  have LT := ak (show (l0.take a1.toNat).length = a1.toNat by rw [List.length_take]; omega)
  have LS := ak (show a1.toNat + (l0.length - (a1 + a2).toNat) ≤ l0.length by omega)
  obtain ⟨i0, hi0, hzz⟩ := Option.map_eq_some_iff.1 info65
  simp only [Prod.mk.injEq] at hzz
  obtain ⟨hz0, hz1, hz2⟩ := hzz
  have rt0 := Kd.C_take hr0 (m := a1.toNat) (by omega)
  rw [LT.out] at rt0
  have RT := ak rt0
  clear rt0
  have rd0 : Kd.C k65 w (if c0 = (a1 + a2).toNat then A0 else A0.map (·.add ((a1 + a2).toNat * 2))) (l0.drop (a1 + a2).toNat).length (l0.drop (a1 + a2).toNat) := Kd.C_drop hr0 (m := (a1 + a2).toNat) (c := c0) (by omega) hc0
  rw [List.length_drop] at rd0
  have ht1 := cut_to (P := Try.prog) 36 65 .i64 Try.underlying36 hi0 A0 l0.length c0 a1 h1 (by omega) hc0
  have hd1 := cut_from (P := Try.prog) 36 65 .i64 Try.underlying36 hi0 2 hz1 A0 l0.length c0 (a1 + a2) (by omega) h12
  generalize (if c0 = (a1 + a2).toNat then A0 else A0.map (·.add ((a1 + a2).toNat * 2))) = A1 at rd0 hd1
  have RD := ak rd0
  clear rd0 hr0 hc0
  have hm1 : ∀ W : World, (Instr.makeSlice 36 (.int .i64 0) (.int .i64 ((l0.length : Int) - a2 + (l3.length : Int)))).run Try.prog W = .ok (.slice (some ⟨W.heap.size, 0, none⟩) 0 ((l0.length : Int) - a2 + (l3.length : Int)).toNat) (W.alloc (.cells (madeCells (Value.cells (.agg #[(.string ⟨#[]⟩), (.int .i64 0)])) (((l0.length : Int) - a2 + (l3.length : Int)).toNat * 2)) 65)) := by
   intro W
   have hn : i0.bytes * ((l0.length : Int) - a2 + (l3.length : Int)).toNat ≤ 281474976710656 := by rw [hz2]; omega
   have hr := run_make (P := Try.prog) W 36 65 i0 (.agg #[(.string ⟨#[]⟩), (.int .i64 0)]) Try.underlying36 hi0 hz0 .i64 .i64 0 ((l0.length : Int) - a2 + (l3.length : Int)) (Int.le_refl _) (by omega) (by rw [hz2]; omega) (by omega)
   rw [hz1] at hr
   exact hr
  have HO0 := ak (show Kd.R k65 65 (w.alloc (.cells (madeCells (Value.cells (.agg #[(.string ⟨#[]⟩), (.int .i64 0)])) (((l0.length : Int) - a2 + (l3.length : Int)).toNat * 2)) 65)) w.heap.size (fun _ => True) (.slice (some ⟨w.heap.size, 0, none⟩) 0 ((l0.length : Int) - a2 + (l3.length : Int)).toNat) [] from
   ⟨fun _ _ => trivial, [], World.ownsRow_made w _ _ (Nat.le_refl _) (by simp only [maxLen]; omega) (size_madeCells _ _), Reps.none _ _⟩)
  have HB0 := ak (below_alloc (Below.refl w.heap.size w) (.cells (madeCells (Value.cells (.agg #[(.string ⟨#[]⟩), (.int .i64 0)])) (((l0.length : Int) - a2 + (l3.length : Int)).toNat * 2)) 65))
  generalize madeCells (Value.cells (.agg #[(.string ⟨#[]⟩), (.int .i64 0)])) (((l0.length : Int) - a2 + (l3.length : Int)).toNat * 2) = cs at hm1 HO0 HB0
  generalize hN : ((l0.length : Int) - a2 + (l3.length : Int)).toNat = N at hm1 HO0
  clear hN hz0 hz1 hz2 hi0 hl
  obtain ⟨ya, hya⟩ : ∃ y_ : List (S65), y_ = l0.take a1.toNat := ⟨_, rfl⟩
  obtain ⟨yb, hyb⟩ : ∃ y_ : List (S65), y_ = ya ++ l3 := ⟨_, rfl⟩
  obtain ⟨yd, hyd⟩ : ∃ y_ : List (S65), y_ = l0.drop (a1 + a2).toNat := ⟨_, rfl⟩
  obtain ⟨yc, hyc⟩ : ∃ y_ : List (S65), y_ = yb ++ yd := ⟨_, rfl⟩
  rw [← hya] at RT LT
  rw [← hyd] at RD
  rw [← hya, ← hyd, ← hyb, ← hyc]
  have LB := ak (show yb.length = ya.length + l3.length by rw [hyb, List.length_append])
  have NB := ak hyb
  have NC := ak hyc
  clear hya hyb hyd hyc
  have hl0 : (l0.length : Int) < 5864062014805 := by have := LM.out; omega
  have hl3 : (l3.length : Int) < 5864062014805 := by have := LM.out; omega
  have hsum : a1 + a2 ≤ 140737488355328 := by omega
  go_enter Try.func52, Try.ntmps52
  go_upto_region 2 with fail
  clear hl0 hl3 hm1
  go_wp2_with (first | ((with_reducible refine gate_builtin (b := .append) (xs := #[.tmp 18, .tmp 21]) rfl ?_); (try (refine gate_guard (by rfl) ?_; dsimp only)); at_builtin; refine Kd.R_append_rows k65 (w0 := w) w.heap.size rfl (.tmp 18) (.tmp 21) 36 65 (.agg #[(.string ⟨#[]⟩), (.int .i64 0)]) 24 rfl Try.underlying36 info65 rfl (by decide) (by omega) (.slice (some ⟨w.heap.size, 0, none⟩) 0 N) ([] : List (S65)) (ya) _ _ _ (fun _ => True) (fun _ => False) rfl rfl ?aO ?aR (fun _ _ h => h) (fun _ h => h.elim) ?aF ?aB ?aS ?aL ?_; (case aR => exact (Kd.C_below RT.out HB0.out)); (case aB => exact HB0.out); (case aF => exact (fun _ _ => trivial)); (case aO => exact HO0.out); (case aS => exact HB0.out.size); (case aL => have hl_ := LM.out; have ht_ := LT.out; have hs_ := LS.out; have hb_ := LB.out; (try simp only [List.length_nil]); omega); intro v1 w1 ho hb hg hat; rw [List.nil_append] at ho; have HO1 := ak ho; have HB1 := ak hb; clear ho hb hg hat; obtain ⟨Ao1, co1, eo1⟩ := Kd.R_slice HO1.out; subst eo1) | ((with_reducible refine gate_builtin (b := .append) (xs := #[.tmp 23, .tmp 24]) rfl ?_); (try (refine gate_guard (by rfl) ?_; dsimp only)); at_builtin; refine Kd.R_append_rows k65 (w0 := w) w.heap.size rfl (.tmp 23) (.tmp 24) 36 65 (.agg #[(.string ⟨#[]⟩), (.int .i64 0)]) 24 rfl Try.underlying36 info65 rfl (by decide) (by omega) (.slice Ao1 ya.length co1) (ya) (l3) _ _ _ (fun _ => True) (fun _ => False) rfl rfl ?aO ?aR (fun _ _ h => h) (fun _ h => h.elim) ?aF ?aB ?aS ?aL ?_; (case aR => exact (Kd.C_below HR3.out HB1.out)); (case aB => exact HB1.out); (case aF => exact (fun _ _ => trivial)); (case aO => exact HO1.out); (case aS => exact HB1.out.size); (case aL => have hl_ := LM.out; have ht_ := LT.out; have hs_ := LS.out; have hb_ := LB.out; (try simp only [List.length_nil]); omega); intro v2 w2 ho hb hg hat; rw [← NB.out] at ho; have HO2 := ak ho; have HB2 := ak hb; clear ho hb hg hat; obtain ⟨Ao2, co2, eo2⟩ := Kd.R_slice HO2.out; subst eo2) | ((with_reducible refine gate_builtin (b := .append) (xs := #[.tmp 26, .tmp 31]) rfl ?_); (try (refine gate_guard (by rfl) ?_; dsimp only)); at_builtin; refine Kd.R_append_rows k65 (w0 := w) w.heap.size rfl (.tmp 26) (.tmp 31) 36 65 (.agg #[(.string ⟨#[]⟩), (.int .i64 0)]) 24 rfl Try.underlying36 info65 rfl (by decide) (by omega) (.slice Ao2 yb.length co2) (yb) (yd) _ _ _ (fun _ => True) (fun _ => False) rfl rfl ?aO ?aR (fun _ _ h => h) (fun _ h => h.elim) ?aF ?aB ?aS ?aL ?_; (case aR => exact (Kd.C_below RD.out HB2.out)); (case aB => exact HB2.out); (case aF => exact (fun _ _ => trivial)); (case aO => exact HO2.out); (case aS => exact HB2.out.size); (case aL => have hl_ := LM.out; have ht_ := LT.out; have hs_ := LS.out; have hb_ := LB.out; (try simp only [List.length_nil]); omega); intro v3 w3 ho hb hg hat; rw [← NC.out] at ho; have HO3 := ak ho; have HB3 := ak hb; clear ho hb hg hat; obtain ⟨Ao3, co3, eo3⟩ := Kd.R_slice HO3.out; subst eo3))
  go_ret
  exact ⟨_, rfl, HO3.out, HB3.out⟩
 ·rw [if_neg c] at H
  exact absurd H (by simp)

/-! ### impl_PairDrop: function 33 -/
def impl_PairDrop.f (k : Nat) (l0 : List (S65)) (a1 : ByteArray) : Option ((List (S65)) × Bool) := (impl_PairsValid.f k l0).bind fun t333 => (if t333 = true then ((impl_pairPlace.f l0 a1).bind fun bt334 => (if bt334.2 = true then ((impl_replaced_Pair.f l0 bt334.1 1 ([] : List (S65))).bind fun t336 => (some (t336, true))) else ((impl_copyOf_Pair.f l0).bind fun t339 => (some (t339, false))))) else (some (([] : List (S65)), false)))
theorem impl_PairDrop.mono : ∀ a0 a1 k, LeO (impl_PairDrop.f k a0 a1) (impl_PairDrop.f (k + 1) a0 a1) := by
 intro a0 a1 k
 unfold impl_PairDrop.f
 repeat' first
   | (with_reducible exact impl_PairsValid.mono _ _)
   | (with_reducible exact LeO.refl _)
   | (with_reducible exact LeO.none _)
   | (with_reducible refine LeO.ite ?_ ?_)
   | (with_reducible refine LeO.bind ?_ (fun _ => ?_))
   | exact LeO.none _
   | refine LeO.ite ?_ ?_
   | refine LeO.bind ?_ (fun _ => ?_)
theorem impl_PairDrop.calls (k : Nat) (A0 : Option Addr) (c0 : Nat) (l0 : List (S65)) (a1 : ByteArray) (r1 : List (S65)) (r2 : Bool) (w : World) (hr0 : Kd.C k65 w A0 l0.length l0) (hc0 : l0.length ≤ c0) (h : impl_PairDrop.f k l0 a1 = some (r1, r2)) :
  Calls Try.prog 33 #[.slice A0 l0.length c0, .string a1] w fun e w' => ∃ v0_ : Value, e = .returned (.tuple #[v0_, .bool r2]) ∧ Kd.R k65 65 w' w.heap.size (fun _ => True) v0_ r1 ∧ Below w.heap.size w w' := by
 have HR0 := ak hr0
 have HC0 := ak hc0
 clear hr0 hc0
 have HB := ak (Below.refl w.heap.size w)
 have H : ((impl_PairsValid.f k l0).bind fun t333 => (if t333 = true then ((impl_pairPlace.f l0 a1).bind fun bt334 => (if bt334.2 = true then ((impl_replaced_Pair.f l0 bt334.1 1 ([] : List (S65))).bind fun t336 => (some (t336, true))) else ((impl_copyOf_Pair.f l0).bind fun t339 => (some (t339, false))))) else (some (([] : List (S65)), false)))) = some (r1, r2) := h
 clear h
 replace H := Option.bind_eq_some_iff.mp H
 obtain ⟨t333, A30, H⟩ := H
 try dsimp only at H
 have A3 := ak A30
 clear A30
 by_cases c4 : t333 = true
 ·subst c4
  rw [if_pos rfl] at H
  replace H := Option.bind_eq_some_iff.mp H
  obtain ⟨⟨t334, t335⟩, A50, H⟩ := H
  try dsimp only at H
  have A5 := ak A50
  clear A50
  by_cases c6 : t335 = true
  ·subst c6
   rw [if_pos rfl] at H
   replace H := Option.bind_eq_some_iff.mp H
   obtain ⟨t336, A70, H⟩ := H
   try dsimp only at H
   have A7 := ak A70
   clear A70
   simp only [Option.some.injEq, Prod.mk.injEq] at H
   obtain ⟨rfl, rfl⟩ := H
   go_enter Try.func33, Try.ntmps33
   go_wp2_with (first | ((with_reducible refine gate_callee (f := 51) rfl ?_); refine goesL_ (some 9) rfl rfl Try.func51 (by kernel_rfl) rfl #[.slice A0 l0.length c0] rfl (by (try simp only [List.map_toArray, List.map_cons, List.map_nil]); first | done | rfl | (simp only [List.length_drop, List.length_take]; rfl)) ?_; (with_reducible refine (impl_PairsValid.calls k _ _ l0 true _ ?side1 ?side2 A3.out).mono ?_); (case side1 => repeat (first | exact HR0.out | (with_reducible refine Kd.C_alloc ?_ _) | (with_reducible refine Kd.C_drewN ?_ _) | (with_reducible refine Kd.C_drew ?_))); (case side2 => exact HC0.out); rintro e w8 ⟨rfl, hb⟩; refine ⟨_, rfl, ?_⟩; replace HB := ak (below_step (by exact hopb HB.out) hb); (try clear hb)) | ((with_reducible refine gate_callee (f := 44) rfl ?_); refine goesL_ (some 14) rfl rfl Try.func44 (by kernel_rfl) rfl #[.slice A0 l0.length c0, .string a1] rfl (by (try simp only [List.map_toArray, List.map_cons, List.map_nil]); first | done | rfl | (simp only [List.length_drop, List.length_take]; rfl)) ?_; (with_reducible refine (impl_pairPlace.calls _ _ l0 a1 t334 true _ ?side1 ?side2 A5.out).mono ?_); (case side1 => repeat (first | exact (Kd.C_below HR0.out HB.out) | (with_reducible refine Kd.C_alloc ?_ _) | (with_reducible refine Kd.C_drewN ?_ _) | (with_reducible refine Kd.C_drew ?_))); (case side2 => exact HC0.out); rintro e w9 ⟨rfl, hb⟩; refine ⟨_, rfl, ?_⟩; replace HB := ak (below_step (by exact hopb HB.out) hb); (try clear hb)) | ((with_reducible refine gate_callee (f := 52) rfl ?_); refine goesL_ (some 23) rfl rfl Try.func52 (by kernel_rfl) rfl #[.slice A0 l0.length c0, .int .i64 t334, .int .i64 1, .slice none 0 0] rfl (by (try simp only [List.map_toArray, List.map_cons, List.map_nil]); first | done | rfl | (simp only [List.length_drop, List.length_take]; rfl)) ?_; (refine (impl_replaced_Pair.calls _ _ l0 t334 1 _ _ ([] : List (S65)) t336 _ ?side1 ?side2 ?side3 ?side4 A7.out).mono ?_); (case side1 => repeat (first | exact (Kd.C_below HR0.out HB.out) | (with_reducible refine Kd.C_alloc ?_ _) | (with_reducible refine Kd.C_drewN ?_ _) | (with_reducible refine Kd.C_drew ?_))); (case side2 => exact HC0.out); (case side3 => exact Kd.C_nil _ _); (case side4 => exact Nat.le_refl _); rintro e w10 ⟨v337, rfl, ho0, hb⟩; refine ⟨_, rfl, ?_⟩; have HO338 := ak (Kd.R_lower ho0 (below_size (by exact hopb HB.out))); replace HB := ak (below_step (by exact hopb HB.out) hb); (try clear hb); (try clear ho0)))
   go_ret2
   exact ⟨_, by first | rfl | (simp [*, errW_none, errW_some] <;> rfl), by (with_reducible repeat (first | apply Kd.R_alloc | apply Kd.R_drewN | apply Kd.R_drew)); exact HO338.out, by exact hopb HB.out⟩
  ·replace c6 := Bool.eq_false_iff.mpr c6
   subst c6
   rw [if_neg (show ¬ (false = true) by decide)] at H
   replace H := Option.bind_eq_some_iff.mp H
   obtain ⟨t339, A110, H⟩ := H
   try dsimp only at H
   have A11 := ak A110
   clear A110
   simp only [Option.some.injEq, Prod.mk.injEq] at H
   obtain ⟨rfl, rfl⟩ := H
   go_enter Try.func33, Try.ntmps33
   go_wp2_with (first | ((with_reducible refine gate_callee (f := 51) rfl ?_); refine goesL_ (some 9) rfl rfl Try.func51 (by kernel_rfl) rfl #[.slice A0 l0.length c0] rfl (by (try simp only [List.map_toArray, List.map_cons, List.map_nil]); first | done | rfl | (simp only [List.length_drop, List.length_take]; rfl)) ?_; (with_reducible refine (impl_PairsValid.calls k _ _ l0 true _ ?side1 ?side2 A3.out).mono ?_); (case side1 => repeat (first | exact HR0.out | (with_reducible refine Kd.C_alloc ?_ _) | (with_reducible refine Kd.C_drewN ?_ _) | (with_reducible refine Kd.C_drew ?_))); (case side2 => exact HC0.out); rintro e w12 ⟨rfl, hb⟩; refine ⟨_, rfl, ?_⟩; replace HB := ak (below_step (by exact hopb HB.out) hb); (try clear hb)) | ((with_reducible refine gate_callee (f := 44) rfl ?_); refine goesL_ (some 14) rfl rfl Try.func44 (by kernel_rfl) rfl #[.slice A0 l0.length c0, .string a1] rfl (by (try simp only [List.map_toArray, List.map_cons, List.map_nil]); first | done | rfl | (simp only [List.length_drop, List.length_take]; rfl)) ?_; (with_reducible refine (impl_pairPlace.calls _ _ l0 a1 t334 false _ ?side1 ?side2 A5.out).mono ?_); (case side1 => repeat (first | exact (Kd.C_below HR0.out HB.out) | (with_reducible refine Kd.C_alloc ?_ _) | (with_reducible refine Kd.C_drewN ?_ _) | (with_reducible refine Kd.C_drew ?_))); (case side2 => exact HC0.out); rintro e w13 ⟨rfl, hb⟩; refine ⟨_, rfl, ?_⟩; replace HB := ak (below_step (by exact hopb HB.out) hb); (try clear hb)) | ((with_reducible refine gate_callee (f := 46) rfl ?_); refine goesL_ (some 20) rfl rfl Try.func46 (by kernel_rfl) rfl #[.slice A0 l0.length c0] rfl (by (try simp only [List.map_toArray, List.map_cons, List.map_nil]); first | done | rfl | (simp only [List.length_drop, List.length_take]; rfl)) ?_; (with_reducible refine (impl_copyOf_Pair.calls _ _ l0 t339 _ ?side1 ?side2 A11.out).mono ?_); (case side1 => repeat (first | exact (Kd.C_below HR0.out HB.out) | (with_reducible refine Kd.C_alloc ?_ _) | (with_reducible refine Kd.C_drewN ?_ _) | (with_reducible refine Kd.C_drew ?_))); (case side2 => exact HC0.out); rintro e w14 ⟨v340, rfl, ho0, hb⟩; refine ⟨_, rfl, ?_⟩; have HO341 := ak (Kd.R_lower ho0 (below_size (by exact hopb HB.out))); replace HB := ak (below_step (by exact hopb HB.out) hb); (try clear hb); (try clear ho0)))
   go_ret2
   exact ⟨_, by first | rfl | (simp [*, errW_none, errW_some] <;> rfl), by (with_reducible repeat (first | apply Kd.R_alloc | apply Kd.R_drewN | apply Kd.R_drew)); exact HO341.out, by exact hopb HB.out⟩
 ·replace c4 := Bool.eq_false_iff.mpr c4
  subst c4
  rw [if_neg (show ¬ (false = true) by decide)] at H
  simp only [Option.some.injEq, Prod.mk.injEq] at H
  obtain ⟨rfl, rfl⟩ := H
  go_enter Try.func33, Try.ntmps33
  go_wp2_with (first | ((with_reducible refine gate_callee (f := 51) rfl ?_); refine goesL_ (some 9) rfl rfl Try.func51 (by kernel_rfl) rfl #[.slice A0 l0.length c0] rfl (by (try simp only [List.map_toArray, List.map_cons, List.map_nil]); first | done | rfl | (simp only [List.length_drop, List.length_take]; rfl)) ?_; (with_reducible refine (impl_PairsValid.calls k _ _ l0 false _ ?side1 ?side2 A3.out).mono ?_); (case side1 => repeat (first | exact HR0.out | (with_reducible refine Kd.C_alloc ?_ _) | (with_reducible refine Kd.C_drewN ?_ _) | (with_reducible refine Kd.C_drew ?_))); (case side2 => exact HC0.out); rintro e w15 ⟨rfl, hb⟩; refine ⟨_, rfl, ?_⟩; replace HB := ak (below_step (by exact hopb HB.out) hb); (try clear hb)))
  go_ret2
  exact ⟨_, by first | rfl | (simp [*, errW_none, errW_some] <;> rfl), by first | exact Kd.R_nil _ _ _ _ _ | exact Kd.N_nil _ _ _ _ _ | exact Kd.V_nil _ _ _ _ _ | exact Kd.Q_nil _ _ _ _ _ | exact Kd.S_nil _ _ _ _ _, by exact hopb HB.out⟩

/-! ### impl_replaced_Page: function 47 -/
def impl_replaced_Page.f (l0 : List (S53)) (a1 : Int) (a2 : Int) (l3 : List (S53)) : Option (List (S53)) := if 0 ≤ a1 ∧ 0 ≤ a2 ∧ a1 + a2 ≤ (l0.length : Int) ∧ l0.length + l3.length < 5864062014805 then some (l0.take a1.toNat ++ l3 ++ l0.drop (a1 + a2).toNat) else none
/-- what element x is told by at w, told at any world -/
def impl_replaced_Page.gz {α : Type} (d : Kd α) (w : World) (b : Nat) (ok : Nat → Prop) : Kd α where
 sz := d.sz
 E := []
 K := fun _ x cs => d.M w b ok x cs
 M := fun _ _ _ x cs => d.M w b ok x cs
 K_len := fun h => d.K_len (d.K_of_M h)
 K_one := fun h => d.K_one (d.K_of_M h)
 K_below := fun _ h => h
 K_of_M := fun h => h
 M_mono := fun _ h => h
 M_bound := fun h => h
 M_move := fun _ h => h
 M_lower := fun _ h => h
theorem impl_replaced_Page.gz_of {α : Type} {d : Kd α} {e base n c : Nat} {w : World} {ok : Nat → Prop} {A : Option Addr} {xs : List α} (h : d.R e w base ok (.slice A n c) xs) : n = xs.length ∧ xs.length ≤ c ∧ (impl_replaced_Page.gz d w base (fun k => ok k ∧ some k ≠ (Value.slice A n c).ownBlock)).C w A xs.length xs := by
 obtain ⟨A', c', e', h1, h2⟩ := h.2.reads
 injection e' with e1 e2 e3
 subst e1 e3
 exact ⟨e2, h1, h2⟩
theorem impl_replaced_Page.re {α β : Type} {R : α → List Value → Prop} {R' : β → List Value → Prop} {sz n m : Nat} {w : World} {A : Option Addr} {ps : List α} {ps' : List β} (h : ReadsRow R sz w A n ps) (hl : ps'.length = ps.length) (hm : m = n) (hR : ∀ (j : Nat) (p : α) (p' : β), ps[j]? = some p → ps'[j]? = some p' → ∀ c, R p c → R' p' c) : ReadsRow R' sz w A m ps' := by
 subst hm
 refine ⟨hl.trans h.1, h.2.1, fun hn => ?_⟩
 obtain ⟨ad, e, hc⟩ := h.2.2 hn
 refine ⟨ad, e, fun j p' hj => ?_⟩
 have hlt : j < ps.length := by have := (List.getElem?_eq_some_iff.1 hj).1; omega
 obtain ⟨c, h1, h2, h3⟩ := hc j ps[j] (List.getElem?_eq_getElem hlt)
 exact ⟨c, h1, hR j _ p' (List.getElem?_eq_getElem hlt) hj c h2, h3⟩
open Classical in
theorem impl_replaced_Page.calls (P0_ P3_ : Nat → Prop) (u0_ u3_ : Value) (l0 : List (S53)) (a1 : Int) (a2 : Int) (l3 : List (S53)) (r : List (S53)) (w0 w : World) (hB : Below w0.heap.size w0 w) (ho0 : Kd.S k53 53 w w0.heap.size P0_ u0_ l0) (ho3 : Kd.S k53 53 w w0.heap.size P3_ u3_ l3) (hap : ∀ k_, P0_ k_ → ¬ P3_ k_) (h : impl_replaced_Page.f l0 a1 a2 l3 = some r) :
  Calls Try.prog 47 #[u0_, .int .i64 a1, .int .i64 a2, u3_] w fun e w' => ∃ v0_ : Value, e = .returned (v0_) ∧ Kd.S k53 53 w' w0.heap.size (fun k_ => (P0_ k_ ∨ P3_ k_) ∨ w.heap.size ≤ k_) v0_ r ∧ Below w.heap.size w w' := by
 have H : (if 0 ≤ a1 ∧ 0 ≤ a2 ∧ a1 + a2 ≤ (l0.length : Int) ∧ l0.length + l3.length < 5864062014805 then some (l0.take a1.toNat ++ l3 ++ l0.drop (a1 + a2).toNat) else none) = some r := h
 clear h
 by_cases c : 0 ≤ a1 ∧ 0 ≤ a2 ∧ a1 + a2 ≤ (l0.length : Int) ∧ l0.length + l3.length < 5864062014805
 ·rw [if_pos c] at H
  obtain ⟨h1, h2, h12, hl⟩ := c
  obtain rfl := Option.some.inj H
  clear H
  obtain ⟨A0, c0, rfl⟩ := Kd.S_slice ho0
  obtain ⟨A3, c3, rfl⟩ := Kd.S_slice ho3
  have hc0 := (Kd.S_reads' ho0).2.1
  obtain ⟨f0, hR0⟩ := ho0
  obtain ⟨f3, hR3⟩ := ho3
  obtain ⟨e0, _, g0⟩ := impl_replaced_Page.gz_of hR0
  obtain ⟨e3, _, g3⟩ := impl_replaced_Page.gz_of hR3
  have LM := ak hl
  obtain ⟨i0, hi0, hzz⟩ := Option.map_eq_some_iff.1 info53
  simp only [Prod.mk.injEq] at hzz
  obtain ⟨hz0, hz1, hz2⟩ := hzz
  obtain ⟨G, hG⟩ : ∃ G : Nat → Nat, G = fun k => if P3_ k then a1.toNat + f3 k else if f0 k < a1.toNat then f0 k else f0 k - a2.toNat + l3.length := ⟨_, rfl⟩
  obtain ⟨Q, hQ⟩ : ∃ Q : Nat → Prop, Q = fun k => P0_ k ∨ P3_ k := ⟨_, rfl⟩
  have hz0' : l0.zipIdx.length = l0.length := List.length_zipIdx
  have hat0 : ∀ (l : List (S53)) (s j : Nat) (p : S53 × Nat), (l.zipIdx s)[j]? = some p → l[j]? = some p.1 ∧ p.2 = s + j := by
   intro l s j p hp
   rw [List.getElem?_zipIdx] at hp
   obtain ⟨q, hq, rfl⟩ := Option.map_eq_some_iff.1 hp
   exact ⟨hq, rfl⟩
  have rt0 : ReadsRow ((Kd.tag G k53).M w w0.heap.size (fun k_ => Q k_ ∧ k_ < w.heap.size)) 1 w A0 a1.toNat ((l0.take a1.toNat).zipIdx) := by
   refine impl_replaced_Page.re (Kd.C_take g0 (m := a1.toNat) (by omega)) (by rw [List.length_zipIdx, List.length_take, List.length_take, List.length_zipIdx]) (by rw [List.length_take, List.length_zipIdx]; omega) (fun j p p' hp hp' cs hM => ?_)
   have hj : j < a1.toNat := by have := (List.getElem?_eq_some_iff.1 hp).1; rw [List.length_take] at this; omega
   rw [List.getElem?_take, if_pos hj] at hp
   obtain ⟨q1, q2⟩ := hat0 _ _ _ _ hp
   obtain ⟨q3, q4⟩ := hat0 _ _ _ _ hp'
   rw [List.getElem?_take, if_pos hj] at q3
   have q5 : p.1 = p'.1 := Option.some.inj (q1.symm.trans q3)
   show k53.M w w0.heap.size (fun k_ => (Q k_ ∧ k_ < w.heap.size) ∧ G k_ = p'.2) p'.1 cs
   rw [← q5]
   refine k53.M_mono (fun k_ hk_ => ?_) (k53.M_bound hM)
   obtain ⟨⟨⟨b1, b2⟩, b3⟩, b4, b5, _⟩ := hk_
   refine ⟨⟨by rw [hQ]; exact .inl b1, b5⟩, ?_⟩
   have b6 := hap k_ b1
   simp only [hG, if_neg b6]
   rw [if_pos (by omega)]
   omega
  have r30 : ReadsRow ((Kd.tag G k53).M w w0.heap.size (fun k_ => Q k_ ∧ k_ < w.heap.size)) 1 w A3 l3.length (l3.zipIdx a1.toNat) := by
   refine impl_replaced_Page.re g3 (by rw [List.length_zipIdx, List.length_zipIdx]) (by rw [List.length_zipIdx]) (fun j p p' hp hp' cs hM => ?_)
   obtain ⟨q1, q2⟩ := hat0 _ _ _ _ hp
   obtain ⟨q3, q4⟩ := hat0 _ _ _ _ hp'
   have q5 : p.1 = p'.1 := Option.some.inj (q1.symm.trans q3)
   show k53.M w w0.heap.size (fun k_ => (Q k_ ∧ k_ < w.heap.size) ∧ G k_ = p'.2) p'.1 cs
   rw [← q5]
   refine k53.M_mono (fun k_ hk_ => ?_) (k53.M_bound hM)
   obtain ⟨⟨⟨b1, b2⟩, b3⟩, b4, b5, _⟩ := hk_
   refine ⟨⟨by rw [hQ]; exact .inr b1, b5⟩, ?_⟩
   simp only [hG, if_pos b1]
   omega
  have rd0 : ReadsRow ((Kd.tag G k53).M w w0.heap.size (fun k_ => Q k_ ∧ k_ < w.heap.size)) 1 w (if c0 = (a1 + a2).toNat then A0 else A0.map (·.add ((a1 + a2).toNat * 1))) (l0.length - (a1 + a2).toNat) ((l0.drop (a1 + a2).toNat).zipIdx (a1.toNat + l3.length)) := by
   refine impl_replaced_Page.re (Kd.C_drop g0 (m := (a1 + a2).toNat) (c := c0) (by omega) (by omega)) (by rw [List.length_zipIdx, List.length_drop, List.length_drop, List.length_zipIdx]) (by rw [List.length_drop, List.length_zipIdx]) (fun j p p' hp hp' cs hM => ?_)
   rw [List.getElem?_drop] at hp
   obtain ⟨q1, q2⟩ := hat0 _ _ _ _ hp
   obtain ⟨q3, q4⟩ := hat0 _ _ _ _ hp'
   rw [List.getElem?_drop] at q3
   have q5 : p.1 = p'.1 := Option.some.inj (q1.symm.trans q3)
   show k53.M w w0.heap.size (fun k_ => (Q k_ ∧ k_ < w.heap.size) ∧ G k_ = p'.2) p'.1 cs
   rw [← q5]
   refine k53.M_mono (fun k_ hk_ => ?_) (k53.M_bound hM)
   obtain ⟨⟨⟨b1, b2⟩, b3⟩, b4, b5, _⟩ := hk_
   refine ⟨⟨by rw [hQ]; exact .inl b1, b5⟩, ?_⟩
   have b6 := hap k_ b1
   simp only [hG, if_neg b6]
   rw [if_neg (by omega)]
   omega
  have hQ' := ak hQ
  clear hG hQ hap g0 g3 hR0 hR3 e0 e3 hat0 hz0'
  have L1 := ak (show (l0.take a1.toNat).zipIdx.length = a1.toNat by rw [List.length_zipIdx, List.length_take]; omega)
  have L2 := ak (show (l3.zipIdx a1.toNat).length = l3.length by rw [List.length_zipIdx])
  have L3 := ak (show a1.toNat + (l0.length - (a1 + a2).toNat) ≤ l0.length by omega)
  have ht1 := cut_to (P := Try.prog) 24 53 .i64 Try.underlying24 hi0 A0 l0.length c0 a1 h1 (by omega) hc0
  have hd1 := cut_from (P := Try.prog) 24 53 .i64 Try.underlying24 hi0 1 hz1 A0 l0.length c0 (a1 + a2) (by omega) h12
  generalize (if c0 = (a1 + a2).toNat then A0 else A0.map (·.add ((a1 + a2).toNat * 1))) = A1 at rd0 hd1
  have RT := ak rt0
  have R3 := ak r30
  have RD := ak rd0
  clear rt0 r30 rd0 hc0
  have hm1 : ∀ W : World, (Instr.makeSlice 24 (.int .i64 0) (.int .i64 ((l0.length : Int) - a2 + (l3.length : Int)))).run Try.prog W = .ok (.slice (some ⟨W.heap.size, 0, none⟩) 0 ((l0.length : Int) - a2 + (l3.length : Int)).toNat) (W.alloc (.cells (madeCells (Value.cells (.agg #[(.slice none 0 0)])) (((l0.length : Int) - a2 + (l3.length : Int)).toNat * 1)) 53)) := by
   intro W
   have hn : i0.bytes * ((l0.length : Int) - a2 + (l3.length : Int)).toNat ≤ 281474976710656 := by rw [hz2]; omega
   have hr := run_make (P := Try.prog) W 24 53 i0 (.agg #[(.slice none 0 0)]) Try.underlying24 hi0 hz0 .i64 .i64 0 ((l0.length : Int) - a2 + (l3.length : Int)) (Int.le_refl _) (by omega) (by rw [hz2]; omega) (by omega)
   rw [hz1] at hr
   exact hr
  have HO0 := ak (show (Kd.tag G k53).R 53 (w.alloc (.cells (madeCells (Value.cells (.agg #[(.slice none 0 0)])) (((l0.length : Int) - a2 + (l3.length : Int)).toNat * 1)) 53)) w0.heap.size (fun k_ => Q k_ ∨ w.heap.size ≤ k_) (.slice (some ⟨w.heap.size, 0, none⟩) 0 ((l0.length : Int) - a2 + (l3.length : Int)).toNat) [] from
   ⟨fun k_ hk_ => .inr (by simp [Value.ownBlock] at hk_; omega), [], World.ownsRow_made w _ _ hB.size (by simp only [maxLen]; omega) (size_madeCells _ _), Reps.none _ _⟩)
  have HB0 := ak (below_alloc (Below.refl w.heap.size w) (.cells (madeCells (Value.cells (.agg #[(.slice none 0 0)])) (((l0.length : Int) - a2 + (l3.length : Int)).toNat * 1)) 53))
  have HE0 := ak (below_alloc hB (.cells (madeCells (Value.cells (.agg #[(.slice none 0 0)])) (((l0.length : Int) - a2 + (l3.length : Int)).toNat * 1)) 53))
  clear hB
  generalize madeCells (Value.cells (.agg #[(.slice none 0 0)])) (((l0.length : Int) - a2 + (l3.length : Int)).toNat * 1) = cs at hm1 HO0 HB0 HE0
  generalize hN : ((l0.length : Int) - a2 + (l3.length : Int)).toNat = N at hm1 HO0
  have HN0 := ak (show ∀ k_, (Value.slice (some ⟨w.heap.size, 0, none⟩) 0 N).ownBlock = some k_ → w.heap.size ≤ k_ from fun k_ e_ => by simp [Value.ownBlock] at e_; omega)
  clear hN hz0 hz1 hz2 hi0 hl
  have hfin : (l0.take a1.toNat ++ l3 ++ l0.drop (a1 + a2).toNat).zipIdx = (l0.take a1.toNat).zipIdx ++ l3.zipIdx a1.toNat ++ (l0.drop (a1 + a2).toNat).zipIdx (a1.toNat + l3.length) := by
   have e_ : (l0.take a1.toNat).length = a1.toNat := by rw [List.length_take]; omega
   rw [List.zipIdx_append, List.zipIdx_append, List.length_append, e_, Nat.zero_add, Nat.zero_add]
  have L4 := ak (show ((l0.take a1.toNat).zipIdx ++ l3.zipIdx a1.toNat).length = a1.toNat + l3.length by rw [List.length_append, L1.out, L2.out])
  obtain ⟨ya, hya⟩ : ∃ y_ : List (S53 × Nat), y_ = (l0.take a1.toNat).zipIdx := ⟨_, rfl⟩
  obtain ⟨y3, hy3⟩ : ∃ y_ : List (S53 × Nat), y_ = l3.zipIdx a1.toNat := ⟨_, rfl⟩
  obtain ⟨yd, hyd⟩ : ∃ y_ : List (S53 × Nat), y_ = (l0.drop (a1 + a2).toNat).zipIdx (a1.toNat + l3.length) := ⟨_, rfl⟩
  obtain ⟨yb, hyb⟩ : ∃ y_ : List (S53 × Nat), y_ = ya ++ y3 := ⟨_, rfl⟩
  obtain ⟨yc, hyc⟩ : ∃ y_ : List (S53 × Nat), y_ = yb ++ yd := ⟨_, rfl⟩
  rw [← hya] at RT L1 L4 hfin
  rw [← hy3] at R3 L2 L4 hfin
  rw [← hyd] at RD hfin
  rw [← hyb] at L4 hfin
  rw [← hyc] at hfin
  have NB := ak hyb
  have NC := ak hyc
  have NF := ak hfin
  clear hya hyb hyd hyc hy3 hfin
  have hl0 : (l0.length : Int) < 5864062014805 := by have := LM.out; omega
  have hl3 : (l3.length : Int) < 5864062014805 := by have := LM.out; omega
  have hsum : a1 + a2 ≤ 140737488355328 := by omega
  go_enter Try.func47, Try.ntmps47
  go_upto_region 2 with fail
  clear hl0 hl3 hm1
  go_wp2_with (first | ((with_reducible refine gate_builtin (b := .append) (xs := #[.tmp 18, .tmp 21]) rfl ?_); (try (refine gate_guard (by rfl) ?_; dsimp only)); at_builtin; refine Kd.R_append_rows (Kd.tag G k53) (Rr := (Kd.tag G k53).M w w0.heap.size (fun k_ => Q k_ ∧ k_ < w.heap.size)) (w0 := w0) w0.heap.size rfl (.tmp 18) (.tmp 21) 24 53 (.agg #[(.slice none 0 0)]) 24 rfl Try.underlying24 info53 rfl (show 0 < 1 from by decide) (by omega) (.slice (some ⟨w.heap.size, 0, none⟩) 0 N) ([] : List (S53 × Nat)) (ya) _ _ _ (fun k_ => Q k_ ∨ w.heap.size ≤ k_) (fun k_ => Q k_ ∧ k_ < w.heap.size) rfl rfl ?aO ?aR ?aK ?aP ?aF ?aB ?aS ?aL ?_; (case aR => exact (ReadsRow.imp_ RT.out HB0.out (fun _ _ h_ => h_))); (case aK => exact (fun _ _ h_ => (Kd.tag G k53).M_move (fun k_ hk_ => HB0.out.block k_ hk_.2) h_)); (case aP => exact (fun k_ hk_ => ⟨.inl hk_.1, fun e_ => Nat.not_le.2 hk_.2 (HN0.out k_ e_.symm)⟩)); (case aB => exact HE0.out); (case aF => exact (fun _ h_ => .inr (Nat.le_trans HB0.out.size h_))); (case aO => exact HO0.out); (case aS => exact HE0.out.size); (case aL => have hl_ := LM.out; have h1_ := L1.out; have h2_ := L2.out; have h3_ := L3.out; have h4_ := L4.out; (try simp only [List.length_nil]); omega); intro v1 w1 ho hb hg hat; rw [List.nil_append] at ho; have HO1 := ak ho; have HE1 := ak hb; have HB1 := ak (HB0.out.grown hg HB0.out.size HN0.out); have HN1 := ak (show ∀ k_, v1.ownBlock = some k_ → w.heap.size ≤ k_ from fun k_ e_ => hat.elim (fun h_ => HN0.out k_ (h_.symm.trans e_)) (fun ⟨b_, h1_, h2_⟩ => by rw [h1_] at e_; injection e_ with e_; exact e_ ▸ Nat.le_trans HB0.out.size h2_)); clear ho hb hg hat; obtain ⟨Ao1, co1, eo1⟩ := Kd.R_slice HO1.out; subst eo1) | ((with_reducible refine gate_builtin (b := .append) (xs := #[.tmp 23, .tmp 24]) rfl ?_); (try (refine gate_guard (by rfl) ?_; dsimp only)); at_builtin; refine Kd.R_append_rows (Kd.tag G k53) (Rr := (Kd.tag G k53).M w w0.heap.size (fun k_ => Q k_ ∧ k_ < w.heap.size)) (w0 := w0) w0.heap.size rfl (.tmp 23) (.tmp 24) 24 53 (.agg #[(.slice none 0 0)]) 24 rfl Try.underlying24 info53 rfl (show 0 < 1 from by decide) (by omega) (.slice Ao1 ya.length co1) (ya) (y3) _ _ _ (fun k_ => Q k_ ∨ w.heap.size ≤ k_) (fun k_ => Q k_ ∧ k_ < w.heap.size) rfl rfl ?aO ?aR ?aK ?aP ?aF ?aB ?aS ?aL ?_; (case aR => exact (ReadsRow.imp_ R3.out HB1.out (fun _ _ h_ => h_))); (case aK => exact (fun _ _ h_ => (Kd.tag G k53).M_move (fun k_ hk_ => HB1.out.block k_ hk_.2) h_)); (case aP => exact (fun k_ hk_ => ⟨.inl hk_.1, fun e_ => Nat.not_le.2 hk_.2 (HN1.out k_ e_.symm)⟩)); (case aB => exact HE1.out); (case aF => exact (fun _ h_ => .inr (Nat.le_trans HB1.out.size h_))); (case aO => exact HO1.out); (case aS => exact HE1.out.size); (case aL => have hl_ := LM.out; have h1_ := L1.out; have h2_ := L2.out; have h3_ := L3.out; have h4_ := L4.out; (try simp only [List.length_nil]); omega); intro v2 w2 ho hb hg hat; rw [← NB.out] at ho; have HO2 := ak ho; have HE2 := ak hb; have HB2 := ak (HB1.out.grown hg HB1.out.size HN1.out); have HN2 := ak (show ∀ k_, v2.ownBlock = some k_ → w.heap.size ≤ k_ from fun k_ e_ => hat.elim (fun h_ => HN1.out k_ (h_.symm.trans e_)) (fun ⟨b_, h1_, h2_⟩ => by rw [h1_] at e_; injection e_ with e_; exact e_ ▸ Nat.le_trans HB1.out.size h2_)); clear ho hb hg hat; obtain ⟨Ao2, co2, eo2⟩ := Kd.R_slice HO2.out; subst eo2) | ((with_reducible refine gate_builtin (b := .append) (xs := #[.tmp 26, .tmp 31]) rfl ?_); (try (refine gate_guard (by rfl) ?_; dsimp only)); at_builtin; refine Kd.R_append_rows (Kd.tag G k53) (Rr := (Kd.tag G k53).M w w0.heap.size (fun k_ => Q k_ ∧ k_ < w.heap.size)) (w0 := w0) w0.heap.size rfl (.tmp 26) (.tmp 31) 24 53 (.agg #[(.slice none 0 0)]) 24 rfl Try.underlying24 info53 rfl (show 0 < 1 from by decide) (by omega) (.slice Ao2 yb.length co2) (yb) (yd) _ _ _ (fun k_ => Q k_ ∨ w.heap.size ≤ k_) (fun k_ => Q k_ ∧ k_ < w.heap.size) rfl rfl ?aO ?aR ?aK ?aP ?aF ?aB ?aS ?aL ?_; (case aR => exact (ReadsRow.imp_ RD.out HB2.out (fun _ _ h_ => h_))); (case aK => exact (fun _ _ h_ => (Kd.tag G k53).M_move (fun k_ hk_ => HB2.out.block k_ hk_.2) h_)); (case aP => exact (fun k_ hk_ => ⟨.inl hk_.1, fun e_ => Nat.not_le.2 hk_.2 (HN2.out k_ e_.symm)⟩)); (case aB => exact HE2.out); (case aF => exact (fun _ h_ => .inr (Nat.le_trans HB2.out.size h_))); (case aO => exact HO2.out); (case aS => exact HE2.out.size); (case aL => have hl_ := LM.out; have h1_ := L1.out; have h2_ := L2.out; have h3_ := L3.out; have h4_ := L4.out; (try simp only [List.length_nil]); omega); intro v3 w3 ho hb hg hat; rw [← NC.out] at ho; have HO3 := ak ho; have HE3 := ak hb; have HB3 := ak (HB2.out.grown hg HB2.out.size HN2.out); have HN3 := ak (show ∀ k_, v3.ownBlock = some k_ → w.heap.size ≤ k_ from fun k_ e_ => hat.elim (fun h_ => HN2.out k_ (h_.symm.trans e_)) (fun ⟨b_, h1_, h2_⟩ => by rw [h1_] at e_; injection e_ with e_; exact e_ ▸ Nat.le_trans HB2.out.size h2_)); clear ho hb hg hat; obtain ⟨Ao3, co3, eo3⟩ := Kd.R_slice HO3.out; subst eo3))
  go_ret
  refine ⟨_, rfl, ⟨G, ?_⟩, HB3.out⟩
  rw [NF.out]
  have hq_ := HO3.out
  rw [hQ'.out] at hq_
  exact hq_
 ·rw [if_neg c] at H
  exact absurd H (by simp)

/-! ### impl_refilled: function 34 -/
def impl_refilled.two (l0 : List (S53)) (lf : Int) (y : List (S65)) (cu : Int) : Option (List (S53)) := if 0 ≤ cu ∧ cu ≤ (y.length : Int) then (impl_copyOf_Pair.f (y.take cu.toNat)).bind fun t8 => (impl_copyOf_Pair.f (y.drop cu.toNat)).bind fun t9 => impl_replaced_Page.f l0 lf 2 [⟨t8⟩, ⟨t9⟩] else none
def impl_refilled.fin (l0 : List (S53)) (a1 lf : Int) : Option (List (S53)) := (impl_copyOf_Pair.f (rd_T53 l0 lf).f0).bind fun t => if t.length = (rd_T53 l0 lf).f0.length ∧ 1 ≤ t.length ∧ t.length < 1000 ∧ (rd_T53 l0 (lf + 1)).f0.length < 1000 then (if (t ++ (rd_T53 l0 (lf + 1)).f0).length ≤ 4 then impl_replaced_Page.f l0 lf 2 [⟨t ++ (rd_T53 l0 (lf + 1)).f0⟩] else impl_refilled.two l0 lf (t ++ (rd_T53 l0 (lf + 1)).f0) (if lf = a1 then ((rd_T53 l0 lf).f0.length : Int) + 1 else ((rd_T53 l0 lf).f0.length : Int) - 1)) else none
def impl_refilled.f (l0 : List (S53)) (a1 : Int) : Option (List (S53)) := if 2 ≤ l0.length ∧ l0.length < 1000 ∧ 0 ≤ a1 ∧ a1 < (l0.length : Int) then impl_refilled.fin l0 a1 (if a1 + 1 = (l0.length : Int) then a1 - 1 else a1) else none
theorem impl_refilled.w64 {x : Int} (h1 : -2000 ≤ x) (h2 : x ≤ 2000) : wrap64 x = x := by unfold wrap64; omega
theorem impl_refilled.calls (P0_ : Nat → Prop) (u0_ : Value) (l0 : List (S53)) (a1 : Int) (r : List (S53)) (w wa : World) (hB : Below w.heap.size w wa) (ho0 : Kd.S k53 53 wa w.heap.size P0_ u0_ l0) (h : impl_refilled.f l0 a1 = some r) :
  Calls Try.prog 34 #[u0_, .int .i64 a1] wa fun e w' => ∃ v0_ : Value, e = .returned (v0_) ∧ Kd.S k53 53 w' w.heap.size (fun _ => True) v0_ r ∧ Below w.heap.size w w' := by
 unfold impl_refilled.f at h
 by_cases c0_ : ¬ (2 ≤ l0.length ∧ l0.length < 1000 ∧ 0 ≤ a1 ∧ a1 < (l0.length : Int))
 ·rw [if_neg c0_] at h
  exact absurd h (by simp)
 replace c0_ := Classical.not_not.1 c0_
 rw [if_pos c0_] at h
 obtain ⟨g1, g2, g3, g4⟩ := c0_
 have HB := ak hB
 obtain ⟨gp, cp, ep_, hgp_, _, _, _⟩ := Kd.S_form ho0 (by omega)
 subst ep_
 have HOp := ak (show Kd.S k53 53 wa w.heap.size (fun k_ => w.heap.size ≤ k_ ∧ k_ < wa.heap.size) (.slice (some ⟨gp, 0, none⟩) l0.length cp) l0 from Kd.S_mono (Kd.S_bound ho0) (fun k_ hk_ => ⟨hk_.2.1, hk_.2.2.1⟩))
 clear ho0 hB hgp_
 obtain ⟨lf, hlf⟩ : ∃ x_ : Int, x_ = if a1 + 1 = (l0.length : Int) then a1 - 1 else a1 := ⟨_, rfl⟩
 rw [← hlf] at h
 have gl : 0 ≤ lf ∧ lf + 1 < ((l0.length : Nat) : Int) := by by_cases c_ : a1 + 1 = (l0.length : Int) <;> simp only [c_, if_true, if_false] at hlf <;> omega
 unfold impl_refilled.fin at h
 replace h := Option.bind_eq_some_iff.mp h
 obtain ⟨t, B10, h⟩ := h
 have B1 := ak B10
 clear B10
 obtain ⟨nx, hnx⟩ : ∃ x_ : Int, x_ = lf + 1 := ⟨_, rfl⟩
 rw [← hnx] at h
 by_cases c1_ : ¬ (t.length = (rd_T53 l0 lf).f0.length ∧ 1 ≤ t.length ∧ t.length < 1000 ∧ (rd_T53 l0 nx).f0.length < 1000)
 ·rw [if_neg c1_] at h
  exact absurd h (by simp)
 replace c1_ := Classical.not_not.1 c1_
 rw [if_pos c1_] at h
 obtain ⟨y, hy⟩ : ∃ y_ : List (S65), y_ = t ++ (rd_T53 l0 nx).f0 := ⟨_, rfl⟩
 rw [← hy] at h
 have NY := ak hy
 have LY := ak (show y.length = t.length + (rd_T53 l0 nx).f0.length by rw [hy, List.length_append])
 clear hy
 have C1 := ak c1_
 clear c1_
 have HL := ak (show 0 ≤ lf ∧ lf < ((l0.length : Nat) : Int) by omega)
 have HN := ak (show 0 ≤ nx ∧ nx < ((l0.length : Nat) : Int) by omega)
 have wn : wrap64 (lf + 1) = nx := by rw [impl_refilled.w64 (x := lf + 1) (by omega) (by omega), hnx]
 have wn2 : IntKind.i64.wrap (lf + 1) = nx := by rw [i64_w]; exact wn
 have b0_ := eq_true HL.out.1
 have b1_ := eq_true HL.out.2
 have b2_ := eq_true HN.out.1
 have b3_ := eq_true HN.out.2
 have hcl := show (a1 + 1 = (l0.length : Int)) ∨ ¬ (a1 + 1 = (l0.length : Int)) from Classical.em _
 have wm := impl_refilled.w64 (x := (l0.length : Int) - 1) (by omega) (by omega)
 have wl := impl_refilled.w64 (x := a1 - 1) (by omega) (by omega)
 have HNX := ak hnx
 have HLF := ak hlf
 have G := ak (show 2 ≤ l0.length ∧ l0.length < 1000 ∧ 0 ≤ a1 ∧ a1 < (l0.length : Int) from ⟨g1, g2, g3, g4⟩)
 clear hnx hlf g1 g2 g3 g4 gl
 obtain ⟨ce_, hcl_, hM_, hcc_, hfr_⟩ := Kd.R_elem (Kd.S_R HOp.out) z53 (lf : Int) HL.out.1 HL.out.2
 obtain ⟨ve_, rfl, ge_⟩ := k53_openM hM_
 obtain ⟨A0, c0, ev_⟩ := Kd.R_slice ge_
 subst ev_
 have hx0 : wa.cell? ⟨gp, (lf : Int).toNat, none⟩ = some (.slice A0 (rd_T53 l0 lf).f0.length c0) := by have q_ := hcc_ 0 _ rfl; simp only [show (k53).sz = 1 from rfl, Nat.mul_one, Nat.add_zero] at q_; exact q_
 have RD0 := ak (show Kd.C k65 _ A0 (rd_T53 l0 lf).f0.length (rd_T53 l0 lf).f0 ∧ (rd_T53 l0 lf).f0.length ≤ c0 from ⟨(Kd.R_reads' ge_).2.2, (Kd.R_reads' ge_).2.1⟩)
 clear hcl_ hM_ hcc_ hfr_ ge_
 go_enter Try.func34, Try.ntmps34
 go_upto_if 15 with (fail)
 go_cut [5] (fun v5 wc => v5 = .int .i64 lf ∧ wa = wc)
 case first =>
  rcases hcl with c_ | c_
  ·have cb_ : (a1 == (l0.length : Int) - 1) = true := beq_iff_eq.mpr (by omega)
   go_wp2
   go_meet
   case rel => exact ⟨by rw [HLF.out, if_pos c_]; first | rfl | rw [wl], rfl⟩
  ·have cb_ : (a1 == (l0.length : Int) - 1) = false := beq_eq_false_iff_ne.mpr (by omega)
   go_wp2
   go_meet
   case rel => exact ⟨by rw [HLF.out, if_neg c_], rfl⟩
 case rest =>
  obtain ⟨rfl, rfl⟩ := hcut
  clear hcl wm wl
  have HGP := ak (show gp < wa.heap.size from (show w.heap.size ≤ gp ∧ gp < wa.heap.size from (Kd.S_R HOp.out).1 _ rfl).2)
  obtain ⟨ce_, hcl_, hM_, hcc_, hfr_⟩ := Kd.R_elem (Kd.S_R HOp.out) z53 (nx : Int) HN.out.1 HN.out.2
  obtain ⟨ve_, rfl, ge_⟩ := k53_openM hM_
  obtain ⟨A1, c1, ev_⟩ := Kd.R_slice ge_
  subst ev_
  have hx1 : wa.cell? ⟨gp, (nx : Int).toNat, none⟩ = some (.slice A1 (rd_T53 l0 nx).f0.length c1) := by have q_ := hcc_ 0 _ rfl; simp only [show (k53).sz = 1 from rfl, Nat.mul_one, Nat.add_zero] at q_; exact q_
  have RD1 := ak (show Kd.C k65 _ A1 (rd_T53 l0 nx).f0.length (rd_T53 l0 nx).f0 ∧ (rd_T53 l0 nx).f0.length ≤ c1 from ⟨(Kd.R_reads' ge_).2.2, (Kd.R_reads' ge_).2.1⟩)
  clear hcl_ hM_ hcc_ hfr_ ge_
  go_upto_region 4 with (fail)
  go_region_held3 (fun w' => w'.cell? ⟨gp, (lf : Int).toNat, none⟩ = some (.slice A0 (rd_T53 l0 lf).f0.length c0) ∧ w'.cell? ⟨gp, (nx : Int).toNat, none⟩ = some (.slice A1 (rd_T53 l0 nx).f0.length c1)) (first | exact ⟨hz0, hz1⟩ | exact ⟨hy0, hy1⟩ | exact ⟨hx0, hx1⟩) (first | (go_at_call 46; refine (impl_copyOf_Pair.calls _ _ (rd_T53 l0 lf).f0 t _ ?ha_ RD0.out.2 B1.out).mono ?_; (case ha_ => repeat (first | exact RD0.out.1 | (with_reducible refine Kd.C_alloc ?_ _) | (with_reducible refine Kd.C_drewN ?_ _) | (with_reducible refine Kd.C_drew ?_))); rintro e w1 ⟨v1_, rfl, ho, hb⟩; have n0_ := ak (Kd.S_below (by (with_reducible repeat (first | apply Kd.S_alloc | apply Kd.S_drewN | apply Kd.S_drew)); exact HOp.out) hb); have n1_ := ak (below_step (by exact hopb HB.out) hb); have n2_ := ak (show wa.heap.size ≤ w1.heap.size from hb.size); have n3_ := ak (show Kd.R k65 65 w1 w.heap.size (fun k_ => wa.heap.size ≤ k_ ∧ k_ < w1.heap.size) v1_ t from Kd.R_lower (Kd.R_mono (Kd.R_bound ho) (fun k_ hk_ => ⟨hk_.2.1, hk_.2.2.1⟩)) (below_size (by exact hopb HB.out))); clear HOp HB; have HOp := n0_; have HB := n1_; have Z1 := n2_; have HO1 := n3_; clear n0_ n1_ n2_ n3_; clear ho; obtain ⟨Ao1, co1, eo1⟩ := Kd.R_slice HO1.out; subst eo1; have hy0 := (hb.cell (World.block_lt_of_cell? _ _ hx0)).trans hx0; have hy1 := (hb.cell (World.block_lt_of_cell? _ _ hx1)).trans hx1; replace RD1 := ak (And.intro (Kd.C_below (Kd.C_drew RD1.out.1) hb) RD1.out.2); clear hb; have HGQ := ak (show some gp ≠ (.slice Ao1 t.length co1 : Value).ownBlock from fun e_ => by have h2_ : wa.heap.size ≤ gp ∧ gp < w1.heap.size := HO1.out.1 gp e_.symm; have h3_ := HGP.out; omega)) | (refine Kd.R_append_rows_step k65 (w0 := w) w.heap.size (by rfl) (.tmp 23) (.tmp 29) 36 65 (.agg #[(.string ⟨#[]⟩), (.int .i64 0)]) 24 rfl Try.underlying36 info65 rfl (by decide) (by omega) (.slice Ao1 t.length co1) t ((rd_T53 l0 nx).f0) _ _ _ (fun k_ => wa.heap.size ≤ k_) (fun _ => False) rfl rfl ?aO ?aR (fun _ _ h => h) (fun _ h => h.elim) ?aF ?aB ?aS ?aL ?_; (case aR => exact RD1.out.1); (case aB => exact (by exact hopb HB.out)); (case aF => exact (fun k_ (h_ : w1.heap.size ≤ k_) => by have z1_ := Z1.out; (try show wa.heap.size ≤ k_); omega)); (case aO => exact Kd.R_mono (ok := fun k_ => wa.heap.size ≤ k_ ∧ k_ < w1.heap.size) (by (with_reducible repeat (first | apply Kd.R_alloc | apply Kd.R_drewN | apply Kd.R_drew)); exact HO1.out) (fun _ hk_ => hk_.1)); (case aS => exact below_size (by exact hopb HB.out)); (case aL => have h_ := C1.out; omega); intro v2_ w2 ho hb hg hat; rw [← NY.out] at ho; have n0_ := ak (Kd.S_grown (by (with_reducible repeat (first | apply Kd.S_alloc | apply Kd.S_drewN | apply Kd.S_drew)); exact HOp.out) hg (fun k_ (h_ : w.heap.size ≤ k_ ∧ k_ < wa.heap.size) e_ => by have h2_ : wa.heap.size ≤ k_ ∧ k_ < w1.heap.size := HO1.out.1 k_ e_.symm; have z1_ := Z1.out; omega)); have n1_ := ak (hb); have n2_ := ak (show w1.heap.size ≤ w2.heap.size from hg.size); have n3_ := ak (show Kd.R k65 65 w2 w.heap.size (fun k_ => wa.heap.size ≤ k_ ∧ k_ < w2.heap.size) v2_ y from Kd.R_mono (Kd.R_bound ho) (fun k_ hk_ => ⟨hk_.1, hk_.2.2.1⟩)); clear HOp HB; have HOp := n0_; have HB := n1_; have Z2 := n2_; have HO2 := n3_; clear n0_ n1_ n2_ n3_; have hz0 := cell_grown hg hy0 HGQ.out; have hz1 := cell_grown hg hy1 HGQ.out; clear ho hb hg hat HO1; obtain ⟨Ao2, co2, eo2⟩ := Kd.R_slice HO2.out; subst eo2))
  clear hx0 hx1
  obtain ⟨ce_, hcl_, hM_, hcc_, hfr_⟩ := Kd.R_elem (Kd.S_R HOp.out) z53 (lf : Int) HL.out.1 HL.out.2
  obtain ⟨ve_, rfl, ge_⟩ := k53_openM hM_
  obtain ⟨A2, c2, ev_⟩ := Kd.R_slice ge_
  subst ev_
  have hx2 : w2.cell? ⟨gp, (lf : Int).toNat, none⟩ = some (.slice A2 (rd_T53 l0 lf).f0.length c2) := by have q_ := hcc_ 0 _ rfl; simp only [show (k53).sz = 1 from rfl, Nat.mul_one, Nat.add_zero] at q_; exact q_
  have RD2 := ak (show Kd.C k65 _ A2 (rd_T53 l0 lf).f0.length (rd_T53 l0 lf).f0 ∧ (rd_T53 l0 lf).f0.length ≤ c2 from ⟨(Kd.R_reads' ge_).2.2, (Kd.R_reads' ge_).2.1⟩)
  clear hcl_ hM_ hcc_ hfr_ ge_
  by_cases c2_ : y.length ≤ 4
  ·rw [if_pos c2_] at h
   have h' := ak h
   clear h
   have c2b0 : decide ((y.length : Int) ≤ 4) = true := decide_eq_true (by omega)
   have c2b1 : decide (y.length ≤ 4) = true := decide_eq_true c2_
   clear c2_
   go_wp2_with (first | ((with_reducible refine gate_dst (N := 38) rfl ?_); refine Kd.S_lits k53 (w0 := w) w.heap.size 53 ?hg (N := 38) ?hd (xs := ([⟨y⟩] : List S53)) (inner := [.slice Ao2 y.length co2]) (ok := fun k_ => wa.heap.size ≤ k_) (fun j_ k_ => (j_ = 0 ∧ wa.heap.size ≤ k_ ∧ k_ < w2.heap.size)) ?hr ?hl ?hp ?ha ?hk ?hf ?hB ?hb ?hm ?_; (case hd => rfl); (case hg => rfl); (case hr => first | (go_simp; done) | (go_simp; rfl)); (case hl => rfl); (case hB => exact (by exact hopb HB.out)); (case hb => exact below_size (by exact hopb HB.out)); (case hm => exact (show 1 ≤ 9223372036854775807 by decide)); (case hf => exact (show wa.heap.size ≤ _ from by have z1_ := Z1.out; have z2_ := Z2.out; first | omega | (show wa.heap.size ≤ w2.heap.size; omega))); (case hk => exact (fun j_ k_ h_ => by have z1_ := Z1.out; have z2_ := Z2.out; (try dsimp only at h_); (try show wa.heap.size ≤ k_); omega)); (case ha => exact (fun i_ j_ k_ h1_ h2_ => by have z1_ := Z1.out; have z2_ := Z2.out; (try dsimp only at h1_ h2_); omega)); (case hp => intro j_ x_ hx_; match j_, hx_ with | 0, hx_ => (obtain rfl := Option.some.inj hx_; exact k53_mkM _ _ _ (⟨y⟩ : S53) (Kd.R_mono (by (with_reducible repeat (first | apply Kd.R_alloc | apply Kd.R_drewN | apply Kd.R_drew)); exact HO2.out) (fun k_ h_ => (by (try dsimp only); (try dsimp only at h_); omega)))) | (q_ + 1), hx_ => exact absurd hx_ (by simp)); intro v3_ w3 ho hb hg_ hnew_; have hb1_ := hb; have hb := (show Below w2.heap.size w2 w3 from ⟨hg_.os, hg_.tape, hg_.output, hg_.size, fun k_ h_ => hg_.block k_ h_ (by simp)⟩); have n0_ := ak (Kd.S_below (by (with_reducible repeat (first | apply Kd.S_alloc | apply Kd.S_drewN | apply Kd.S_drew)); exact HOp.out) hb); have n1_ := ak (below_step (by exact hopb HB.out) hb); have n2_ := ak (show w2.heap.size ≤ w3.heap.size from hb.size); have n3_ := ak (show Kd.S k53 53 w3 w.heap.size (fun k_ => wa.heap.size ≤ k_ ∧ k_ < w3.heap.size) v3_ ([⟨y⟩] : List S53) from Kd.S_mono (Kd.S_bound ho) (fun k_ hk_ => ⟨hk_.1, hk_.2.2.1⟩)); clear HOp HB; have HOp := n0_; have HB := n1_; have Z3 := n2_; have HO3 := n3_; clear n0_ n1_ n2_ n3_; clear ho hb hb1_ hg_ hnew_ HO2; obtain ⟨Ao3, co3, eo3⟩ := Kd.S_slice HO3.out; subst eo3; replace HO3 : Aside0 (Kd.S k53 53 w3 w.heap.size (fun k_ => wa.heap.size ≤ k_ ∧ k_ < w3.heap.size) (.slice Ao3 1 co3) ([⟨y⟩] : List S53)) := HO3) | ((with_reducible refine gate_callee (f := 47) rfl ?_); refine goesL_ (some 39) rfl rfl Try.func47 (by kernel_rfl) rfl #[.slice (some ⟨gp, 0, none⟩) l0.length cp, .int .i64 lf, .int .i64 2, .slice Ao3 1 co3] rfl (by (try simp only [List.map_toArray, List.map_cons, List.map_nil]); first | done | rfl) ?_; refine (impl_replaced_Page.calls (fun k_ => w.heap.size ≤ k_ ∧ k_ < wa.heap.size) (fun k_ => wa.heap.size ≤ k_ ∧ k_ < w3.heap.size) _ _ l0 lf 2 [⟨y⟩] r w _ (by exact hopb HB.out) (by (with_reducible repeat (first | apply Kd.S_alloc | apply Kd.S_drewN | apply Kd.S_drew)); exact HOp.out) (by (with_reducible repeat (first | apply Kd.S_alloc | apply Kd.S_drewN | apply Kd.S_drew)); exact HO3.out) (fun k_ (h1_ : w.heap.size ≤ k_ ∧ k_ < wa.heap.size) (h2_ : wa.heap.size ≤ k_ ∧ k_ < w3.heap.size) => by have z1_ := Z1.out; have z2_ := Z2.out; have z3_ := Z3.out; omega) h'.out).mono ?_; rintro e w4 ⟨v4_, rfl, ho, hb⟩; refine ⟨_, rfl, ?_⟩; have n0_ := ak (Kd.S_mono (ok' := fun _ => True) ho (fun _ _ => trivial)); have n1_ := ak (below_step (by exact hopb HB.out) hb); clear HB ho hb; have HOf := n0_; have HB := n1_; clear n0_ n1_; obtain ⟨Ao4, co4, eo4⟩ := Kd.S_slice HOf.out; subst eo4))
   go_ret
   exact ⟨_, rfl, HOf.out, (by exact hopb HB.out)⟩
  rw [if_neg c2_] at h
  have c2b0 : decide ((y.length : Int) ≤ 4) = false := decide_eq_false (by omega)
  have c2b1 : decide (y.length ≤ 4) = false := decide_eq_false c2_
  clear c2_
  obtain ⟨cu, hcu⟩ : ∃ x_ : Int, x_ = if lf = a1 then ((rd_T53 l0 lf).f0.length : Int) + 1 else ((rd_T53 l0 lf).f0.length : Int) - 1 := ⟨_, rfl⟩
  rw [← hcu] at h
  unfold impl_refilled.two at h
  by_cases c3_ : ¬ (0 ≤ cu ∧ cu ≤ (y.length : Int))
  ·rw [if_neg c3_] at h
   exact absurd h (by simp)
  replace c3_ := Classical.not_not.1 c3_
  rw [if_pos c3_] at h
  have LM := ak c3_
  clear c3_
  replace h := Option.bind_eq_some_iff.mp h
  obtain ⟨t8, B80, h⟩ := h
  have B8 := ak B80
  clear B80
  replace h := Option.bind_eq_some_iff.mp h
  obtain ⟨t9, B90, h⟩ := h
  have B9 := ak B90
  clear B90
  have h' := ak h
  clear h
  have HCU := ak hcu
  have wu1 := impl_refilled.w64 (x := ((rd_T53 l0 lf).f0.length : Int) + 1) (by have h_ := C1.out; omega) (by have h_ := C1.out; omega)
  have wu2 := impl_refilled.w64 (x := ((rd_T53 l0 lf).f0.length : Int) - 1) (by have h_ := C1.out; omega) (by have h_ := C1.out; omega)
  clear hcu
  go_upto_if 49 with fail
  go_cut [7] (fun v7 wc => v7 = .int .i64 cu ∧ w2 = wc)
  case first =>
   by_cases c_ : lf = a1
   ·have cb_ : (lf == a1) = true := beq_iff_eq.mpr c_
    replace c_ := ak c_
    go_wp2
    go_meet
    case rel => exact ⟨by rw [HCU.out, if_pos c_.out]; first | rfl | rw [wu1], rfl⟩
   ·have cb_ : (lf == a1) = false := beq_eq_false_iff_ne.mpr c_
    go_wp2
    go_meet
    case rel => exact ⟨by rw [HCU.out, if_neg c_]; first | rfl | rw [wu2], rfl⟩
  case rest =>
   obtain ⟨rfl, rfl⟩ := hcut
   clear wu1 wu2 hx2
   obtain ⟨ya, hya⟩ : ∃ y_ : List (S65), y_ = y.take cu.toNat := ⟨_, rfl⟩
   obtain ⟨yb, hyb⟩ : ∃ y_ : List (S65), y_ = y.drop cu.toNat := ⟨_, rfl⟩
   rw [← hya] at B8
   rw [← hyb] at B9
   have NA := ak hya
   have NB := ak hyb
   have LA := ak (show ya.length = cu.toNat by have h_ := LM.out; rw [hya, List.length_take]; omega)
   have LB := ak (show yb.length = y.length - cu.toNat by rw [hyb, List.length_drop])
   clear hya hyb
   obtain ⟨i0_, hi0_, _, hsz_, _⟩ := info_parts info65
   have hm_ := (Kd.R_reads' HO2.out).2.1
   have hcA := cut_to (P := Try.prog) 36 65 .i64 Try.underlying36 hi0_ Ao2 y.length co2 cu LM.out.1 LM.out.2 hm_
   rw [← LA.out] at hcA
   have hcB := cut_from (P := Try.prog) 36 65 .i64 Try.underlying36 hi0_ 2 hsz_ Ao2 y.length co2 cu LM.out.1 LM.out.2
   obtain ⟨AB, hAB⟩ : ∃ x_, x_ = (if co2 = cu.toNat then Ao2 else (Ao2 : Option Addr).map (·.add (cu.toNat * 2))) := ⟨_, rfl⟩
   obtain ⟨cB, hcB_⟩ : ∃ x_, x_ = co2 - cu.toNat := ⟨_, rfl⟩
   rw [← LB.out, ← hAB, ← hcB_] at hcB
   have KA := ak hAB
   have KC := ak hcB_
   clear hAB hcB_ hm_ hi0_ hsz_
   go_wp2_with (first | ((with_reducible refine gate_callee (f := 46) rfl ?_); refine goesL_ (some 60) rfl rfl Try.func46 (by kernel_rfl) rfl #[.slice Ao2 ya.length co2] rfl (by (try simp only [List.map_toArray, List.map_cons, List.map_nil]); first | done | rfl) ?_; refine (impl_copyOf_Pair.calls _ _ ya t8 _ (by have q_ := Kd.R_reads' HO2.out; have h_ := LM.out; have r_ := Kd.C_take (m := cu.toNat) q_.2.2 (by omega); rw [← NA.out] at r_; (with_reducible repeat (first | refine Kd.C_alloc ?_ _ | refine Kd.C_drewN ?_ _ | refine Kd.C_drew ?_)); exact r_) (by have q_ := Kd.R_reads' HO2.out; have h_ := LM.out; have l_ := LA.out; omega) B8.out).mono ?_; rintro e w3 ⟨v3_, rfl, ho, hb⟩; refine ⟨_, rfl, ?_⟩; have n0_ := ak (Kd.S_below (by (with_reducible repeat (first | apply Kd.S_alloc | apply Kd.S_drewN | apply Kd.S_drew)); exact HOp.out) hb); have n1_ := ak (Kd.R_below (by (with_reducible repeat (first | apply Kd.R_alloc | apply Kd.R_drewN | apply Kd.R_drew)); exact HO2.out) hb); have n2_ := ak (below_step (by exact hopb HB.out) hb); have n3_ := ak (show w2.heap.size ≤ w3.heap.size from hb.size); have n4_ := ak (show Kd.R k65 65 w3 w.heap.size (fun k_ => w2.heap.size ≤ k_ ∧ k_ < w3.heap.size) v3_ t8 from Kd.R_lower (Kd.R_mono (Kd.R_bound ho) (fun k_ hk_ => ⟨hk_.2.1, hk_.2.2.1⟩)) (below_size (by exact hopb HB.out))); clear HOp HO2 HB; have HOp := n0_; have HO2 := n1_; have HB := n2_; have Z3 := n3_; have HO3 := n4_; clear n0_ n1_ n2_ n3_ n4_; clear ho; obtain ⟨Ao3, co3, eo3⟩ := Kd.R_slice HO3.out; subst eo3; clear hb) | ((with_reducible refine gate_dst (N := 8) rfl ?_); refine box_event ?hg (N := 8) ?hd (cs := #[.slice none 0 0]) (t := 53) ?hr ?_; (case hd => rfl); (case hg => rfl); (case hr => first | (go_simp; done) | (go_simp; rfl)); intro gbe8 hg w4 hbox hb; have n0_ := ak (Kd.S_below (by (with_reducible repeat (first | apply Kd.S_alloc | apply Kd.S_drewN | apply Kd.S_drew)); exact HOp.out) hb); have n1_ := ak (Kd.R_below (by (with_reducible repeat (first | apply Kd.R_alloc | apply Kd.R_drewN | apply Kd.R_drew)); exact HO2.out) hb); have n2_ := ak (Kd.R_below (by (with_reducible repeat (first | apply Kd.R_alloc | apply Kd.R_drewN | apply Kd.R_drew)); exact HO3.out) hb); have n3_ := ak (below_step (by exact hopb HB.out) hb); have n4_ := ak (show w3.heap.size ≤ w4.heap.size from hb.size); have n5_ := ak (hbox); have n6_ := ak (show gbe8 = w3.heap.size ∧ gbe8 < w4.heap.size ∧ w.heap.size ≤ gbe8 from ⟨hg, blk_lt hbox, by rw [hg]; exact below_size (by exact hopb HB.out)⟩); clear HOp HO2 HO3 HB; have HOp := n0_; have HO2 := n1_; have HO3 := n2_; have HB := n3_; have Z4 := n4_; have BKe8 := n5_; have BGe8 := n6_; clear n0_ n1_ n2_ n3_ n4_ n5_ n6_; clear hb hbox hg; have hcze8 := (blk_cell BKe8.out 0); have hfze8 := blk_frozen BKe8.out 0) | ((with_reducible refine gate_store (t := 53) (p := 8) rfl ?_); refine store_event (t := 53) (p := 8) (v := ?vo_w5) (w1 := (w4.setCell ⟨gbe8, 0, none⟩ (.slice Ao3 t8.length co3))) ?hg ?ho ?hn ?hr ?_; (case ho => rfl); (case hg => rfl); (case hn => rfl); (case hr => first | (go_simp; done) | (go_simp; rfl)); intro w5 hw; have n0_ := ak (show Kd.S k53 53 w5 w.heap.size (fun k_ => w.heap.size ≤ k_ ∧ k_ < wa.heap.size) (.slice (some ⟨gp, 0, none⟩) l0.length cp) l0 from (by rw [hw]; exact Kd.S_far HOp.out (fun k_ (h_ : w.heap.size ≤ k_ ∧ k_ < wa.heap.size) => by show k_ ≠ gbe8; have z1_ := Z1.out; have z2_ := Z2.out; have z3_ := Z3.out; have z4_ := Z4.out; have ge8_ := BGe8.out; omega) _)); have n1_ := ak (show Kd.R k65 65 w5 w.heap.size (fun k_ => wa.heap.size ≤ k_ ∧ k_ < w2.heap.size) (.slice Ao2 y.length co2) y from (by rw [hw]; exact Kd.R_far HO2.out (fun k_ (h_ : wa.heap.size ≤ k_ ∧ k_ < w2.heap.size) => by show k_ ≠ gbe8; have z1_ := Z1.out; have z2_ := Z2.out; have z3_ := Z3.out; have z4_ := Z4.out; have ge8_ := BGe8.out; omega) _)); have n2_ := ak (show Kd.R k65 65 w5 w.heap.size (fun k_ => w2.heap.size ≤ k_ ∧ k_ < w3.heap.size) (.slice Ao3 t8.length co3) t8 from (by rw [hw]; exact Kd.R_far HO3.out (fun k_ (h_ : w2.heap.size ≤ k_ ∧ k_ < w3.heap.size) => by show k_ ≠ gbe8; have z1_ := Z1.out; have z2_ := Z2.out; have z3_ := Z3.out; have z4_ := Z4.out; have ge8_ := BGe8.out; omega) _)); have n3_ := ak (show w5.heap[gbe8]? = some (.cells #[.slice Ao3 t8.length co3] 53 (0, 0)) from (by rw [hw]; exact (by simpa using blk_set BKe8.out 0 (.slice Ao3 t8.length co3)))); have n4_ := ak (show Below w.heap.size w w5 from (by rw [hw]; exact below_set HB.out BGe8.out.2.2)); have n5_ := ak (show w4.heap.size ≤ w5.heap.size from (by rw [hw]; simp [World.setCell])); clear HOp HO2 HO3 BKe8 HB; have HOp := n0_; have HO2 := n1_; have HO3 := n2_; have BKe8 := n3_; have HB := n4_; have Z5 := n5_; clear n0_ n1_ n2_ n3_ n4_ n5_; clear hw; have hcve8_5 : w5.cell? ⟨gbe8, 0, none⟩ = some (.slice Ao3 t8.length co3) := (blk_cell BKe8.out 0).trans rfl) | ((with_reducible refine gate_callee (f := 46) rfl ?_); refine goesL_ (some 65) rfl rfl Try.func46 (by kernel_rfl) rfl #[.slice AB yb.length cB] rfl (by (try simp only [List.map_toArray, List.map_cons, List.map_nil]); first | done | rfl) ?_; refine (impl_copyOf_Pair.calls _ _ yb t9 _ (by have q_ := Kd.R_reads' HO2.out; have h_ := LM.out; have r_ := Kd.C_drop (m := cu.toNat) (c := co2) q_.2.2 (by omega) q_.2.1; rw [← NB.out] at r_; (with_reducible repeat (first | refine Kd.C_alloc ?_ _ | refine Kd.C_drewN ?_ _ | refine Kd.C_drew ?_)); rw [KA.out]; exact r_) (by have q_ := Kd.R_reads' HO2.out; have h_ := LM.out; have l_ := LB.out; have k_ := KC.out; omega) B9.out).mono ?_; rintro e w6 ⟨v6_, rfl, ho, hb⟩; refine ⟨_, rfl, ?_⟩; have n0_ := ak (Kd.S_below (by (with_reducible repeat (first | apply Kd.S_alloc | apply Kd.S_drewN | apply Kd.S_drew)); exact HOp.out) hb); have n1_ := ak (Kd.R_below (by (with_reducible repeat (first | apply Kd.R_alloc | apply Kd.R_drewN | apply Kd.R_drew)); exact HO2.out) hb); have n2_ := ak (Kd.R_below (by (with_reducible repeat (first | apply Kd.R_alloc | apply Kd.R_drewN | apply Kd.R_drew)); exact HO3.out) hb); have n3_ := ak (blk_below (hop BKe8.out) hb); have n4_ := ak (below_step (by exact hopb HB.out) hb); have n5_ := ak (show w5.heap.size ≤ w6.heap.size from hb.size); have n6_ := ak (show Kd.R k65 65 w6 w.heap.size (fun k_ => w5.heap.size ≤ k_ ∧ k_ < w6.heap.size) v6_ t9 from Kd.R_lower (Kd.R_mono (Kd.R_bound ho) (fun k_ hk_ => ⟨hk_.2.1, hk_.2.2.1⟩)) (below_size (by exact hopb HB.out))); clear HOp HO2 HO3 BKe8 HB; have HOp := n0_; have HO2 := n1_; have HO3 := n2_; have BKe8 := n3_; have HB := n4_; have Z6 := n5_; have HO6 := n6_; clear n0_ n1_ n2_ n3_ n4_ n5_ n6_; clear ho; obtain ⟨Ao6, co6, eo6⟩ := Kd.R_slice HO6.out; subst eo6; clear hb) | ((with_reducible refine gate_dst (N := 9) rfl ?_); refine box_event ?hg (N := 9) ?hd (cs := #[.slice none 0 0]) (t := 53) ?hr ?_; (case hd => rfl); (case hg => rfl); (case hr => first | (go_simp; done) | (go_simp; rfl)); intro gbe9 hg w7 hbox hb; have n0_ := ak (Kd.S_below (by (with_reducible repeat (first | apply Kd.S_alloc | apply Kd.S_drewN | apply Kd.S_drew)); exact HOp.out) hb); have n1_ := ak (Kd.R_below (by (with_reducible repeat (first | apply Kd.R_alloc | apply Kd.R_drewN | apply Kd.R_drew)); exact HO2.out) hb); have n2_ := ak (Kd.R_below (by (with_reducible repeat (first | apply Kd.R_alloc | apply Kd.R_drewN | apply Kd.R_drew)); exact HO3.out) hb); have n3_ := ak (Kd.R_below (by (with_reducible repeat (first | apply Kd.R_alloc | apply Kd.R_drewN | apply Kd.R_drew)); exact HO6.out) hb); have n4_ := ak (blk_below (hop BKe8.out) hb); have n5_ := ak (below_step (by exact hopb HB.out) hb); have n6_ := ak (show w6.heap.size ≤ w7.heap.size from hb.size); have n7_ := ak (hbox); have n8_ := ak (show gbe9 = w6.heap.size ∧ gbe9 < w7.heap.size ∧ w.heap.size ≤ gbe9 from ⟨hg, blk_lt hbox, by rw [hg]; exact below_size (by exact hopb HB.out)⟩); clear HOp HO2 HO3 HO6 BKe8 HB; have HOp := n0_; have HO2 := n1_; have HO3 := n2_; have HO6 := n3_; have BKe8 := n4_; have HB := n5_; have Z7 := n6_; have BKe9 := n7_; have BGe9 := n8_; clear n0_ n1_ n2_ n3_ n4_ n5_ n6_ n7_ n8_; clear hb hbox hg; have hcze9 := (blk_cell BKe9.out 0); have hfze9 := blk_frozen BKe9.out 0) | ((with_reducible refine gate_store (t := 53) (p := 9) rfl ?_); refine store_event (t := 53) (p := 9) (v := ?vo_w8) (w1 := (w7.setCell ⟨gbe9, 0, none⟩ (.slice Ao6 t9.length co6))) ?hg ?ho ?hn ?hr ?_; (case ho => rfl); (case hg => rfl); (case hn => rfl); (case hr => first | (go_simp; done) | (go_simp; rfl)); intro w8 hw; have n0_ := ak (show Kd.S k53 53 w8 w.heap.size (fun k_ => w.heap.size ≤ k_ ∧ k_ < wa.heap.size) (.slice (some ⟨gp, 0, none⟩) l0.length cp) l0 from (by rw [hw]; exact Kd.S_far HOp.out (fun k_ (h_ : w.heap.size ≤ k_ ∧ k_ < wa.heap.size) => by show k_ ≠ gbe9; have z1_ := Z1.out; have z2_ := Z2.out; have z3_ := Z3.out; have z4_ := Z4.out; have z5_ := Z5.out; have z6_ := Z6.out; have z7_ := Z7.out; have ge8_ := BGe8.out; have ge9_ := BGe9.out; omega) _)); have n1_ := ak (show Kd.R k65 65 w8 w.heap.size (fun k_ => wa.heap.size ≤ k_ ∧ k_ < w2.heap.size) (.slice Ao2 y.length co2) y from (by rw [hw]; exact Kd.R_far HO2.out (fun k_ (h_ : wa.heap.size ≤ k_ ∧ k_ < w2.heap.size) => by show k_ ≠ gbe9; have z1_ := Z1.out; have z2_ := Z2.out; have z3_ := Z3.out; have z4_ := Z4.out; have z5_ := Z5.out; have z6_ := Z6.out; have z7_ := Z7.out; have ge8_ := BGe8.out; have ge9_ := BGe9.out; omega) _)); have n2_ := ak (show Kd.R k65 65 w8 w.heap.size (fun k_ => w2.heap.size ≤ k_ ∧ k_ < w3.heap.size) (.slice Ao3 t8.length co3) t8 from (by rw [hw]; exact Kd.R_far HO3.out (fun k_ (h_ : w2.heap.size ≤ k_ ∧ k_ < w3.heap.size) => by show k_ ≠ gbe9; have z1_ := Z1.out; have z2_ := Z2.out; have z3_ := Z3.out; have z4_ := Z4.out; have z5_ := Z5.out; have z6_ := Z6.out; have z7_ := Z7.out; have ge8_ := BGe8.out; have ge9_ := BGe9.out; omega) _)); have n3_ := ak (show Kd.R k65 65 w8 w.heap.size (fun k_ => w5.heap.size ≤ k_ ∧ k_ < w6.heap.size) (.slice Ao6 t9.length co6) t9 from (by rw [hw]; exact Kd.R_far HO6.out (fun k_ (h_ : w5.heap.size ≤ k_ ∧ k_ < w6.heap.size) => by show k_ ≠ gbe9; have z1_ := Z1.out; have z2_ := Z2.out; have z3_ := Z3.out; have z4_ := Z4.out; have z5_ := Z5.out; have z6_ := Z6.out; have z7_ := Z7.out; have ge8_ := BGe8.out; have ge9_ := BGe9.out; omega) _)); have n4_ := ak (show w8.heap[gbe8]? = some (.cells #[.slice Ao3 t8.length co3] 53 (0, 0)) from (by rw [hw]; exact blk_far BKe8.out (by show gbe8 ≠ gbe9; have z1_ := Z1.out; have z2_ := Z2.out; have z3_ := Z3.out; have z4_ := Z4.out; have z5_ := Z5.out; have z6_ := Z6.out; have z7_ := Z7.out; have ge8_ := BGe8.out; have ge9_ := BGe9.out; omega) _)); have n5_ := ak (show w8.heap[gbe9]? = some (.cells #[.slice Ao6 t9.length co6] 53 (0, 0)) from (by rw [hw]; exact (by simpa using blk_set BKe9.out 0 (.slice Ao6 t9.length co6)))); have n6_ := ak (show Below w.heap.size w w8 from (by rw [hw]; exact below_set HB.out BGe9.out.2.2)); have n7_ := ak (show w7.heap.size ≤ w8.heap.size from (by rw [hw]; simp [World.setCell])); clear HOp HO2 HO3 HO6 BKe8 BKe9 HB; have HOp := n0_; have HO2 := n1_; have HO3 := n2_; have HO6 := n3_; have BKe8 := n4_; have BKe9 := n5_; have HB := n6_; have Z8 := n7_; clear n0_ n1_ n2_ n3_ n4_ n5_ n6_ n7_; clear hw; have hcve8_8 : w8.cell? ⟨gbe8, 0, none⟩ = some (.slice Ao3 t8.length co3) := (blk_cell BKe8.out 0).trans rfl; have hcve9_8 : w8.cell? ⟨gbe9, 0, none⟩ = some (.slice Ao6 t9.length co6) := (blk_cell BKe9.out 0).trans rfl) | ((with_reducible refine gate_dst (N := 71) rfl ?_); refine Kd.S_lits k53 (w0 := w) w.heap.size 53 ?hg (N := 71) ?hd (xs := ([⟨t8⟩, ⟨t9⟩] : List S53)) (inner := [.slice Ao3 t8.length co3, .slice Ao6 t9.length co6]) (ok := fun k_ => w2.heap.size ≤ k_) (fun j_ k_ => (j_ = 0 ∧ w2.heap.size ≤ k_ ∧ k_ < w3.heap.size) ∨ (j_ = 1 ∧ w5.heap.size ≤ k_ ∧ k_ < w6.heap.size)) ?hr ?hl ?hp ?ha ?hk ?hf ?hB ?hb ?hm ?_; (case hd => rfl); (case hg => rfl); (case hr => first | (go_simp; done) | (go_simp; rfl)); (case hl => rfl); (case hB => exact (by exact hopb HB.out)); (case hb => exact below_size (by exact hopb HB.out)); (case hm => exact (show 2 ≤ 9223372036854775807 by decide)); (case hf => exact (show w2.heap.size ≤ _ from by have z1_ := Z1.out; have z2_ := Z2.out; have z3_ := Z3.out; have z4_ := Z4.out; have z5_ := Z5.out; have z6_ := Z6.out; have z7_ := Z7.out; have z8_ := Z8.out; have ge8_ := BGe8.out; have ge9_ := BGe9.out; first | omega | (show w2.heap.size ≤ w8.heap.size; omega))); (case hk => exact (fun j_ k_ h_ => by have z1_ := Z1.out; have z2_ := Z2.out; have z3_ := Z3.out; have z4_ := Z4.out; have z5_ := Z5.out; have z6_ := Z6.out; have z7_ := Z7.out; have z8_ := Z8.out; have ge8_ := BGe8.out; have ge9_ := BGe9.out; (try dsimp only at h_); (try show w2.heap.size ≤ k_); omega)); (case ha => exact (fun i_ j_ k_ h1_ h2_ => by have z1_ := Z1.out; have z2_ := Z2.out; have z3_ := Z3.out; have z4_ := Z4.out; have z5_ := Z5.out; have z6_ := Z6.out; have z7_ := Z7.out; have z8_ := Z8.out; have ge8_ := BGe8.out; have ge9_ := BGe9.out; (try dsimp only at h1_ h2_); omega)); (case hp => intro j_ x_ hx_; match j_, hx_ with | 0, hx_ => (obtain rfl := Option.some.inj hx_; exact k53_mkM _ _ _ (⟨t8⟩ : S53) (Kd.R_mono (by (with_reducible repeat (first | apply Kd.R_alloc | apply Kd.R_drewN | apply Kd.R_drew)); exact HO3.out) (fun k_ h_ => (by (try dsimp only); (try dsimp only at h_); omega)))) | 1, hx_ => (obtain rfl := Option.some.inj hx_; exact k53_mkM _ _ _ (⟨t9⟩ : S53) (Kd.R_mono (by (with_reducible repeat (first | apply Kd.R_alloc | apply Kd.R_drewN | apply Kd.R_drew)); exact HO6.out) (fun k_ h_ => (by (try dsimp only); (try dsimp only at h_); omega)))) | (q_ + 2), hx_ => exact absurd hx_ (by simp)); intro v9_ w9 ho hb hg_ hnew_; have hb1_ := hb; have hb := (show Below w8.heap.size w8 w9 from ⟨hg_.os, hg_.tape, hg_.output, hg_.size, fun k_ h_ => hg_.block k_ h_ (by simp)⟩); have n0_ := ak (Kd.S_below (by (with_reducible repeat (first | apply Kd.S_alloc | apply Kd.S_drewN | apply Kd.S_drew)); exact HOp.out) hb); have n1_ := ak (Kd.R_below (by (with_reducible repeat (first | apply Kd.R_alloc | apply Kd.R_drewN | apply Kd.R_drew)); exact HO2.out) hb); have n2_ := ak (blk_below (hop BKe8.out) hb); have n3_ := ak (blk_below (hop BKe9.out) hb); have n4_ := ak (below_step (by exact hopb HB.out) hb); have n5_ := ak (show w8.heap.size ≤ w9.heap.size from hb.size); have n6_ := ak (show Kd.S k53 53 w9 w.heap.size (fun k_ => w2.heap.size ≤ k_ ∧ k_ < w9.heap.size) v9_ ([⟨t8⟩, ⟨t9⟩] : List S53) from Kd.S_mono (Kd.S_bound ho) (fun k_ hk_ => ⟨hk_.1, hk_.2.2.1⟩)); clear HOp HO2 BKe8 BKe9 HB; have HOp := n0_; have HO2 := n1_; have BKe8 := n2_; have BKe9 := n3_; have HB := n4_; have Z9 := n5_; have HO9 := n6_; clear n0_ n1_ n2_ n3_ n4_ n5_ n6_; clear ho hb hb1_ hg_ hnew_ HO3 HO6; obtain ⟨Ao9, co9, eo9⟩ := Kd.S_slice HO9.out; subst eo9; replace HO9 : Aside0 (Kd.S k53 53 w9 w.heap.size (fun k_ => w2.heap.size ≤ k_ ∧ k_ < w9.heap.size) (.slice Ao9 2 co9) ([⟨t8⟩, ⟨t9⟩] : List S53)) := HO9) | ((with_reducible refine gate_callee (f := 47) rfl ?_); refine goesL_ (some 72) rfl rfl Try.func47 (by kernel_rfl) rfl #[.slice (some ⟨gp, 0, none⟩) l0.length cp, .int .i64 lf, .int .i64 2, .slice Ao9 2 co9] rfl (by (try simp only [List.map_toArray, List.map_cons, List.map_nil]); first | done | rfl) ?_; refine (impl_replaced_Page.calls (fun k_ => w.heap.size ≤ k_ ∧ k_ < wa.heap.size) (fun k_ => w2.heap.size ≤ k_ ∧ k_ < w9.heap.size) _ _ l0 lf 2 [⟨t8⟩, ⟨t9⟩] r w _ (by exact hopb HB.out) (by (with_reducible repeat (first | apply Kd.S_alloc | apply Kd.S_drewN | apply Kd.S_drew)); exact HOp.out) (by (with_reducible repeat (first | apply Kd.S_alloc | apply Kd.S_drewN | apply Kd.S_drew)); exact HO9.out) (fun k_ (h1_ : w.heap.size ≤ k_ ∧ k_ < wa.heap.size) (h2_ : w2.heap.size ≤ k_ ∧ k_ < w9.heap.size) => by have z1_ := Z1.out; have z2_ := Z2.out; have z3_ := Z3.out; have z4_ := Z4.out; have z5_ := Z5.out; have z6_ := Z6.out; have z7_ := Z7.out; have z8_ := Z8.out; have z9_ := Z9.out; omega) h'.out).mono ?_; rintro e w10 ⟨v10_, rfl, ho, hb⟩; refine ⟨_, rfl, ?_⟩; have n0_ := ak (Kd.S_mono (ok' := fun _ => True) ho (fun _ _ => trivial)); have n1_ := ak (below_step (by exact hopb HB.out) hb); clear HB ho hb; have HOf := n0_; have HB := n1_; clear n0_ n1_; obtain ⟨Ao10, co10, eo10⟩ := Kd.S_slice HOf.out; subst eo10))
   go_ret
   exact ⟨_, rfl, HOf.out, (by exact hopb HB.out)⟩

/-! ### impl_PagesDrop: function 9 -/
def impl_PagesDrop.fin (y : List (S53)) (n : Nat) (t4 : Int) (q : List (S65)) : Option ((List (S53)) × Bool) := if n = 1 then (if q.length = 0 then some ([], true) else some (y, true)) else if q.length < 2 then (impl_refilled.f y t4).bind fun r => some (r, true) else some (y, true)
def impl_PagesDrop.f (k : Nat) (l0 : List (S53)) (a1 : ByteArray) : Option ((List (S53)) × Bool) := (impl_PagesValid.f k l0).bind fun t0 => (if t0 = true then impl_KeyValid.f k a1 else some false).bind fun t1 => if t1 = false then some ([], false) else (impl_copyPages.f k l0).bind fun t3 => if l0.length = 0 then some (t3, false) else (impl_pageOf.f k l0 a1).bind fun t4 => if 0 ≤ t4 ∧ t4 < (l0.length : Int) ∧ t3.length = l0.length then (impl_PairDrop.f k (rd_T53 l0 t4).f0 a1).bind fun t5 => (if t5.2 = false then some (t3, false) else impl_PagesDrop.fin (t3.set t4.toNat ⟨t5.1⟩) t3.length t4 t5.1) else none
theorem impl_PagesDrop.calls (k : Nat) (A0 : Option Addr) (c0 : Nat) (l0 : List (S53)) (a1 : ByteArray) (r1 : List (S53)) (r2 : Bool) (w : World) (hr0 : Kd.C k53 w A0 l0.length l0) (hc0 : l0.length ≤ c0) (h : impl_PagesDrop.f k l0 a1 = some (r1, r2)) :
  Calls Try.prog 9 #[.slice A0 l0.length c0, .string a1] w fun e w' => ∃ v0_ : Value, e = .returned (.tuple #[v0_, .bool r2]) ∧ Kd.S k53 53 w' w.heap.size (fun _ => True) v0_ r1 ∧ Below w.heap.size w w' := by
 have HR0 := ak hr0
 have HC0 := ak hc0
 clear hr0 hc0
 have HB := ak (Below.refl w.heap.size w)
 unfold impl_PagesDrop.f at h
 replace h := Option.bind_eq_some_iff.mp h
 obtain ⟨t0, B00, h⟩ := h
 have B0 := ak B00
 clear B00
 replace h := Option.bind_eq_some_iff.mp h
 obtain ⟨t1, B10, h⟩ := h
 have B1 := ak B10
 clear B10
 go_enter Try.func9, Try.ntmps9
 go_upto_region 1 with (fail)
 go_cut [17] (fun v17 wc => v17 = .bool (!t1) ∧ Aside0 (Below w.heap.size w wc))
 case first =>
  clear h
  cases t0 with
  | false =>
   rw [if_neg (by simp)] at B1
   obtain rfl := Option.some.inj B1.out
   go_wp2_with (first | ((with_reducible refine gate_callee (f := 20) rfl ?_); refine goesL_ (some 11) rfl rfl Try.func20 (by kernel_rfl) rfl #[.slice A0 l0.length c0] rfl (by (try simp only [List.map_toArray, List.map_cons, List.map_nil]); first | done | rfl) ?_; refine (impl_PagesValid.calls k _ _ l0 false _ (by repeat (first | exact (Kd.C_below HR0.out HB.out) | exact HR0.out | (with_reducible refine Kd.C_alloc ?_ _) | (with_reducible refine Kd.C_drewN ?_ _) | (with_reducible refine Kd.C_drew ?_))) HC0.out B0.out).mono ?_; rintro e w1 ⟨rfl, hb⟩; refine ⟨_, rfl, ?_⟩; have n0_ := ak (below_step (by exact hopb HB.out) hb); have n1_ := ak (show w.heap.size ≤ w1.heap.size from hb.size); clear  HB; have HB := n0_; have Z1 := n1_; clear n0_ n1_; clear hb))
   go_meet
   case rel => exact ⟨rfl, ⟨(by exact hopb HB.out)⟩⟩
  | true =>
   rw [if_pos rfl] at B1
   cases t1 with
   | false =>
    go_wp2_with (first | ((with_reducible refine gate_callee (f := 20) rfl ?_); refine goesL_ (some 11) rfl rfl Try.func20 (by kernel_rfl) rfl #[.slice A0 l0.length c0] rfl (by (try simp only [List.map_toArray, List.map_cons, List.map_nil]); first | done | rfl) ?_; refine (impl_PagesValid.calls k _ _ l0 true _ (by repeat (first | exact (Kd.C_below HR0.out HB.out) | exact HR0.out | (with_reducible refine Kd.C_alloc ?_ _) | (with_reducible refine Kd.C_drewN ?_ _) | (with_reducible refine Kd.C_drew ?_))) HC0.out B0.out).mono ?_; rintro e w1 ⟨rfl, hb⟩; refine ⟨_, rfl, ?_⟩; have n0_ := ak (below_step (by exact hopb HB.out) hb); have n1_ := ak (show w.heap.size ≤ w1.heap.size from hb.size); clear  HB; have HB := n0_; have Z1 := n1_; clear n0_ n1_; clear hb) | (go_at_call 30; refine (impl_KeyValid.calls k a1 false _  B1.out).mono ?_; rintro e w2 ⟨rfl, hb0⟩; have hb := hb0.below; have n0_ := ak (below_step (by exact hopb HB.out) hb); have n1_ := ak (show w1.heap.size ≤ w2.heap.size from hb.size); clear  HB; have HB := n0_; have Z2 := n1_; clear n0_ n1_; clear hb0; try clear hb))
    go_meet
    case rel => exact ⟨rfl, ⟨(by exact hopb HB.out)⟩⟩
   | true =>
    go_wp2_with (first | ((with_reducible refine gate_callee (f := 20) rfl ?_); refine goesL_ (some 11) rfl rfl Try.func20 (by kernel_rfl) rfl #[.slice A0 l0.length c0] rfl (by (try simp only [List.map_toArray, List.map_cons, List.map_nil]); first | done | rfl) ?_; refine (impl_PagesValid.calls k _ _ l0 true _ (by repeat (first | exact (Kd.C_below HR0.out HB.out) | exact HR0.out | (with_reducible refine Kd.C_alloc ?_ _) | (with_reducible refine Kd.C_drewN ?_ _) | (with_reducible refine Kd.C_drew ?_))) HC0.out B0.out).mono ?_; rintro e w1 ⟨rfl, hb⟩; refine ⟨_, rfl, ?_⟩; have n0_ := ak (below_step (by exact hopb HB.out) hb); have n1_ := ak (show w.heap.size ≤ w1.heap.size from hb.size); clear  HB; have HB := n0_; have Z1 := n1_; clear n0_ n1_; clear hb) | (go_at_call 30; refine (impl_KeyValid.calls k a1 true _  B1.out).mono ?_; rintro e w2 ⟨rfl, hb0⟩; have hb := hb0.below; have n0_ := ak (below_step (by exact hopb HB.out) hb); have n1_ := ak (show w1.heap.size ≤ w2.heap.size from hb.size); clear  HB; have HB := n0_; have Z2 := n1_; clear n0_ n1_; clear hb0; try clear hb))
    go_meet
    case rel => exact ⟨rfl, ⟨(by exact hopb HB.out)⟩⟩
 case rest =>
  obtain ⟨rfl, HB⟩ := hcut
  generalize wc = wb at HB ⊢
  have Z0 := ak (show w.heap.size ≤ wb.heap.size from HB.out.size)
  clear B0 B1
  cases t1 with
  | false =>
   rw [if_pos rfl] at h
   obtain ⟨rfl, rfl⟩ := Prod.mk.inj (Option.some.inj h)
   clear h
   go_wp2
   go_ret2
   exact ⟨_, rfl, Kd.S_nil _ _ _ _ _, (by exact hopb HB.out)⟩
  | true =>
  rw [if_neg (by simp)] at h
  replace h := Option.bind_eq_some_iff.mp h
  obtain ⟨t3, B30, h⟩ := h
  have B3 := ak B30
  clear B30
  by_cases c0_ : l0.length = 0
  ·rw [if_pos c0_] at h
   obtain ⟨rfl, rfl⟩ := Prod.mk.inj (Option.some.inj h)
   clear h
   have cb_ : ((l0.length : Int) == 0) = true := beq_iff_eq.mpr (by omega)
   clear c0_
   go_wp2_with (first | ((with_reducible refine gate_callee (f := 31) rfl ?_); refine goesL_ (some 19) rfl rfl Try.func31 (by kernel_rfl) rfl #[.slice A0 l0.length c0] rfl (by (try simp only [List.map_toArray, List.map_cons, List.map_nil]); first | done | rfl) ?_; refine (impl_copyPages.calls k _ _ l0 t3 _ (by repeat (first | exact (Kd.C_below HR0.out HB.out) | exact HR0.out | (with_reducible refine Kd.C_alloc ?_ _) | (with_reducible refine Kd.C_drewN ?_ _) | (with_reducible refine Kd.C_drew ?_))) HC0.out B3.out).mono ?_; rintro e w1 ⟨v1_, rfl, ho, hb⟩; refine ⟨_, rfl, ?_⟩; have n0_ := ak (below_step (by exact hopb HB.out) hb); have n1_ := ak (show wb.heap.size ≤ w1.heap.size from hb.size); have n2_ := ak (show Kd.S k53 53 w1 w.heap.size (fun k_ => wb.heap.size ≤ k_ ∧ k_ < w1.heap.size) v1_ t3 from Kd.S_lower (Kd.S_mono (Kd.S_bound ho) (fun k_ hk_ => ⟨hk_.2.1, hk_.2.2.1⟩)) (below_size (by exact hopb HB.out))); clear  HB; have HB := n0_; have Z1 := n1_; have HO1 := n2_; clear n0_ n1_ n2_; clear ho; obtain ⟨Ao1, co1, eo1⟩ := Kd.S_slice HO1.out; subst eo1; clear hb))
   go_ret2
   exact ⟨_, rfl, Kd.S_mono (by (with_reducible repeat (first | apply Kd.S_alloc | apply Kd.S_drewN | apply Kd.S_drew)); exact HO1.out) (fun _ _ => trivial), (by exact hopb HB.out)⟩
  rw [if_neg c0_] at h
  have cb_ : ((l0.length : Int) == 0) = false := beq_eq_false_iff_ne.mpr (by omega)
  replace h := Option.bind_eq_some_iff.mp h
  obtain ⟨t4, B40, h⟩ := h
  have B4 := ak B40
  clear B40
  by_cases c1_ : ¬ (0 ≤ t4 ∧ t4 < (l0.length : Int) ∧ t3.length = l0.length)
  ·rw [if_neg c1_] at h
   exact absurd h (by simp)
  replace c1_ := Classical.not_not.1 c1_
  rw [if_pos c1_] at h
  replace h := Option.bind_eq_some_iff.mp h
  obtain ⟨⟨q5, t5⟩, B50, h⟩ := h
  have B5 := ak B50
  clear B50
  dsimp only at h
  obtain ⟨a0_, b0_, l3_⟩ := c1_
  have HAT := ak (show 0 ≤ t4 ∧ t4 < ((t3.length : Nat) : Int) from ⟨a0_, by omega⟩)
  obtain ⟨ad_, Ap, cp, e_, hx_, hl_, hi_⟩ := at_T53 HR0.out t4 a0_ b0_
  subst e_
  have HX := ak hx_
  have HP := ak hi_
  have HQ := ak hl_
  replace a0_ := eq_true a0_
  replace b0_ := eq_true b0_
  clear hx_ hl_ hi_ l3_ c0_
  go_upto_if 38 with (first | ((with_reducible refine gate_callee (f := 31) rfl ?_); refine goesL_ (some 19) rfl rfl Try.func31 (by kernel_rfl) rfl #[.slice (some ad_) l0.length c0] rfl (by (try simp only [List.map_toArray, List.map_cons, List.map_nil]); first | done | rfl) ?_; refine (impl_copyPages.calls k _ _ l0 t3 _ (by repeat (first | exact (Kd.C_below HR0.out HB.out) | exact HR0.out | (with_reducible refine Kd.C_alloc ?_ _) | (with_reducible refine Kd.C_drewN ?_ _) | (with_reducible refine Kd.C_drew ?_))) HC0.out B3.out).mono ?_; rintro e w1 ⟨v1_, rfl, ho, hb⟩; refine ⟨_, rfl, ?_⟩; have n0_ := ak (below_step (by exact hopb HB.out) hb); have n1_ := ak (show wb.heap.size ≤ w1.heap.size from hb.size); have n2_ := ak (show Kd.S k53 53 w1 w.heap.size (fun k_ => wb.heap.size ≤ k_ ∧ k_ < w1.heap.size) v1_ t3 from Kd.S_lower (Kd.S_mono (Kd.S_bound ho) (fun k_ hk_ => ⟨hk_.2.1, hk_.2.2.1⟩)) (below_size (by exact hopb HB.out))); clear  HB; have HB := n0_; have Z1 := n1_; have HO1 := n2_; clear n0_ n1_ n2_; clear ho; obtain ⟨go1, co1, eo1, _, _, _, _⟩ := Kd.S_form HO1.out (by have h_ := HAT.out; omega); subst eo1; clear hb) | ((with_reducible refine gate_callee (f := 32) rfl ?_); refine goesL_ (some 26) rfl rfl Try.func32 (by kernel_rfl) rfl #[.slice (some ad_) l0.length c0, .string a1] rfl (by (try simp only [List.map_toArray, List.map_cons, List.map_nil]); first | done | rfl) ?_; refine (impl_pageOf.calls k _ _ l0 a1 t4 _ (by repeat (first | exact (Kd.C_below HR0.out HB.out) | exact HR0.out | (with_reducible refine Kd.C_alloc ?_ _) | (with_reducible refine Kd.C_drewN ?_ _) | (with_reducible refine Kd.C_drew ?_))) HC0.out B4.out).mono ?_; rintro e w2 ⟨rfl, hb⟩; refine ⟨_, rfl, ?_⟩; have n0_ := ak (Kd.S_below (by (with_reducible repeat (first | apply Kd.S_alloc | apply Kd.S_drewN | apply Kd.S_drew)); exact HO1.out) hb); have n1_ := ak (below_step (by exact hopb HB.out) hb); have n2_ := ak (show w1.heap.size ≤ w2.heap.size from hb.size); clear HO1 HB; have HO1 := n0_; have HB := n1_; have Z2 := n2_; clear n0_ n1_ n2_; clear hb; have hx1_ := (HB.out.cell (World.block_lt_of_cell? w _ HX.out)).trans HX.out) | ((with_reducible refine gate_callee (f := 33) rfl ?_); refine goesL_ (some 34) rfl rfl Try.func33 (by kernel_rfl) rfl #[.slice Ap (rd_T53 l0 t4).f0.length cp, .string a1] rfl (by (try simp only [List.map_toArray, List.map_cons, List.map_nil]); first | done | rfl) ?_; refine (impl_PairDrop.calls k _ _ (rd_T53 l0 t4).f0 a1 q5 t5 _ (by repeat (first | exact (Kd.C_below HP.out HB.out) | exact HP.out | (with_reducible refine Kd.C_alloc ?_ _) | (with_reducible refine Kd.C_drewN ?_ _) | (with_reducible refine Kd.C_drew ?_))) HQ.out B5.out).mono ?_; rintro e w3 ⟨v3_, rfl, ho, hb⟩; refine ⟨_, rfl, ?_⟩; have n0_ := ak (Kd.S_below (by (with_reducible repeat (first | apply Kd.S_alloc | apply Kd.S_drewN | apply Kd.S_drew)); exact HO1.out) hb); have n1_ := ak (below_step (by exact hopb HB.out) hb); have n2_ := ak (show w2.heap.size ≤ w3.heap.size from hb.size); have n3_ := ak (show Kd.R k65 65 w3 w.heap.size (fun k_ => w2.heap.size ≤ k_ ∧ k_ < w3.heap.size) v3_ q5 from Kd.R_lower (Kd.R_mono (Kd.R_bound ho) (fun k_ hk_ => ⟨hk_.2.1, hk_.2.2.1⟩)) (below_size (by exact hopb HB.out))); clear HO1 HB; have HO1 := n0_; have HB := n1_; have Z3 := n2_; have HO3 := n3_; clear n0_ n1_ n2_ n3_; clear ho; obtain ⟨Ao3, co3, eo3⟩ := Kd.R_slice HO3.out; subst eo3; clear hb; clear hx1_))
  cases t5 with
  | false =>
   rw [if_pos rfl] at h
   obtain ⟨rfl, rfl⟩ := Prod.mk.inj (Option.some.inj h)
   clear h
   go_wp2
   go_ret2
   exact ⟨_, rfl, Kd.S_mono (by (with_reducible repeat (first | apply Kd.S_alloc | apply Kd.S_drewN | apply Kd.S_drew)); exact HO1.out) (fun _ _ => trivial), (by exact hopb HB.out)⟩
  | true =>
  rw [if_neg (by simp)] at h
  unfold impl_PagesDrop.fin at h
  obtain ⟨y8, hy8⟩ : ∃ y_ : List (S53), y_ = t3.set t4.toNat ⟨q5⟩ := ⟨_, rfl⟩
  rw [← hy8] at h
  have N8 := ak hy8
  have L8 := ak (show y8.length = t3.length by rw [hy8, List.length_set])
  clear hy8
  (have p_ : 0 ≤ (t4 : Int) := HAT.out.1; have q_ : (t4 : Int) < ((t3.length : Nat) : Int) := HAT.out.2; have HX_ := (show Kd.S k53 53 w3 w.heap.size (fun k_ => (fun _ => True) k_ ∧ ¬ ((fun k_ => some k_ = (.slice Ao3 q5.length co3 : Value).ownBlock)) k_) (.slice (some ⟨go1, 0, none⟩) t3.length co1) t3 from Kd.S_mono HO1.out (fun k_ (h_ : wb.heap.size ≤ k_ ∧ k_ < w1.heap.size) => ⟨trivial, fun e_ => by have h2_ : w2.heap.size ≤ k_ ∧ k_ < w3.heap.size := HO3.out.1 k_ e_.symm; have z0_ := Z0.out; have z1_ := Z1.out; have z2_ := Z2.out; have z3_ := Z3.out; omega⟩)); obtain ⟨oki_, ce_, hcl_, hM_, hcc_, hfr_, hoki_, hH_⟩ := Kd.S_elem HX_ z53 (t4 : Int) p_ q_; obtain ⟨ve_, rfl, ge_⟩ := k53_openM hM_; have HP_ := Kd.S_seg hH_ p_ q_ (seg := [.slice Ao3 q5.length co3]) (j := 0) (show 1 ≤ 1 from by decide) (x' := (⟨q5⟩ : S53)) (k53_mkM _ _ _ (⟨q5⟩ : S53) (Kd.R_mono (Kd.R_tight rfl HO3.out) (fun _ h_ => Or.inr h_))) (fun _ hk => hk) (fun k_ hk_ => ⟨trivial, by have h2_ : w2.heap.size ≤ k_ ∧ k_ < w3.heap.size := HO3.out.1 k_ hk_.symm; have h3_ : wb.heap.size ≤ go1 ∧ go1 < w1.heap.size := HO1.out |> Kd.S_R |>.1 _ rfl; have z0_ := Z0.out; have z1_ := Z1.out; have z2_ := Z2.out; have z3_ := Z3.out; omega⟩); have hxs_ := hcc_ 0 _ rfl; simp only [show (k53).sz = 1 from rfl, Nat.mul_one, Nat.add_zero] at hxs_; have hfs_ := hfr_ 0; simp only [show (k53).sz = 1 from rfl, Nat.mul_one, Nat.add_zero] at hfs_; (try simp only [show (k53).sz = 1 from rfl, Nat.mul_one, Nat.add_zero] at HP_); have HP1 := ak HP_; clear HX_ hcl_ hM_ hcc_ hfr_ hoki_ hH_ HP_ ge_; replace p_ := eq_true p_; replace q_ := eq_true q_; have GB_ := ak (show w.heap.size ≤ go1 from by have h3_ : wb.heap.size ≤ go1 ∧ go1 < w1.heap.size := HO1.out |> Kd.S_R |>.1 _ rfl; have h4_ : w.heap.size ≤ wb.heap.size := (by have z0_ := Z0.out; have z1_ := Z1.out; have z2_ := Z2.out; have z3_ := Z3.out; first | exact Nat.le_refl _ | omega); omega))
  go_upto_if 47 with (first | ((with_reducible refine gate_store (t := 36) (p := 44) rfl ?_); refine store_event (t := 36) (p := 44) (v := ?vo_w4) (w1 := (w3.setCell ⟨go1, (t4 : Int).toNat, none⟩ (.slice Ao3 q5.length co3))) ?hg ?ho ?hn ?hr ?_; (case ho => rfl); (case hg => rfl); (case hn => rfl); (case hr => first | (go_simp; done) | (go_simp; rfl)); intro w4 hw; have n0_ := ak (show Kd.S k53 53 w4 w.heap.size (fun _ => True) (.slice (some ⟨go1, 0, none⟩) t3.length co1) y8 from (by rw [hw, N8.out]; exact HP1.out.1)); have n1_ := ak (show Below w.heap.size w w4 from (by rw [hw]; exact below_set HB.out GB_.out)); have n2_ := ak (show w3.heap.size ≤ w4.heap.size from (by rw [hw]; simp [World.setCell])); clear HO1 HO3 HB HP1 hw; have HB := n1_; have Z4 := n2_; have HO4 := n0_; clear n0_ n1_ n2_))
  clear hxs_ hfs_
  by_cases c2_ : t3.length = 1
  ·rw [if_pos c2_] at h
   have cb_ : ((t3.length : Int) == 1) = true := beq_iff_eq.mpr (by omega)
   clear c2_
   by_cases c3_ : q5.length = 0
   ·rw [if_pos c3_] at h
    obtain ⟨rfl, rfl⟩ := Prod.mk.inj (Option.some.inj h)
    clear h
    have cd_ : ((q5.length : Int) == 0) = true := beq_iff_eq.mpr (by omega)
    clear c3_
    go_wp2
    go_ret2
    exact ⟨_, rfl, Kd.S_nil _ _ _ _ _, (by exact hopb HB.out)⟩
   ·rw [if_neg c3_] at h
    obtain ⟨rfl, rfl⟩ := Prod.mk.inj (Option.some.inj h)
    clear h
    have cd_ : ((q5.length : Int) == 0) = false := beq_eq_false_iff_ne.mpr (by omega)
    clear c3_
    go_wp2
    go_ret2
    exact ⟨_, rfl, Kd.S_mono (by (with_reducible repeat (first | apply Kd.S_alloc | apply Kd.S_drewN | apply Kd.S_drew)); exact HO4.out) (fun _ _ => trivial), (by exact hopb HB.out)⟩
  rw [if_neg c2_] at h
  have cb_ : ((t3.length : Int) == 1) = false := beq_eq_false_iff_ne.mpr (by omega)
  clear c2_
  by_cases c3_ : q5.length < 2
  ·rw [if_pos c3_] at h
   replace h := Option.bind_eq_some_iff.mp h
   obtain ⟨r9, B90, h⟩ := h
   have B9 := ak B90
   clear B90
   obtain ⟨rfl, rfl⟩ := Prod.mk.inj (Option.some.inj h)
   clear h
   have cd_ : decide ((q5.length : Int) < 2) = true := decide_eq_true (by omega)
   have ce_ : decide (q5.length < 2) = true := decide_eq_true c3_
   clear c3_
   go_wp2_with (first | ((with_reducible refine gate_callee (f := 34) rfl ?_); refine goesL_ (some 57) rfl rfl Try.func34 (by kernel_rfl) rfl #[.slice (some ⟨go1, 0, none⟩) t3.length co1, .int .i64 t4] rfl (by (try simp only [List.map_toArray, List.map_cons, List.map_nil]); first | done | rfl) ?_; refine (impl_refilled.calls _ _ y8 t4 r9 w _ (by exact hopb HB.out) (by (with_reducible repeat (first | apply Kd.S_alloc | apply Kd.S_drewN | apply Kd.S_drew)); exact HO4.out) B9.out).mono ?_; rintro e w5 ⟨v5_, rfl, ho, hb⟩; refine ⟨_, rfl, ?_⟩; have HOf := ak ho; clear HB ho; have HB := ak hb; clear hb; obtain ⟨Ao5, co5, eo5⟩ := Kd.S_slice HOf.out; subst eo5))
   go_ret2
   exact ⟨_, rfl, HOf.out, (by exact hopb HB.out)⟩
  ·rw [if_neg c3_] at h
   obtain ⟨rfl, rfl⟩ := Prod.mk.inj (Option.some.inj h)
   clear h
   have cd_ : decide ((q5.length : Int) < 2) = false := decide_eq_false (by omega)
   have ce_ : decide (q5.length < 2) = false := decide_eq_false c3_
   clear c3_
   go_wp2
   go_ret2
   exact ⟨_, rfl, Kd.S_mono (by (with_reducible repeat (first | apply Kd.S_alloc | apply Kd.S_drewN | apply Kd.S_drew)); exact HO4.out) (fun _ _ => trivial), (by exact hopb HB.out)⟩

end Go.Proofs.Ytengnnhehjcfhaa.PFnExactPagesDrop
