-- Written for this claim by a program of this session (wip/myprint in the proofs' repo)
import Derived.Test.YtengnnhehjcfhaaPFnPagesPutx0
import Derived.Test.YtengnnhehjcfhaaPFnPagesPutx8
import Derived.Test.YtengnnhehjcfhaaPFnPagesPutx11
import Derived.Test.YtengnnhehjcfhaaPFnPagesPutx12
import Derived.Test.YtengnnhehjcfhaaPFnPagesPutx13
import Derived.Test.YtengnnhehjcfhaaPFnPagesPutx14
import Derived.Test.YtengnnhehjcfhaaWZip
-- slim4
namespace Go.Proofs.Ytengnnhehjcfhaa.PFnPagesPut
open Go.RowKit Go.Proofs.YtengnnhehjcfhaaW.PrintWords Go.Proofs.YtengnnhehjcfhaaW.PrintLast Go.Proofs.YtengnnhehjcfhaaW.PrintMore
attribute [local go_sem] max2_int min2_int max_two min_two max_three min_three max_four min_four max2_strs min2_strs   -- for this text's walks alone
set_option linter.unusedVariables false
set_option linter.unusedSimpArgs false
set_option maxHeartbeats 8000000
set_option maxRecDepth 100000

/-! ### impl_rankBelow: function 68 -/
def impl_rankBelow.f : Nat → ByteArray → Int → Option (Int)
 | 0, _, _ => none
 | k + 1, a0, a1 => if a0.toList = ([] : List UInt8) then (some 0) else (if 0 < (a0.size : Int) then ((impl_keysFrom.f k a1).bind fun t658 => (if 1 ≤ (a0.size : Int) then ((impl_rankBelow.f k (a0.extract 1 a0.size) (wrap64 (a1 + 1))).bind fun t659 => (some (wrap64 ((wrap64 (1 + (wrap64 ((((bt a0 0) - 97) % 256) * t658)))) + t659)))) else (none))) else (none))
theorem impl_rankBelow.mono_l : ∀ k, (∀ y0 y1, LeO (impl_rankBelow.f k y0 y1) (impl_rankBelow.f (k + 1) y0 y1))
 | 0 => fun _ _ r h => by simp [impl_rankBelow.f] at h
 | k + 1 => by
  have ih0 := impl_rankBelow.mono_l k
  ·intro y0 y1
   unfold impl_rankBelow.f
   repeat' first
   | (with_reducible exact ih0 _ _)
   | (with_reducible exact impl_keysFrom.mono _ _)
   | (with_reducible exact LeO.refl _)
   | (with_reducible exact LeO.none _)
   | (with_reducible refine LeO.ite ?_ ?_)
   | (with_reducible refine LeO.bind ?_ (fun _ => ?_))
   | exact ih0 _ _
   | exact LeO.none _
   | refine LeO.ite ?_ ?_
   | refine LeO.bind ?_ (fun _ => ?_)
theorem impl_rankBelow.mono : ∀ a0 a1 k, LeO (impl_rankBelow.f k a0 a1) (impl_rankBelow.f (k + 1) a0 a1) := by
 intro a0 a1 k
 have ih0 := impl_rankBelow.mono_l k
 exact ih0 a0 a1
def impl_rankBelow.T3 : Bool × List (List Nat × List Nat) := (true, [([], []), ([0], [0]), ([1], [1]), ([2], [2]), ([], []), ([4], [4]), ([3, 5], [3, 5]), ([6], [6]), ([], []), ([8], [8]), ([], []), ([10], [10]), ([9, 11, 5], [9, 11]), ([7, 12], [7, 12]), ([13, 12, 0, 1, 2, 3, 4, 5, 6, 7, 8, 9, 10, 11, 12, 13], [13])])
def impl_rankBelow.B3 : List Nat := [0, 1, 3, 7, 0, 16, 63, 127, 0, 256, 0, 1024, 3888, 8191, 16383]
theorem impl_rankBelow.tab3 : rtab .any (opsOf Try.f68 3) = impl_rankBelow.T3 := by kernel_rfl
theorem impl_rankBelow.bits3 : waitsOk impl_rankBelow.T3.2 impl_rankBelow.B3 = true := by kernel_rfl
theorem impl_rankBelow.calls (k : Nat) : ∀ (a0 : ByteArray) (a1 : Int) (r : Int) (w : World) (h : impl_rankBelow.f k a0 a1 = some r),
  Calls Try.prog 68 #[.string a0, .int .i64 a1] w fun e w' => e = .returned (.int .i64 r) ∧ Below w.heap.size w w' := by
 induction k using Nat.strongRecOn with
 | _ k ih =>
 intro a0 a1 r w h
 cases k with
 | zero => exact absurd h (by simp [impl_rankBelow.f])
 | succ k =>
 simp only [impl_rankBelow.f] at h
 have HB := ak (Below.refl w.heap.size w)
 have H : (if a0.toList = ([] : List UInt8) then (some 0) else (if 0 < (a0.size : Int) then ((impl_keysFrom.f k a1).bind fun t658 => (if 1 ≤ (a0.size : Int) then ((impl_rankBelow.f k (a0.extract 1 a0.size) (wrap64 (a1 + 1))).bind fun t659 => (some (wrap64 ((wrap64 (1 + (wrap64 ((((bt a0 0) - 97) % 256) * t658)))) + t659)))) else (none))) else (none))) = some r := h
 clear h
 by_cases c3 : a0.toList = ([] : List UInt8)
 ·rw [if_pos c3] at H
  have c3b0 : (a0.toList == ([] : List UInt8)) = true := beq_iff_eq.mpr c3
  have c3b1 : (a0.toList != ([] : List UInt8)) = false := bne_eq_false_iff_eq.mpr c3
  clear c3
  obtain rfl := Option.some.inj H
  go_enter Try.func68, Try.ntmps68
  go_wp2
  go_ret
  exact ⟨by first | rfl | (simp only [u8_w_, w64_u8_] <;> rfl) | (simp [errW_none, errW_some] <;> rfl) | (simp [*, errW_none, errW_some] <;> rfl), by exact hopb HB.out⟩
 ·rw [if_neg c3] at H
  have c3b0 : (a0.toList == ([] : List UInt8)) = false := beq_eq_false_iff_ne.mpr c3
  have c3b1 : (a0.toList != ([] : List UInt8)) = true := bne_iff_ne.mpr c3
  by_cases c4 : 0 < (a0.size : Int)
  ·rw [if_pos c4] at H
   have c4b0 : decide (0 < (a0.size : Int)) = true := decide_eq_true c4
   have c4b1 : decide (0 < a0.size) = true := decide_eq_true (by omega)
   clear c4
   replace H := Option.bind_eq_some_iff.mp H
   obtain ⟨t658, A60, H⟩ := H
   try dsimp only at H
   have A6 := ak A60
   clear A60
   by_cases c7 : 1 ≤ (a0.size : Int)
   ·rw [if_pos c7] at H
    have c7b0 := eq_true c7
    have c7b1 : decide (1 ≤ (a0.size : Int)) = true := decide_eq_true c7
    clear c7
    replace H := Option.bind_eq_some_iff.mp H
    obtain ⟨t659, A80, H⟩ := H
    try dsimp only at H
    have A8 := ak A80
    clear A80
    obtain rfl := Option.some.inj H
    go_enter Try.func68, Try.ntmps68
    try go_wp2
    replace HB := ak (below_drew1 HB.out)
    have p5 : 0 ≤ (0 : Int) := (by omega)
    have q5 : 0 < a0.size := (by have : (0 : Int) < (a0.size : Int) := of_decide_eq_true (by assumption); omega)
    have hx5 : ∀ h : 0 < a0.size, ((a0[0]'h).toNat : Int) = bt a0 0 := bt_at a0 0
    clear p5
    have qi5 : (0 < (a0.size : Int)) = True := eq_true (of_decide_eq_true (by assumption))
    replace q5 := eq_true q5
    refine start_ (n := 15) (S := fun w' => True) (ds := []) #[U,U,U,U,U,U,U,U,U,U,U,U,U,U,U] (by kernel_rfl) rfl rfl trivial (fun hHeld => ?_); refine with_tabW impl_rankBelow.tab3 impl_rankBelow.bits3 (fun HT_ HW_ => ?_)
    generalize w.drew = w9 at HB hHeld ⊢
    refine pu 0 (some 7) #[T,U,U,U,U,U,U,U,U,U,U,U,U,U,U] (any_of HT_.out (by kernel_rfl)) ?_
    refine pu 4 (some 11) #[T,U,U,U,T,U,U,U,U,U,U,U,U,U,U] (any_of HT_.out (by kernel_rfl)) ?_
    refine pu 8 (some 15) #[T,U,U,U,T,U,U,U,T,U,U,U,U,U,U] (any_of HT_.out (by kernel_rfl)) ?_
    refine pu 9 (some 16) #[T,U,U,U,T,U,U,U,T,T,U,U,U,U,U] (any_of HT_.out (by kernel_rfl)) ?_
    refine pu 10 (some 17) #[T,U,U,U,T,U,U,U,T,T,T,U,U,U,U] (any_of HT_.out (by kernel_rfl)) ?_
    refine pu 11 (some 18) #[T,U,U,U,T,U,U,U,T,T,T,T,U,U,U] (any_of HT_.out (by kernel_rfl)) ?_
    refine take_ (i := 1) (N := some 8) (v := ?_) (a' := ?_) #[T,T,U,U,T,U,U,U,T,T,T,T,U,U,U] rfl rfl (take_ofW HT_.out HW_.out (by kernel_rfl)) (fun _ _ _ h => h) (Or.inl ⟨by rfl, ?_⟩) hHeld ?_ ?_
    rotate_left
    ·intro w' _
     go_simp
     with_reducible rfl
    rotate_left
    ·simp only [Act.put, lT, lZ, lS, i64_w, i32_w]
     rfl
    refine pu 2 (some 9) #[T,T,T,U,T,U,U,U,T,T,T,T,U,U,U] (any_of HT_.out (by kernel_rfl)) ?_
    refine pu 3 (some 10) #[T,T,T,T,T,U,U,U,T,T,T,T,U,U,U] (any_of HT_.out (by kernel_rfl)) ?_
    refine one_ (i := 5) (N := some 12) #[T,T,T,T,T,T,U,U,T,T,T,T,U,U,U] rfl rfl (one_of HT_.out (by kernel_rfl)) (by decide) (fun K hK => ?_)
    refine goes_ Try.func74 (by kernel_rfl) rfl #[.int .i64 a1] (by rfl) rfl rfl (by (try simp only [List.map_toArray, List.map_cons, List.map_nil]); first | done | rfl | (simp only [List.length_drop, List.length_take]; rfl)) ?_
    with_reducible refine (impl_keysFrom.calls k a1 t658 _ A6.out).mono ?_
    rintro e w' ⟨rfl, ⟨nd, rfl⟩⟩
    refine ⟨_, rfl, ?_⟩
    refine hK.out _ _ trivial (fun hHeld => ?_)
    clear hK K
    refine norm_ (a' := ?_) ?_ ?_
    rotate_left
    ·show Act.put _ (some 12) _ = _
     simp only [Act.put, lT, lZ, lS, i64_w, i32_w]
     rfl
    refine pu 6 (some 13) #[T,T,T,T,T,T,T,U,T,T,T,T,U,U,U] (any_of HT_.out (by kernel_rfl)) ?_
    refine pu 7 (some 14) #[T,T,T,T,T,T,T,T,T,T,T,T,U,U,U] (any_of HT_.out (by kernel_rfl)) ?_
    refine one_ (i := 12) (N := some 19) #[T,T,T,T,T,T,T,T,T,T,T,T,T,U,U] rfl rfl (one_of HT_.out (by kernel_rfl)) (by decide) (fun K hK => ?_)
    refine goes_ Try.func68 (by kernel_rfl) rfl #[.string (a0.extract 1 a0.size), .int .i64 (wrap64 (a1 + 1))] (by rfl) rfl rfl (by (try simp only [List.map_toArray, List.map_cons, List.map_nil]); first | done | rfl | (simp only [List.length_drop, List.length_take]; rfl)) ?_
    with_reducible refine (ih k (by omega) (a0.extract 1 a0.size) (wrap64 (a1 + 1)) t659 _ A8.out).mono ?_
    rintro e w10 ⟨rfl, hb⟩
    refine ⟨_, rfl, ?_⟩
    replace HB := ak (below_step (by exact hopb HB.out) hb)
    (try clear hb)
    (try clear hb2)
    (try clear hk)
    (try clear hi)
    refine hK.out _ _ trivial (fun hHeld => ?_)
    clear hK K
    refine norm_ (a' := ?_) ?_ ?_
    rotate_left
    ·show Act.put _ (some 19) _ = _
     simp only [Act.put, lT, lZ, lS, i64_w, i32_w]
     rfl
    refine pu 13 (some 20) #[T,T,T,T,T,T,T,T,T,T,T,T,T,T,U] (any_of HT_.out (by kernel_rfl)) ?_
    refine pu 14 (some 4) #[T,T,T,T,T,T,T,T,T,T,T,T,T,T,T] (any_of HT_.out (by kernel_rfl)) ?_
    refine done_ (done_of HT_.out (by kernel_rfl)) ?_
    try go_wp2
    go_ret
    exact ⟨by first | rfl | (simp only [u8_w_, w64_u8_] <;> rfl) | (simp [errW_none, errW_some] <;> rfl) | (simp [*, errW_none, errW_some] <;> rfl), by exact hopb HB.out⟩
   ·rw [if_neg c7] at H
    exact absurd H (by simp)
  ·rw [if_neg c4] at H
   exact absurd H (by simp)

/-! ### impl_KeyRank: function 50 -/
def impl_KeyRank.f (k : Nat) (a0 : ByteArray) : Option (Int) := (impl_KeyValid.f k a0).bind fun t660 => (if t660 = true then ((impl_rankBelow.f k a0 1).bind fun t661 => (some (wrap64 (t661 - 1)))) else (some (-1)))
theorem impl_KeyRank.mono : ∀ a0 k, LeO (impl_KeyRank.f k a0) (impl_KeyRank.f (k + 1) a0) := by
 intro a0 k
 unfold impl_KeyRank.f
 repeat' first
   | (with_reducible exact impl_KeyValid.mono _ _)
   | (with_reducible exact impl_rankBelow.mono _ _ _)
   | (with_reducible exact LeO.refl _)
   | (with_reducible exact LeO.none _)
   | (with_reducible refine LeO.ite ?_ ?_)
   | (with_reducible refine LeO.bind ?_ (fun _ => ?_))
   | exact LeO.none _
   | refine LeO.ite ?_ ?_
   | refine LeO.bind ?_ (fun _ => ?_)
theorem impl_KeyRank.calls (k : Nat) (a0 : ByteArray) (r : Int) (w : World) (h : impl_KeyRank.f k a0 = some r) :
  Calls Try.prog 50 #[.string a0] w fun e w' => e = .returned (.int .i64 r) ∧ Below w.heap.size w w' := by
 have HB := ak (Below.refl w.heap.size w)
 have H : ((impl_KeyValid.f k a0).bind fun t660 => (if t660 = true then ((impl_rankBelow.f k a0 1).bind fun t661 => (some (wrap64 (t661 - 1)))) else (some (-1)))) = some r := h
 clear h
 replace H := Option.bind_eq_some_iff.mp H
 obtain ⟨t660, A20, H⟩ := H
 try dsimp only at H
 have A2 := ak A20
 clear A20
 by_cases c3 : t660 = true
 ·subst c3
  rw [if_pos rfl] at H
  replace H := Option.bind_eq_some_iff.mp H
  obtain ⟨t661, A40, H⟩ := H
  try dsimp only at H
  have A4 := ak A40
  clear A40
  obtain rfl := Option.some.inj H
  go_enter Try.func50, Try.ntmps50
  go_wp2_with (first | ((with_reducible refine gate_callee (f := 30) rfl ?_); refine gL (some 4) Try.func30 #[.string a0] ?_; (with_reducible refine (impl_KeyValid.calls k a0 true _ A2.out).mono ?_); rintro e w' ⟨rfl, ⟨nd, rfl⟩⟩; refine ⟨_, rfl, ?_⟩) | ((with_reducible refine gate_callee (f := 68) rfl ?_); refine gL (some 7) Try.func68 #[.string a0, .int .i64 1] ?_; (with_reducible refine (impl_rankBelow.calls k a0 1 t661 _ A4.out).mono ?_); rintro e w5 ⟨rfl, hb⟩; refine ⟨_, rfl, ?_⟩; replace HB := ak (below_step (by exact hopb HB.out) hb); (try clear hb)))
  go_ret
  exact ⟨by first | rfl | (simp only [u8_w_, w64_u8_] <;> rfl) | (simp [errW_none, errW_some] <;> rfl) | (simp [*, errW_none, errW_some] <;> rfl), by exact hopb HB.out⟩
 ·replace c3 := Bool.eq_false_iff.mpr c3
  subst c3
  rw [if_neg (show ¬ (false = true) by decide)] at H
  obtain rfl := Option.some.inj H
  go_enter Try.func50, Try.ntmps50
  go_wp2_with (first | ((with_reducible refine gate_callee (f := 30) rfl ?_); refine gL (some 4) Try.func30 #[.string a0] ?_; (with_reducible refine (impl_KeyValid.calls k a0 false _ A2.out).mono ?_); rintro e w' ⟨rfl, ⟨nd, rfl⟩⟩; refine ⟨_, rfl, ?_⟩))
  go_ret
  exact ⟨by first | rfl | (simp only [u8_w_, w64_u8_] <;> rfl) | (simp [errW_none, errW_some] <;> rfl) | (simp [*, errW_none, errW_some] <;> rfl), by exact hopb HB.out⟩

/-! ### laws_alive: function 17 -/
def laws_alive.f (k : Nat)  : Option (Bool) := (impl_KeyRank.f k (⟨#[97, 97]⟩ : ByteArray)).bind fun t662 => (if t662 = 1 then ((impl_KeyRank.f k (⟨#[]⟩ : ByteArray)).bind fun t663 => (some (t663 == (-1)))) else (some false))
theorem laws_alive.mono : ∀ k, LeO (laws_alive.f k ) (laws_alive.f (k + 1) ) := by
 intro  k
 unfold laws_alive.f
 repeat' first
   | (with_reducible exact impl_KeyRank.mono _ _)
   | (with_reducible exact LeO.refl _)
   | (with_reducible exact LeO.none _)
   | (with_reducible refine LeO.ite ?_ ?_)
   | (with_reducible refine LeO.bind ?_ (fun _ => ?_))
   | exact LeO.none _
   | refine LeO.ite ?_ ?_
   | refine LeO.bind ?_ (fun _ => ?_)
theorem laws_alive.calls (k : Nat)  (r : Bool) (w : World) (h : laws_alive.f k  = some r) :
  Calls Try.prog 17 #[] w fun e w' => e = .returned (.bool r) ∧ Below w.heap.size w w' := by
 have HB := ak (Below.refl w.heap.size w)
 have H : ((impl_KeyRank.f k (⟨#[97, 97]⟩ : ByteArray)).bind fun t662 => (if t662 = 1 then ((impl_KeyRank.f k (⟨#[]⟩ : ByteArray)).bind fun t663 => (some (t663 == (-1)))) else (some false))) = some r := h
 clear h
 replace H := Option.bind_eq_some_iff.mp H
 obtain ⟨t662, A10, H⟩ := H
 try dsimp only at H
 have A1 := ak A10
 clear A10
 by_cases c2 : t662 = 1
 ·rw [if_pos c2] at H
  have c2b0 : (t662 == 1) = true := beq_iff_eq.mpr c2
  have c2b1 : (t662 != 1) = false := bne_eq_false_iff_eq.mpr c2
  clear c2
  replace H := Option.bind_eq_some_iff.mp H
  obtain ⟨t663, A30, H⟩ := H
  try dsimp only at H
  have A3 := ak A30
  clear A30
  obtain rfl := Option.some.inj H
  go_enter Try.func17, Try.ntmps17
  go_wp2_with (first | ((with_reducible refine gate_callee (f := 50) rfl ?_); refine gL (some 1) Try.func50 #[.string (⟨#[97, 97]⟩ : ByteArray)] ?_; (with_reducible refine (impl_KeyRank.calls k (⟨#[97, 97]⟩ : ByteArray) t662 _ A1.out).mono ?_); rintro e w4 ⟨rfl, hb⟩; refine ⟨_, rfl, ?_⟩; replace HB := ak (below_step (by exact hopb HB.out) hb); (try clear hb)) | (go_at_call 50; (with_reducible refine (impl_KeyRank.calls k (⟨#[]⟩ : ByteArray) t663 _ A3.out).mono ?_); rintro e w5 ⟨rfl, hb⟩; replace HB := ak (below_step (by exact hopb HB.out) hb); (try clear hb)))
  go_ret
  exact ⟨by first | rfl | (simp only [u8_w_, w64_u8_] <;> rfl) | (simp [errW_none, errW_some] <;> rfl) | (simp [*, errW_none, errW_some] <;> rfl), by exact hopb HB.out⟩
 ·rw [if_neg c2] at H
  have c2b0 : (t662 == 1) = false := beq_eq_false_iff_ne.mpr c2
  have c2b1 : (t662 != 1) = true := bne_iff_ne.mpr c2
  obtain rfl := Option.some.inj H
  go_enter Try.func17, Try.ntmps17
  go_wp2_with (first | ((with_reducible refine gate_callee (f := 50) rfl ?_); refine gL (some 1) Try.func50 #[.string (⟨#[97, 97]⟩ : ByteArray)] ?_; (with_reducible refine (impl_KeyRank.calls k (⟨#[97, 97]⟩ : ByteArray) t662 _ A1.out).mono ?_); rintro e w6 ⟨rfl, hb⟩; refine ⟨_, rfl, ?_⟩; replace HB := ak (below_step (by exact hopb HB.out) hb); (try clear hb)))
  go_ret
  exact ⟨by first | rfl | (simp only [u8_w_, w64_u8_] <;> rfl) | (simp [errW_none, errW_some] <;> rfl) | (simp [*, errW_none, errW_some] <;> rfl), by exact hopb HB.out⟩

/-! ### impl_PagesList: function 19 -/
def impl_PagesList.f (k : Nat) (l0 : List (S53)) : Option ((List (S65))) := (impl_PagesValid.f k l0).bind fun t664 => (if t664 = true then ((impl_allPairs.f k l0).bind fun t665 => (some t665)) else (some ([] : List (S65))))
theorem impl_PagesList.mono : ∀ a0 k, LeO (impl_PagesList.f k a0) (impl_PagesList.f (k + 1) a0) := by
 intro a0 k
 unfold impl_PagesList.f
 repeat' first
   | (with_reducible exact impl_PagesValid.mono _ _)
   | (with_reducible exact impl_allPairs.mono _ _)
   | (with_reducible exact LeO.refl _)
   | (with_reducible exact LeO.none _)
   | (with_reducible refine LeO.ite ?_ ?_)
   | (with_reducible refine LeO.bind ?_ (fun _ => ?_))
   | exact LeO.none _
   | refine LeO.ite ?_ ?_
   | refine LeO.bind ?_ (fun _ => ?_)
theorem impl_PagesList.calls (k : Nat) (A0 : Option Addr) (c0 : Nat) (l0 : List (S53)) (r : List (S65)) (w : World) (hr0 : Kd.C k53 w A0 l0.length l0) (hc0 : l0.length ≤ c0) (h : impl_PagesList.f k l0 = some r) :
  Calls Try.prog 19 #[.slice A0 l0.length c0] w fun e w' => ∃ v0_ : Value, e = .returned (v0_) ∧ Kd.R k65 65 w' w.heap.size (fun _ => True) v0_ r ∧ Below w.heap.size w w' := by
 have HR0 := ak hr0
 have HC0 := ak hc0
 clear hr0 hc0
 have HB := ak (Below.refl w.heap.size w)
 have H : ((impl_PagesValid.f k l0).bind fun t664 => (if t664 = true then ((impl_allPairs.f k l0).bind fun t665 => (some t665)) else (some ([] : List (S65))))) = some r := h
 clear h
 replace H := Option.bind_eq_some_iff.mp H
 obtain ⟨t664, A20, H⟩ := H
 try dsimp only at H
 have A2 := ak A20
 clear A20
 by_cases c3 : t664 = true
 ·subst c3
  rw [if_pos rfl] at H
  replace H := Option.bind_eq_some_iff.mp H
  obtain ⟨t665, A40, H⟩ := H
  try dsimp only at H
  have A4 := ak A40
  clear A40
  obtain rfl := Option.some.inj H
  go_enter Try.func19, Try.ntmps19
  go_wp2_with (first | ((with_reducible refine gate_callee (f := 20) rfl ?_); refine gL (some 4) Try.func20 #[.slice A0 l0.length c0] ?_; (with_reducible refine (impl_PagesValid.calls k _ _ l0 true _ ?side1 ?side2 A2.out).mono ?_); (case side1 => exact hC HR0.out); (case side2 => exact HC0.out); rintro e w5 ⟨rfl, hb⟩; refine ⟨_, rfl, ?_⟩; replace HB := ak (below_step (by exact hopb HB.out) hb); (try clear hb)) | ((with_reducible refine gate_callee (f := 45) rfl ?_); refine gL (some 7) Try.func45 #[.slice A0 l0.length c0] ?_; (with_reducible refine (impl_allPairs.calls k _ _ l0 t665 _ ?side1 ?side2 A4.out).mono ?_); (case side1 => exact hC (Kd.C_below HR0.out HB.out)); (case side2 => exact HC0.out); rintro e w6 ⟨v666, rfl, ho0, hb⟩; refine ⟨_, rfl, ?_⟩; have HO667 := ak (Kd.R_lower ho0 (below_size (by exact hopb HB.out))); replace HB := ak (below_step (by exact hopb HB.out) hb); (try clear hb); (try clear ho0)))
  go_ret
  exact ⟨_, by first | rfl | (simp only [u8_w_, w64_u8_] <;> rfl) | (simp [errW_none, errW_some] <;> rfl) | (simp [*, errW_none, errW_some] <;> rfl), by (with_reducible repeat (first | apply Kd.R_alloc | apply Kd.R_drewN | apply Kd.R_drew)); exact HO667.out, by exact hopb HB.out⟩
 ·replace c3 := Bool.eq_false_iff.mpr c3
  subst c3
  rw [if_neg (show ¬ (false = true) by decide)] at H
  obtain rfl := Option.some.inj H
  go_enter Try.func19, Try.ntmps19
  go_wp2_with (first | ((with_reducible refine gate_callee (f := 20) rfl ?_); refine gL (some 4) Try.func20 #[.slice A0 l0.length c0] ?_; (with_reducible refine (impl_PagesValid.calls k _ _ l0 false _ ?side1 ?side2 A2.out).mono ?_); (case side1 => exact hC HR0.out); (case side2 => exact HC0.out); rintro e w7 ⟨rfl, hb⟩; refine ⟨_, rfl, ?_⟩; replace HB := ak (below_step (by exact hopb HB.out) hb); (try clear hb)))
  go_ret
  exact ⟨_, by first | rfl | (simp only [u8_w_, w64_u8_] <;> rfl) | (simp [errW_none, errW_some] <;> rfl) | (simp [*, errW_none, errW_some] <;> rfl), by first | exact Kd.R_nil _ _ _ _ _ | exact Kd.N_nil _ _ _ _ _ | exact Kd.V_nil _ _ _ _ _ | exact Kd.Q_nil _ _ _ _ _ | exact Kd.S_nil _ _ _ _ _, by exact hopb HB.out⟩

/-! ### laws_FnPagesPut: function 4 -/
def laws_FnPagesPut.j0 : Nat → List (S53) → ByteArray → Int → List (S53) → Bool → Bool → Option (Bool)
 | 0, _, _, _, _, _, _ => none
 | k + 1, x3, x4, x5, x6, x7, x43 => if x43 = true then (none) else (if x7 = true then ((impl_PagesList.f k x3).bind fun t685 => ((impl_PairPut.f k t685 x4 x5).bind fun bt688 => (if bt688.2 = true then ((impl_PagesValid.f k x6).bind fun t692 => (if t692 = true then ((impl_PagesList.f k x6).bind fun t693 => ((laws_samePairs.f k t693 bt688.1).bind fun t696 => (if t696 = true then (some (decide ((x6.length : Int) ≤ (wrap64 ((x3.length : Int) + 1))))) else (none)))) else (none))) else (none)))) else ((laws_samePages.f k x6 x3).bind fun t682 => (if t682 = true then ((laws_alive.f k).bind fun t683 => (some t683)) else (if (x6.length : Int) = 0 then ((laws_alive.f k).bind fun t684 => (some t684)) else (none)))))
def laws_FnPagesPut.f (k : Nat) (l0 : List Int) : Option (Bool) := if (l0.length : Int) > 1048576 then (some true) else ((spec_DrawPagesPut.f k l0).bind fun bt668 => ((impl_PagesPut.f k bt668.1 bt668.2.1 bt668.2.2).bind fun bt673 => ((spec_PagesPut.f k bt668.1 bt668.2.1 bt668.2.2).bind fun bt677 => ((laws_samePages.f k bt673.1 bt677.1).bind fun t681 => (if t681 = true then (laws_FnPagesPut.j0 k bt668.1 bt668.2.1 bt668.2.2 bt673.1 bt673.2 (bt673.2 != bt677.2)) else (laws_FnPagesPut.j0 k bt668.1 bt668.2.1 bt668.2.2 bt673.1 bt673.2 true))))))
theorem laws_FnPagesPut.mono_l : ∀ k, (∀ y0 y1 y2 y3 y4 y5, LeO (laws_FnPagesPut.j0 k y0 y1 y2 y3 y4 y5) (laws_FnPagesPut.j0 (k + 1) y0 y1 y2 y3 y4 y5))
 | 0 => fun _ _ _ _ _ _ r h => by simp [laws_FnPagesPut.j0] at h
 | k + 1 => by
  have ih0 := laws_FnPagesPut.mono_l k
  ·intro y0 y1 y2 y3 y4 y5
   unfold laws_FnPagesPut.j0
   repeat' first
   | (with_reducible exact ih0 _ _ _ _ _ _)
   | (with_reducible exact impl_PagesList.mono _ _)
   | (with_reducible exact impl_PagesPut.mono _ _ _ _)
   | (with_reducible exact impl_PagesValid.mono _ _)
   | (with_reducible exact impl_PairPut.mono _ _ _ _)
   | (with_reducible exact laws_alive.mono _)
   | (with_reducible exact laws_samePages.mono _ _ _)
   | (with_reducible exact laws_samePairs.mono _ _ _)
   | (with_reducible exact spec_DrawPagesPut.mono _ _)
   | (with_reducible exact spec_PagesPut.mono _ _ _ _)
   | (with_reducible exact LeO.refl _)
   | (with_reducible exact LeO.none _)
   | (with_reducible refine LeO.ite ?_ ?_)
   | (with_reducible refine LeO.bind ?_ (fun _ => ?_))
   | exact ih0 _ _ _ _ _ _
   | exact LeO.none _
   | refine LeO.ite ?_ ?_
   | refine LeO.bind ?_ (fun _ => ?_)
theorem laws_FnPagesPut.mono : ∀ a0 k, LeO (laws_FnPagesPut.f k a0) (laws_FnPagesPut.f (k + 1) a0) := by
 intro a0 k
 have ih0 := laws_FnPagesPut.mono_l k
 unfold laws_FnPagesPut.f
 repeat' first
   | (with_reducible exact ih0 _ _ _ _ _ _)
   | (with_reducible exact impl_PagesList.mono _ _)
   | (with_reducible exact impl_PagesPut.mono _ _ _ _)
   | (with_reducible exact impl_PagesValid.mono _ _)
   | (with_reducible exact impl_PairPut.mono _ _ _ _)
   | (with_reducible exact laws_alive.mono _)
   | (with_reducible exact laws_samePages.mono _ _ _)
   | (with_reducible exact laws_samePairs.mono _ _ _)
   | (with_reducible exact spec_DrawPagesPut.mono _ _)
   | (with_reducible exact spec_PagesPut.mono _ _ _ _)
   | (with_reducible exact LeO.refl _)
   | (with_reducible exact LeO.none _)
   | (with_reducible refine LeO.ite ?_ ?_)
   | (with_reducible refine LeO.bind ?_ (fun _ => ?_))
   | exact ih0 _ _ _ _ _ _
   | exact LeO.none _
   | refine LeO.ite ?_ ?_
   | refine LeO.bind ?_ (fun _ => ?_)
theorem laws_FnPagesPut.calls (k : Nat) (A0 : Option Addr) (c0 : Nat) (l0 : List Int) (r : Bool) (w : World) (hr0 : Kd.C (Kd.int .u8) w A0 l0.length l0) (hc0 : l0.length ≤ c0) (h : laws_FnPagesPut.f k l0 = some r) :
  Calls Try.prog 4 #[.slice A0 l0.length c0] w fun e w' => e = .returned (.bool r) ∧ Below w.heap.size w w' := by
 have HR0 := ak hr0
 have HC0 := ak hc0
 clear hr0 hc0
 have HB := ak (Below.refl w.heap.size w)
 have H : (if (l0.length : Int) > 1048576 then (some true) else ((spec_DrawPagesPut.f k l0).bind fun bt668 => ((impl_PagesPut.f k bt668.1 bt668.2.1 bt668.2.2).bind fun bt673 => ((spec_PagesPut.f k bt668.1 bt668.2.1 bt668.2.2).bind fun bt677 => ((laws_samePages.f k bt673.1 bt677.1).bind fun t681 => (if t681 = true then (laws_FnPagesPut.j0 k bt668.1 bt668.2.1 bt668.2.2 bt673.1 bt673.2 (bt673.2 != bt677.2)) else (laws_FnPagesPut.j0 k bt668.1 bt668.2.1 bt668.2.2 bt673.1 bt673.2 true))))))) = some r := h
 clear h
 by_cases c2 : (l0.length : Int) > 1048576
 ·rw [if_pos c2] at H
  have c2b0 : decide (1048576 < (l0.length : Int)) = true := decide_eq_true c2
  have c2b1 : decide (1048576 < l0.length) = true := decide_eq_true (by omega)
  clear c2
  obtain rfl := Option.some.inj H
  go_enter Try.func4, Try.ntmps4
  go_wp2
  go_ret
  exact ⟨by first | rfl | (simp only [u8_w_, w64_u8_] <;> rfl) | (simp [errW_none, errW_some] <;> rfl) | (simp [*, errW_none, errW_some] <;> rfl), by exact hopb HB.out⟩
 ·rw [if_neg c2] at H
  have c2b0 : decide (1048576 < (l0.length : Int)) = false := decide_eq_false c2
  have c2b1 : decide (1048576 < l0.length) = false := decide_eq_false (by omega)
  clear c2
  replace H := Option.bind_eq_some_iff.mp H
  obtain ⟨⟨t668, t671, t672⟩, A30, H⟩ := H
  try dsimp only at H
  have A3 := ak A30
  clear A30
  replace H := Option.bind_eq_some_iff.mp H
  obtain ⟨⟨t673, t674⟩, A40, H⟩ := H
  try dsimp only at H
  have A4 := ak A40
  clear A40
  replace H := Option.bind_eq_some_iff.mp H
  obtain ⟨⟨t677, t680⟩, A50, H⟩ := H
  try dsimp only at H
  have A5 := ak A50
  clear A50
  have HC6 := ak H
  clear H
  go_enter Try.func4, Try.ntmps4
  go_upto_region 6 with (first | ((with_reducible refine gate_callee (f := 13) rfl ?_); refine gL (some 17) Try.func13 #[.slice A0 l0.length c0] ?_; (with_reducible refine (spec_DrawPagesPut.calls k _ _ l0 t668 t671 t672 _ ?side1 ?side2 A3.out).mono ?_); (case side1 => exact hC HR0.out); (case side2 => exact HC0.out); rintro e w7 ⟨v669, rfl, ho0, hb⟩; refine ⟨_, rfl, ?_⟩; have HO670 := ak (Kd.N_lower (Kd.N_mono (ok' := fun k_ => True) ho0 (fun k_ hk_ => trivial)) (below_size (by exact hopb HB.out))); replace HB := ak (below_step (by exact hopb HB.out) hb); (try clear hb); (try clear ho0); obtain ⟨Ao8, co8, eo8⟩ := Kd.N_slice HO670.out; subst eo8) | ((with_reducible refine gate_callee (f := 14) rfl ?_); refine gL (some 25) Try.func14 #[.slice Ao8 t668.length co8, .string t671, .int .i64 t672] ?_; (with_reducible refine (impl_PagesPut.calls k _ _ t668 t671 t672 t673 t674 _ ?side1 ?side2 A4.out).mono ?_); (case side1 => exact hC (Kd.N_reads' HO670.out).2.2); (case side2 => exact (Kd.N_reads' HO670.out).2.1); rintro e w9 ⟨v675, rfl, ho0, hb⟩; refine ⟨_, rfl, ?_⟩; have HO676 := ak (Kd.N_lower (Kd.N_mono (ok' := fun k_ => some k_ ≠ (.slice Ao8 t668.length co8 : Value).ownBlock) (Kd.S_N (Kd.S_bound ho0)) (fun k_ hk_ => (Kd.fresh' (Kd.N_lt (hN HO670.out)) k_ hk_.2.1))) (below_size (by exact hopb HB.out))); replace HO670 := ak (Kd.N_elder' (hN HO670.out) (Kd.R_base (Kd.S_R ho0)) hb); replace HB := ak (below_step (by exact hopb HB.out) hb); (try clear hb); (try clear ho0)) | ((with_reducible refine gate_callee (f := 15) rfl ?_); refine gL (some 32) Try.func15 #[.slice Ao8 t668.length co8, .string t671, .int .i64 t672] ?_; (with_reducible refine (spec_PagesPut.calls k _ _ t668 t671 t672 t677 t680 _ ?side1 ?side2 A5.out).mono ?_); (case side1 => exact hC (Kd.N_reads' HO670.out).2.2); (case side2 => exact (Kd.N_reads' HO670.out).2.1); rintro e w10 ⟨v678, rfl, ho0, hb⟩; refine ⟨_, rfl, ?_⟩; have HO679 := ak (Kd.N_lower (Kd.N_mono (ok' := fun k_ => some k_ ≠ (.slice Ao8 t668.length co8 : Value).ownBlock ∧ some k_ ≠ (v675 : Value).ownBlock) ho0 (fun k_ hk_ => ⟨(Kd.fresh' (Kd.N_lt (hN HO670.out)) k_ hk_), (Kd.fresh' (Kd.N_lt (hN HO676.out)) k_ hk_)⟩)) (below_size (by exact hopb HB.out))); replace HO670 := ak (Kd.N_elder' (hN HO670.out) (Kd.N_base ho0) hb); replace HO676 := ak (Kd.N_elder' (hN HO676.out) (Kd.N_base ho0) hb); replace HB := ak (below_step (by exact hopb HB.out) hb); (try clear hb); (try clear ho0)))
  (try simp only [Act.put, lT, lZ, lS])
  go_cut [43] (fun v43 wc => ∃ (kq : Nat) (x43_5 : Bool), v43 = .bool x43_5 ∧ Aside0 (laws_FnPagesPut.j0 kq t668 t671 t672 t673 t674 x43_5 = some r) ∧ Aside0 (kq ≤ k) ∧ Aside0 (Kd.N k53 53 wc w.heap.size (fun k_ => some k_ ≠ (v675 : Value).ownBlock) (.slice Ao8 t668.length co8) t668) ∧ Aside0 (Kd.N k53 53 wc w.heap.size (fun k_ => some k_ ≠ ((.slice Ao8 t668.length co8) : Value).ownBlock) v675 t673) ∧ Aside0 (Below w.heap.size w wc))
  case first =>
   have H := HC6.out
   clear HC6
   replace H := Option.bind_eq_some_iff.mp H
   obtain ⟨t681, A110, H⟩ := H
   try dsimp only at H
   have A11 := ak A110
   clear A110
   by_cases c12 : t681 = true
   ·subst c12
    rw [if_pos rfl] at H
    have H' := ak H
    clear H
    obtain ⟨Ao13, co13, eo13⟩ := Kd.N_slice HO676.out
    subst eo13
    obtain ⟨Ao14, co14, eo14⟩ := Kd.N_slice HO679.out
    subst eo14
    go_wp2_with (first | ((with_reducible refine gate_callee (f := 16) rfl ?_); refine gL (some 37) Try.func16 #[.slice Ao13 t673.length co13, .slice Ao14 t677.length co14] ?_; (with_reducible refine (laws_samePages.calls k _ _ t673 _ _ t677 true _ ?side1 ?side2 ?side3 ?side4 A11.out).mono ?_); (case side1 => exact hC (Kd.N_reads' HO676.out).2.2); (case side2 => exact (Kd.N_reads' HO676.out).2.1); (case side3 => exact hC (Kd.N_reads' HO679.out).2.2); (case side4 => exact (Kd.N_reads' HO679.out).2.1); rintro e w' ⟨rfl, ⟨nd, rfl⟩⟩; refine ⟨_, rfl, ?_⟩))
    go_meet
    case rel => exact ⟨_, ((t674 != t680)), (by first | rfl | (simp; done) | (simp [bne]; done) | (simp [*]; done)), H', ⟨by first | omega | exact Nat.le_refl _⟩, ⟨by (with_reducible repeat (first | apply Kd.N_alloc | apply Kd.N_drewN | apply Kd.N_drew)); exact Kd.N_mono HO670.out (fun _ hk => hk.1.2)⟩, ⟨by (with_reducible repeat (first | apply Kd.N_alloc | apply Kd.N_drewN | apply Kd.N_drew)); exact Kd.N_mono HO676.out (fun _ hk => hk.1)⟩, ⟨by exact hopb HB.out⟩⟩
   ·replace c12 := Bool.eq_false_iff.mpr c12
    subst c12
    rw [if_neg (show ¬ (false = true) by decide)] at H
    have H' := ak H
    clear H
    obtain ⟨Ao15, co15, eo15⟩ := Kd.N_slice HO676.out
    subst eo15
    obtain ⟨Ao16, co16, eo16⟩ := Kd.N_slice HO679.out
    subst eo16
    go_wp2_with (first | ((with_reducible refine gate_callee (f := 16) rfl ?_); refine gL (some 37) Try.func16 #[.slice Ao15 t673.length co15, .slice Ao16 t677.length co16] ?_; (with_reducible refine (laws_samePages.calls k _ _ t673 _ _ t677 false _ ?side1 ?side2 ?side3 ?side4 A11.out).mono ?_); (case side1 => exact hC (Kd.N_reads' HO676.out).2.2); (case side2 => exact (Kd.N_reads' HO676.out).2.1); (case side3 => exact hC (Kd.N_reads' HO679.out).2.2); (case side4 => exact (Kd.N_reads' HO679.out).2.1); rintro e w' ⟨rfl, ⟨nd, rfl⟩⟩; refine ⟨_, rfl, ?_⟩))
    go_meet
    case rel => exact ⟨_, (true), (by first | rfl | (simp; done) | (simp [bne]; done) | (simp [*]; done)), H', ⟨by first | omega | exact Nat.le_refl _⟩, ⟨by (with_reducible repeat (first | apply Kd.N_alloc | apply Kd.N_drewN | apply Kd.N_drew)); exact Kd.N_mono HO670.out (fun _ hk => hk.1.2)⟩, ⟨by (with_reducible repeat (first | apply Kd.N_alloc | apply Kd.N_drewN | apply Kd.N_drew)); exact Kd.N_mono HO676.out (fun _ hk => hk.1)⟩, ⟨by exact hopb HB.out⟩⟩
  case rest =>
   clear HC6
   try clear c1
   try clear c2
   try clear c2b0
   try clear c2b1
   try clear p2
   try clear c4
   try clear c12
   try clear c13
   try clear c14
   try clear c15
   try clear c16
   obtain ⟨kq, x43_5, rfl, HA, HJ5, HO_3, HO_6, HB⟩ := hcut
   cases kq with
   | zero => exact absurd HA.out (by simp [laws_FnPagesPut.j0])
   | succ kj5 =>
    have H := HA.out
    clear HA
    simp only [laws_FnPagesPut.j0] at H
    by_cases c17 : x43_5 = true
    ·subst c17
     rw [if_pos rfl] at H
     exact absurd H (by simp)
    ·replace c17 := Bool.eq_false_iff.mpr c17
     subst c17
     rw [if_neg (show ¬ (false = true) by decide)] at H
     by_cases c18 : t674 = true
     ·subst c18
      rw [if_pos rfl] at H
      replace H := Option.bind_eq_some_iff.mp H
      obtain ⟨t685, A190, H⟩ := H
      try dsimp only at H
      have A19 := ak A190
      clear A190
      replace H := Option.bind_eq_some_iff.mp H
      obtain ⟨⟨t688, t689⟩, A200, H⟩ := H
      try dsimp only at H
      have A20 := ak A200
      clear A200
      by_cases c21 : t689 = true
      ·subst c21
       rw [if_pos rfl] at H
       replace H := Option.bind_eq_some_iff.mp H
       obtain ⟨t692, A220, H⟩ := H
       try dsimp only at H
       have A22 := ak A220
       clear A220
       by_cases c23 : t692 = true
       ·subst c23
        rw [if_pos rfl] at H
        replace H := Option.bind_eq_some_iff.mp H
        obtain ⟨t693, A240, H⟩ := H
        try dsimp only at H
        have A24 := ak A240
        clear A240
        replace H := Option.bind_eq_some_iff.mp H
        obtain ⟨t696, A250, H⟩ := H
        try dsimp only at H
        have A25 := ak A250
        clear A250
        by_cases c26 : t696 = true
        ·subst c26
         rw [if_pos rfl] at H
         obtain rfl := Option.some.inj H
         go_wp2_with (first | ((with_reducible refine gate_callee (f := 19) rfl ?_); refine gL (some 59) Try.func19 #[.slice Ao8 t668.length co8] ?_; (with_reducible refine (impl_PagesList.calls kj5 _ _ t668 t685 _ ?side1 ?side2 A19.out).mono ?_); (case side1 => exact hC (Kd.N_reads' HO_3.out).2.2); (case side2 => exact (Kd.N_reads' HO_3.out).2.1); rintro e w27 ⟨v686, rfl, ho0, hb⟩; refine ⟨_, rfl, ?_⟩; replace HO_3 := ak (Kd.N_elder' (hN HO_3.out) (Kd.R_base ho0) hb); replace HO_6 := ak (Kd.N_elder' (hN HO_6.out) (Kd.R_base ho0) hb); have HO687 := ak (Kd.R_lower ho0 (below_size (by exact hopb HB.out))); replace HB := ak (below_step (by exact hopb HB.out) hb); (try clear hb); (try clear ho0); obtain ⟨Ao28, co28, eo28⟩ := Kd.R_slice HO687.out; subst eo28) | ((with_reducible refine gate_callee (f := 18) rfl ?_); refine gL (some 62) Try.func18 #[.slice Ao28 t685.length co28, .string t671, .int .i64 t672] ?_; (with_reducible refine (impl_PairPut.calls kj5 _ _ t685 t671 t672 t688 true _ ?side1 ?side2 A20.out).mono ?_); (case side1 => exact hC (Kd.R_reads' HO687.out).2.2); (case side2 => exact (Kd.R_reads' HO687.out).2.1); rintro e w29 ⟨v690, rfl, ho0, hb⟩; refine ⟨_, rfl, ?_⟩; replace HO_3 := ak (Kd.N_elder' (hN HO_3.out) (Kd.R_base ho0) hb); replace HO_6 := ak (Kd.N_elder' (hN HO_6.out) (Kd.R_base ho0) hb); have HO691 := ak (Kd.R_lower (Kd.R_new' ho0 (Kd.R_lt (hR HO687.out))) (below_size (by exact hopb HB.out))); replace HO687 := ak (Kd.R_elder' (hR HO687.out) (Kd.R_base ho0) hb); replace HB := ak (below_step (by exact hopb HB.out) hb); (try clear hb); (try clear ho0); obtain ⟨Ao30, co30, eo30⟩ := Kd.N_slice HO_6.out; subst eo30) | (go_at_call 20; (with_reducible refine (impl_PagesValid.calls kj5 _ _ t673 true _ ?side1 ?side2 A22.out).mono ?_); (case side1 => exact hC (Kd.N_reads' HO_6.out).2.2); (case side2 => exact (Kd.N_reads' HO_6.out).2.1); rintro e w31 ⟨rfl, hb⟩; replace HO_3 := ak (Kd.N_below (hN HO_3.out) hb); replace HO_6 := ak (Kd.N_below (hN HO_6.out) hb); replace HO687 := ak (Kd.R_below (hR HO687.out) hb); replace HO691 := ak (Kd.R_below (hR HO691.out) hb); replace HB := ak (below_step (by exact hopb HB.out) hb); (try clear hb)) | (go_at_call 19; (with_reducible refine (impl_PagesList.calls kj5 _ _ t673 t693 _ ?side1 ?side2 A24.out).mono ?_); (case side1 => exact hC (Kd.N_reads' HO_6.out).2.2); (case side2 => exact (Kd.N_reads' HO_6.out).2.1); rintro e w32 ⟨v694, rfl, ho0, hb⟩; replace HO_3 := ak (Kd.N_elder' (hN HO_3.out) (Kd.R_base ho0) hb); replace HO_6 := ak (Kd.N_elder' (hN HO_6.out) (Kd.R_base ho0) hb); have HO695 := ak (Kd.R_lower (Kd.R_new' (Kd.R_new' ho0 (Kd.R_lt (hR HO687.out))) (Kd.R_lt (hR HO691.out))) (below_size (by exact hopb HB.out))); replace HO687 := ak (Kd.R_elder' (hR HO687.out) (Kd.R_base ho0) hb); replace HO691 := ak (Kd.R_elder' (hR HO691.out) (Kd.R_base ho0) hb); replace HB := ak (below_step (by exact hopb HB.out) hb); (try clear hb); (try clear ho0); obtain ⟨Ao33, co33, eo33⟩ := Kd.R_slice HO695.out; subst eo33; obtain ⟨Ao34, co34, eo34⟩ := Kd.R_slice HO691.out; subst eo34) | (go_at_call 21; (with_reducible refine (laws_samePairs.calls kj5 _ _ t693 _ _ t688 true _ ?side1 ?side2 ?side3 ?side4 A25.out).mono ?_); (case side1 => exact hC (Kd.R_reads' HO695.out).2.2); (case side2 => exact (Kd.R_reads' HO695.out).2.1); (case side3 => exact hC (Kd.R_reads' HO691.out).2.2); (case side4 => exact (Kd.R_reads' HO691.out).2.1); rintro e w' ⟨rfl, ⟨nd, rfl⟩⟩))
         go_ret
         exact ⟨by first | rfl | (simp only [u8_w_, w64_u8_] <;> rfl) | (simp [errW_none, errW_some] <;> rfl) | (simp [*, errW_none, errW_some] <;> rfl), by exact hopb HB.out⟩
        ·replace c26 := Bool.eq_false_iff.mpr c26
         subst c26
         rw [if_neg (show ¬ (false = true) by decide)] at H
         exact absurd H (by simp)
       ·replace c23 := Bool.eq_false_iff.mpr c23
        subst c23
        rw [if_neg (show ¬ (false = true) by decide)] at H
        exact absurd H (by simp)
      ·replace c21 := Bool.eq_false_iff.mpr c21
       subst c21
       rw [if_neg (show ¬ (false = true) by decide)] at H
       exact absurd H (by simp)
     ·replace c18 := Bool.eq_false_iff.mpr c18
      subst c18
      rw [if_neg (show ¬ (false = true) by decide)] at H
      replace H := Option.bind_eq_some_iff.mp H
      obtain ⟨t682, A350, H⟩ := H
      try dsimp only at H
      have A35 := ak A350
      clear A350
      by_cases c36 : t682 = true
      ·subst c36
       rw [if_pos rfl] at H
       replace H := Option.bind_eq_some_iff.mp H
       obtain ⟨t683, A370, H⟩ := H
       try dsimp only at H
       have A37 := ak A370
       clear A370
       obtain rfl := Option.some.inj H
       obtain ⟨Ao38, co38, eo38⟩ := Kd.N_slice HO_6.out
       subst eo38
       go_wp2_with (first | ((with_reducible refine gate_callee (f := 16) rfl ?_); refine gL (some 48) Try.func16 #[.slice Ao38 t673.length co38, .slice Ao8 t668.length co8] ?_; (with_reducible refine (laws_samePages.calls kj5 _ _ t673 _ _ t668 true _ ?side1 ?side2 ?side3 ?side4 A35.out).mono ?_); (case side1 => exact hC (Kd.N_reads' HO_6.out).2.2); (case side2 => exact (Kd.N_reads' HO_6.out).2.1); (case side3 => exact hC (Kd.N_reads' HO_3.out).2.2); (case side4 => exact (Kd.N_reads' HO_3.out).2.1); rintro e w' ⟨rfl, ⟨nd, rfl⟩⟩; refine ⟨_, rfl, ?_⟩) | (go_at_call 17; (with_reducible refine (laws_alive.calls kj5  t683 _ A37.out).mono ?_); rintro e w39 ⟨rfl, hb⟩; replace HO_3 := ak (Kd.N_below (hN HO_3.out) hb); replace HO_6 := ak (Kd.N_below (hN HO_6.out) hb); replace HB := ak (below_step (by exact hopb HB.out) hb); (try clear hb)))
       go_ret
       exact ⟨by first | rfl | (simp only [u8_w_, w64_u8_] <;> rfl) | (simp [errW_none, errW_some] <;> rfl) | (simp [*, errW_none, errW_some] <;> rfl), by exact hopb HB.out⟩
      ·replace c36 := Bool.eq_false_iff.mpr c36
       subst c36
       rw [if_neg (show ¬ (false = true) by decide)] at H
       by_cases c40 : (t673.length : Int) = 0
       ·rw [if_pos c40] at H
        have c40b0 : ((t673.length : Int) == 0) = true := beq_iff_eq.mpr c40
        have c40b1 : ((t673.length : Int) != 0) = false := bne_eq_false_iff_eq.mpr c40
        clear c40
        replace H := Option.bind_eq_some_iff.mp H
        obtain ⟨t684, A410, H⟩ := H
        try dsimp only at H
        have A41 := ak A410
        clear A410
        obtain rfl := Option.some.inj H
        obtain ⟨Ao42, co42, eo42⟩ := Kd.N_slice HO_6.out
        subst eo42
        go_wp2_with (first | ((with_reducible refine gate_callee (f := 16) rfl ?_); refine gL (some 48) Try.func16 #[.slice Ao42 t673.length co42, .slice Ao8 t668.length co8] ?_; (with_reducible refine (laws_samePages.calls kj5 _ _ t673 _ _ t668 false _ ?side1 ?side2 ?side3 ?side4 A35.out).mono ?_); (case side1 => exact hC (Kd.N_reads' HO_6.out).2.2); (case side2 => exact (Kd.N_reads' HO_6.out).2.1); (case side3 => exact hC (Kd.N_reads' HO_3.out).2.2); (case side4 => exact (Kd.N_reads' HO_3.out).2.1); rintro e w' ⟨rfl, ⟨nd, rfl⟩⟩; refine ⟨_, rfl, ?_⟩) | (go_at_call 17; (with_reducible refine (laws_alive.calls kj5  t684 _ A41.out).mono ?_); rintro e w43 ⟨rfl, hb⟩; replace HO_3 := ak (Kd.N_below (hN HO_3.out) hb); replace HO_6 := ak (Kd.N_below (hN HO_6.out) hb); replace HB := ak (below_step (by exact hopb HB.out) hb); (try clear hb)))
        go_ret
        exact ⟨by first | rfl | (simp only [u8_w_, w64_u8_] <;> rfl) | (simp [errW_none, errW_some] <;> rfl) | (simp [*, errW_none, errW_some] <;> rfl), by exact hopb HB.out⟩
       ·rw [if_neg c40] at H
        exact absurd H (by simp)

/-- THE ONE PURE STATEMENT of laws_FnPagesPut: yours. -/
def laws_FnPagesPut.Pure : Prop := ∀ (l0 : List Int), l0.length ≤ maxLen → l0.length * 1 ≤ 140737488351232 → (∀ x ∈ l0, (Lit.int .u8 x).wf = true) → ∃ k, laws_FnPagesPut.f k l0 = some true
theorem laws_FnPagesPut.walk (P : laws_FnPagesPut.Pure) (a0 : Option Addr) (len0 cap0 : Nat) (z0 : List Int) (w : World) (w0 : (a0 = none ∧ len0 = 0 ∧ cap0 = 0 ∧ z0 = []) ∨ ∃ x, a0 = some x ∧ len0 ≤ cap0 ∧ cap0 ≤ maxLen ∧ z0.length = cap0 ∧ (∀ i, i < z0.length → w.cell? (x.add i) = some (.int .u8 (z0.getD i 0))) ∧ ∀ n ∈ z0, (Lit.int .u8 n).wf = true) (y0 : len0 * 1 ≤ 140737488351232) :
  Calls Try.prog 4 #[.slice a0 len0 cap0] w fun e w' => e = .returned (.bool true) ∧ Below w.heap.size w w' := by
 obtain ⟨l0, rfl, hr0, hm0, hw0, hc0⟩ := ReadsInt.ofRowC w0
 obtain ⟨k, h⟩ := P l0 hm0 y0 hw0
 refine (laws_FnPagesPut.calls k _ _ l0 true w (Kd.C_of_reads (d := (0 : Int)) (h1 := fun _ => rfl) hr0) hc0 h).mono ?_
 rintro e w' ⟨rfl, hd⟩
 exact ⟨rfl, hd⟩

end Go.Proofs.Ytengnnhehjcfhaa.PFnPagesPut
