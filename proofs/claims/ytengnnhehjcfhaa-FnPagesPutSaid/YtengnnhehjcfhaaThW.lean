-- Cut by a program of this session (wip/prune.py) from words that the kit's print.sh printed: what nothing of this seat uses is left out.
/- Plain laws of pages into which a pair is put: they stay the pages of a sorted list, and are what PairPut makes of it. -/
import Derived.Test.YtengnnhehjcfhaaThU
import Derived.Test.YtengnnhehjcfhaaThP
namespace Go.Proofs.Ytengnnhehjcfhaa.Th
open Go Go.RowKit Go.Proofs.YtengnnhehjcfhaaW.PrintWords
set_option linter.unusedVariables false
set_option linter.unusedSimpArgs false
section
variable {α β : Type} (key : α → ByteArray) (val : α → Int) (ps : β → List α) (mk : ByteArray → Int → α) (mkp : List α → β)
theorem drop_mid (a : List α) (y : α) (b : List α) : (a ++ y :: b).drop (a.length + 1) = b := by
  rw [List.drop_append, List.drop_of_length_le (by omega), show a.length + 1 - a.length = 1 by omega]
  rfl
theorem put_cat (C1 P C2 : List α) (s : ByteArray) (v : Int) (h : PV key val (C1 ++ (P ++ C2))) (h1 : ∀ p ∈ C1, lt (key p) s) (h2 : ∀ p ∈ C2, lt s (key p)) (hr : (putP key val mk (C1 ++ (P ++ C2)) s v).2 = true) :
    (putP key val mk (C1 ++ (P ++ C2)) s v).1 = C1 ++ ((putP key val mk P s v).1 ++ C2) := by
  obtain ⟨_, g1, _⟩ := List.pairwise_append.1 h.2.2
  have hP : PV key val P := pv_sub key val h (List.Sublist.trans (List.sublist_append_left _ _) (List.sublist_append_right _ _))
  obtain ⟨xs, ys, rfl, hl, hx, hy⟩ := place_cut key P s hP.2.2
  have e : C1 ++ (xs ++ ys ++ C2) = (C1 ++ xs) ++ (ys ++ C2) := by simp only [List.append_assoc]
  have gx : ∀ q ∈ C1 ++ xs, lt (key q) s := fun q hq => by
    rcases List.mem_append.1 hq with hq | hq
    · exact h1 q hq
    · exact hx q hq
  have gy : ∀ q ∈ ys ++ C2, ¬ lt (key q) s := fun q hq => by
    rcases List.mem_append.1 hq with hq | hq
    · exact hy q hq
    · exact lt_asymm (h2 q hq)
  have pl := place_app key (C1 ++ xs) (ys ++ C2) s gx gy
  have fo := found_app key (C1 ++ xs) (ys ++ C2) s gx gy
  have pl' := place_app key xs ys s hx hy
  have fo' := found_app key xs ys s hx hy
  have hlen := h.1
  simp only [List.length_append] at hlen
  rw [e] at hr h ⊢
  unfold putP at hr ⊢
  by_cases c : kv s = true ∧ (0 ≤ v ∧ v ≤ 999)
  · rw [if_pos ⟨(pv_iff _ _ _).2 h, c⟩] at hr ⊢
    rw [if_pos (⟨(pv_iff _ _ _).2 hP, c⟩ : pv key val (xs ++ ys) = true ∧ kv s = true ∧ (0 ≤ v ∧ v ≤ 999)), pl', fo']
    rw [pl, fo] at hr ⊢
    have no : foundAt key (C1 ++ xs ++ (ys ++ C2)) s = false → foundAt key (xs ++ ys) s = false → (if 48 ≤ (C1 ++ xs ++ (ys ++ C2)).length then (C1 ++ xs ++ (ys ++ C2), false) else ((C1 ++ xs ++ (ys ++ C2)).take (C1 ++ xs).length ++ mk s v :: (C1 ++ xs ++ (ys ++ C2)).drop (C1 ++ xs).length, true)).2 = true →
        (if 48 ≤ (C1 ++ xs ++ (ys ++ C2)).length then (C1 ++ xs ++ (ys ++ C2), false) else ((C1 ++ xs ++ (ys ++ C2)).take (C1 ++ xs).length ++ mk s v :: (C1 ++ xs ++ (ys ++ C2)).drop (C1 ++ xs).length, true)).1 = C1 ++ ((if 48 ≤ (xs ++ ys).length then (xs ++ ys, false) else ((xs ++ ys).take xs.length ++ mk s v :: (xs ++ ys).drop xs.length, true)).1 ++ C2) := by
      intro _ _ hr
      by_cases d : 48 ≤ (C1 ++ xs ++ (ys ++ C2)).length
      · rw [if_pos d] at hr; cases hr
      · rw [if_neg d, if_neg (by simp only [List.length_append] at d ⊢; omega), List.take_left, List.drop_left, List.take_left, List.drop_left]
        simp only [List.append_assoc, List.cons_append]
    cases ys with
    | nil =>
      simp only [List.nil_append] at hr fo no ⊢
      cases C2 with
      | nil =>
        simp only [Bool.false_eq_true, if_false] at hr ⊢
        exact no fo fo' hr
      | cons y C2 =>
        have ne : ¬ (key y).toList = s.toList := fun e' => by
          have := h2 y (by simp)
          rw [str_ext e'] at this
          exact lt_irrefl _ this
        simp only [decide_eq_false ne, Bool.false_eq_true, if_false] at hr fo ⊢
        exact no fo fo' hr
    | cons y ys =>
      by_cases e' : (key y).toList = s.toList
      · simp only [List.cons_append, decide_eq_true e', if_true]
        rw [List.take_left, List.take_left, drop_mid, drop_mid]
        simp only [List.append_assoc, List.cons_append]
      · simp only [List.cons_append, decide_eq_false e', Bool.false_eq_true, if_false] at hr fo fo' no ⊢
        exact no fo fo' hr
  · rw [if_neg (fun h' => c h'.2)] at hr; cases hr
theorem putP_ge (l : List α) (s : ByteArray) (v : Int) (h : PV key val l) (hs : kv s = true) (hv : 0 ≤ v ∧ v ≤ 999) : l.length ≤ (putP key val mk l s v).1.length := by
  unfold putP
  rw [if_pos ⟨(pv_iff _ _ _).2 h, hs, hv⟩]
  have hp := place_le key l s
  by_cases f : foundAt key l s = true
  · rw [if_pos f, List.length_append, List.length_cons, List.length_take, List.length_drop]
    omega
  · rw [if_neg f]
    by_cases g : 48 ≤ l.length
    · rw [if_pos g]; exact Nat.le_refl _
    · rw [if_neg g, List.length_append, List.length_cons, List.length_take, List.length_drop]; omega
theorem page_first (zp : α) (z : β) (l : List β) (h : PgV key val ps l) (j : Nat) (hj : j < l.length) : (ps (l.getD j z)).getD 0 zp ∈ ps (l.getD j z) :=
  getD_mem zp _ 0 (h.1 _ (getD_mem z l j hj)).2.2
theorem page_sides (zp : α) (z : β) (l : List β) (s : ByteArray) (h : PgV key val ps l) (hn : l ≠ []) : (∀ p ∈ cat ps (l.take (lastPg key ps zp s l 0 0)), lt (key p) s) ∧ (∀ p ∈ cat ps (l.drop (lastPg key ps zp s l 0 0 + 1)), lt s (key p)) := by
  have hq := lastPg_in key ps zp s l hn
  have sp := lastPg_spec key ps zp z s l 0 0
  generalize lastPg key ps zp s l 0 0 = q at hq sp
  have up : ∀ j', q < j' → j' < l.length → lt s (key ((ps (l.getD j' z)).getD 0 zp)) := by
    rcases sp with ⟨h1, h2⟩ | ⟨j, h1, h2, h3, h4⟩
    · exact fun j' _ h' => h2 j' h'
    · exact fun j' h5 h6 => h4 j' (by omega) h6
  refine ⟨fun p hp => ?_, fun p hp => ?_⟩
  · obtain ⟨j, hj, hpj⟩ := (mem_cat ps z _ p).1 hp
    rw [List.length_take] at hj
    rw [List.getD_eq_getElem?_getD, List.getElem?_take, if_pos (by omega), ← List.getD_eq_getElem?_getD] at hpj
    have nf : ¬ lt s (key ((ps (l.getD q z)).getD 0 zp)) := by
      rcases sp with ⟨h1, _⟩ | ⟨j, h1, h2, h3, h4⟩
      · omega
      · rw [show q = j by omega]; exact h3
    exact lt_of_lt_of_not (page_lt key ps z l h.2.2.2 j q (by omega) hq p _ hpj (page_first key val ps zp z l h q hq)) nf
  · obtain ⟨j, hj, hpj⟩ := (mem_cat ps z _ p).1 hp
    rw [List.length_drop] at hj
    rw [List.getD_eq_getElem?_getD, List.getElem?_drop, ← List.getD_eq_getElem?_getD] at hpj
    exact lt_of_lt_of_not (up (q + 1 + j) (by omega) (by omega)) (first_le key zp _ (page_asc key val ps z l h.2 (q + 1 + j) (by omega)).2.2 p hpj)
variable (hmk : ∀ l, ps (mkp l) = l)
include hmk in
theorem split_cat (l : List β) (q : Nat) (x : List α) (hq : q < l.length) : cat ps (splitPg mkp l q x) = cat ps (l.take q) ++ (x ++ cat ps (l.drop (q + 1))) := by
  have one : ∀ y : List α, cat ps [mkp y] = y := fun y => by show ps (mkp y) ++ [] = y; rw [hmk, List.append_nil]
  unfold splitPg
  by_cases c : x.length ≤ 4
  · rw [if_pos c, show l.set q (mkp x) = l.take q ++ mkp x :: l.drop (q + 1) from List.set_eq_take_append_cons_drop.trans (if_pos hq), cat_append]
    show _ ++ (ps (mkp x) ++ _) = _
    rw [hmk]
  · rw [if_neg c, cat_append, cat_append]
    show _ ++ (ps (mkp _) ++ (ps (mkp _) ++ [])) ++ _ = _
    rw [hmk, hmk, List.append_nil, List.take_append_drop, List.append_assoc]
include hmk in
theorem split_ok (l : List β) (q : Nat) (x : List α) (h : ∀ p ∈ l, okPg ps l.length p) (z : β) (hq : q < l.length) (h5 : x.length ≤ 5) (hx : (ps (l.getD q z)).length ≤ x.length) : (∀ p ∈ splitPg mkp l q x, okPg ps (splitPg mkp l q x).length p) ∧ (splitPg mkp l q x).length ≤ l.length + 1 := by
  have hp := h _ (getD_mem z l q hq)
  unfold splitPg
  by_cases c : x.length ≤ 4
  · rw [if_pos c, List.length_set]
    refine ⟨fun p hp' => ?_, by omega⟩
    rcases List.mem_or_eq_of_mem_set hp' with g | g
    · exact h p g
    · rw [g]
      unfold okPg
      rw [hmk]
      exact ⟨c, fun h1 => Nat.le_trans (hp.2.1 h1) hx, Nat.le_trans hp.2.2 hx⟩
  · rw [if_neg c]
    have hlen : (l.take q ++ [mkp (x.take 2), mkp (x.drop 2)] ++ l.drop (q + 1)).length = l.length + 1 := by
      simp only [List.length_append, List.length_take, List.length_drop, List.length_cons, List.length_nil]; omega
    rw [hlen]
    refine ⟨fun p hp' => ?_, Nat.le_refl _⟩
    have old : p ∈ l → 1 < l.length → okPg ps (l.length + 1) p := fun g1 g2 => ⟨(h p g1).1, fun _ => (h p g1).2.1 g2, (h p g1).2.2⟩
    simp only [List.mem_append, List.mem_cons, List.not_mem_nil, or_false] at hp'
    rcases hp' with (g | g | g) | g
    · have := List.length_pos_of_mem g
      rw [List.length_take] at this
      exact old (List.mem_of_mem_take g) (by omega)
    · rw [g]; unfold okPg; rw [hmk, List.length_take]; omega
    · rw [g]; unfold okPg; rw [hmk, List.length_drop]; omega
    · have := List.length_pos_of_mem g
      rw [List.length_drop] at this
      exact old (List.mem_of_mem_drop g) (by omega)
include hmk in
theorem putPg_ok (hk : ∀ a b, key (mk a b) = a) (hv : ∀ a b, val (mk a b) = b) (zp : α) (z : β) (l : List β) (s : ByteArray) (v : Int) (h : (putPg key val ps mk mkp zp z l s v).2 = true) :
    pgv key val ps l = true ∧ PgV key val ps (putPg key val ps mk mkp zp z l s v).1 ∧ cat ps (putPg key val ps mk mkp zp z l s v).1 = (putP key val mk (cat ps l) s v).1 ∧ (putP key val mk (cat ps l) s v).2 = true ∧ (putPg key val ps mk mkp zp z l s v).1.length ≤ l.length + 1 := by
  unfold putPg at h ⊢
  by_cases c : pgv key val ps l = true ∧ kv s = true ∧ (0 ≤ v ∧ v ≤ 999)
  · have hP := (pgv_iff _ _ _ _).1 c.1
    rw [if_pos c] at h ⊢
    refine ⟨c.1, ?_⟩
    by_cases d : l = []
    · subst d
      have e : putP key val mk (cat ps ([] : List β)) s v = ([mk s v], true) := by
        unfold putP
        rw [if_pos ⟨(pv_iff _ _ _).2 hP.2, c.2⟩]
        rfl
      have e1 : cat ps [mkp [mk s v]] = [mk s v] := by show ps (mkp [mk s v]) ++ [] = _; rw [hmk]; rfl
      obtain ⟨_, x, hx, hpv, _⟩ := put_ok key val mk hk hv (cat ps ([] : List β)) s v (by rw [e])
      rw [e] at hx ⊢
      rw [if_pos rfl]
      refine ⟨⟨fun p hp => ?_, ?_⟩, e1, rfl, by simp⟩
      · rw [List.mem_singleton.1 hp]; unfold okPg; rw [hmk]; simp
      · rw [e1]
        have hx' : [mk s v] = x := hx
        rw [hx']; exact hpv
    · rw [if_neg d] at h ⊢
      by_cases r : (putP key val mk (cat ps l) s v).2 = true
      · rw [if_pos r]
        have hq := lastPg_in key ps zp s l d
        obtain ⟨lo, hi⟩ := page_sides key val ps zp z l s hP d
        generalize lastPg key ps zp s l 0 0 = q at hq lo hi ⊢
        have e : cat ps l = cat ps (l.take q) ++ (ps (l.getD q z) ++ cat ps (l.drop (q + 1))) := by rw [← cat_drop ps z l q hq, ← cat_append, List.take_append_drop]
        have hpg := page_asc key val ps z l hP.2 q hq
        have p4 := (hP.1 _ (getD_mem z l q hq)).1
        have ge := putP_ge key val mk _ s v hpg c.2.1 c.2.2
        have l1 := putP_len1 key val mk (ps (l.getD q z)) s v
        have pc := put_cat key val mk (cat ps (l.take q)) (ps (l.getD q z)) (cat ps (l.drop (q + 1))) s v (by rw [← e]; exact hP.2) lo hi (by rw [← e]; exact r)
        rw [← e] at pc
        obtain ⟨s1, s2⟩ := split_ok ps mkp hmk l q (putP key val mk (ps (l.getD q z)) s v).1 hP.1 z hq (by omega) ge
        obtain ⟨_, x, hx, hpv, _⟩ := put_ok key val mk hk hv (cat ps l) s v r
        have sc := split_cat ps mkp hmk l q (putP key val mk (ps (l.getD q z)) s v).1 hq
        rw [← pc] at sc
        exact ⟨⟨s1, by rw [sc, hx]; exact hpv⟩, sc, r, s2⟩
      · rw [if_neg r] at h; cases h
  · rw [if_neg c] at h; cases h
theorem putPg_no (zp : α) (z : β) (l : List β) (s : ByteArray) (v : Int) (h : (putPg key val ps mk mkp zp z l s v).2 = false) : (putPg key val ps mk mkp zp z l s v).1 = l ∨ (putPg key val ps mk mkp zp z l s v).1 = [] := by
  unfold putPg at h ⊢
  by_cases c : pgv key val ps l = true ∧ kv s = true ∧ (0 ≤ v ∧ v ≤ 999)
  · rw [if_pos c] at h ⊢
    by_cases d : l = []
    · rw [if_pos d] at h; cases h
    · rw [if_neg d] at h ⊢
      by_cases r : (putP key val mk (cat ps l) s v).2 = true
      · rw [if_pos r] at h; cases h
      · rw [if_neg r]; exact .inl rfl
  · rw [if_neg c]; exact .inr rfl
end
end Go.Proofs.Ytengnnhehjcfhaa.Th
