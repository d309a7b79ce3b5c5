/-
  Chains, plain laws: how parts begin and end, the whole, two parts that lie one behind the other, a chain that is turned back.
-/
import Derived.Test.YtcdnekhpeghkiaaCH
namespace Go.Proofs.Ytcdnekhpeghkiaa
set_option linter.unusedVariables false

theorem bool_eq {a b : Bool} (h : a = true ↔ b = true) : a = b := Bool.eq_iff_iff.2 h
theorem cpt_mid : ∀ (u : List (Int × Int)) (a : Int × Int) (v : List (Int × Int)), cpt (u ++ [a]) ++ (cpt (a :: v)).tail = cpt (u ++ a :: v)
  | [], a, v => by
    have h := cpt_head (a :: v)
    show [a] ++ (cpt (a :: v)).tail = cpt (a :: v)
    cases hc : cpt (a :: v) with
    | nil => rw [hc] at h; cases h
    | cons x r =>
      rw [hc] at h
      have : x = a := by simpa using h
      subst this
      rfl
  | [c], a, v => by
    have ih := cpt_mid [] a v
    show cpt (c :: a :: []) ++ _ = cpt (c :: a :: v)
    rw [cpt_cons2, cpt_cons2]
    by_cases e : c = a
    · rw [if_pos e, if_pos e]; exact ih
    · rw [if_neg e, if_neg e, List.cons_append]
      exact congrArg _ ih
  | c :: d :: r, a, v => by
    have ih := cpt_mid (d :: r) a v
    show cpt (c :: d :: (r ++ [a])) ++ _ = cpt (c :: d :: (r ++ a :: v))
    rw [cpt_cons2, cpt_cons2]
    by_cases e : c = d
    · rw [if_pos e, if_pos e]; exact ih
    · rw [if_neg e, if_neg e, List.cons_append]
      exact congrArg _ ih
/-- one point more in a list, that is not between two that are the same -/
theorem cpt_more (u : List (Int × Int)) (a y b : Int × Int) (v : List (Int × Int)) (h : a = b → y = a) :
    (cpt (u ++ a :: b :: v)).Sublist (cpt (u ++ a :: y :: b :: v)) ∧ (cpt (u ++ a :: y :: b :: v)).length ≤ (cpt (u ++ a :: b :: v)).length + 1 := by
  rw [← cpt_mid u a (b :: v), ← cpt_mid u a (y :: b :: v)]
  have key : ((cpt (a :: b :: v)).tail).Sublist ((cpt (a :: y :: b :: v)).tail) ∧ ((cpt (a :: y :: b :: v)).tail).length ≤ ((cpt (a :: b :: v)).tail).length + 1 := by
    by_cases e1 : a = y
    · subst e1
      have : cpt (a :: a :: b :: v) = cpt (a :: b :: v) := by rw [cpt_cons2, if_pos rfl]
      rw [this]
      exact ⟨List.Sublist.refl _, by omega⟩
    · by_cases e2 : y = b
      · subst e2
        have : cpt (a :: y :: y :: v) = cpt (a :: y :: v) := by rw [cpt_cons2, cpt_cons2, if_pos rfl, cpt_cons2]
        rw [this]
        exact ⟨List.Sublist.refl _, by omega⟩
      · have e3 : a ≠ b := fun e => e1 (h e).symm
        have t1 : cpt (a :: b :: v) = a :: cpt (b :: v) := by rw [cpt_cons2, if_neg e3]
        have t2 : cpt (a :: y :: b :: v) = a :: y :: cpt (b :: v) := by rw [cpt_cons2, if_neg e1, cpt_cons2, if_neg e2]
        rw [t1, t2]
        exact ⟨List.sublist_cons_self _ _, by simp⟩
  refine ⟨(List.Sublist.refl _).append key.1, ?_⟩
  rw [List.length_append, List.length_append]
  omega
variable (C : Ch)
theorem Ch.cut_head (x z : Int) : (C.cut x z).head? = some (C.at x) := by unfold Ch.cut; rw [cpt_head]; rfl
theorem Ch.cut_last (x z : Int) : (C.cut x z).getLast? = some (C.at z) := by unfold Ch.cut; rw [cpt_last, List.getLast?_append]; rfl
theorem Ch.cut_apart (x z : Int) : Apart (C.cut x z) := cpt_apart _
theorem Ch.cut_ne (x z : Int) : C.cut x z ≠ [] := cpt_ne _ (by simp)
/-- the chain's ends -/
def Ch.ends : List (Int × Int) := (List.range' 0 (C.m + 1)).map C.P
theorem apart_range (f : Nat → Int × Int) : ∀ (n s : Nat), (∀ i, s ≤ i → i + 1 < s + n → f i ≠ f (i + 1)) → Apart ((List.range' s n).map f)
  | 0, s, h => trivial
  | 1, s, h => trivial
  | n + 2, s, h => by
    have ih := apart_range f (n + 1) (s + 1) (fun i h1 h2 => h i (by omega) (by omega))
    rw [List.range'_succ, List.range'_succ]
    rw [List.range'_succ] at ih
    exact ⟨h s (Nat.le_refl _) (by omega), ih⟩
theorem Ch.cut_whole : C.cut 0 (C.ln C.m) = C.ends := by
  have a0 : C.at 0 = C.P 0 := C.at_ln 0 (Nat.zero_le _)
  have am : C.at (C.ln C.m) = C.P C.m := C.at_ln C.m (Nat.le_refl _)
  unfold Ch.cut
  rw [a0, am]
  by_cases hm : C.m = 0
  · have : C.mid 0 (C.ln C.m) = [] := by unfold Ch.mid; rw [hm]; rfl
    unfold Ch.ends
    rw [this, hm]
    show cpt (C.P 0 :: C.P 0 :: []) = [C.P 0]
    rw [cpt_cons2, if_pos rfl]
    rfl
  · obtain ⟨k, hk⟩ : ∃ k, C.m = k + 1 := ⟨C.m - 1, by omega⟩
    have hmid : C.mid 0 (C.ln C.m) = (List.range' 1 k).map C.P := by
      unfold Ch.mid
      rw [hk, List.range'_concat, List.filter_append]
      have e1 : (List.range' 1 k).filter (fun i => decide (0 < C.ln i) && decide (C.ln i < C.ln (k + 1))) = List.range' 1 k := by
        rw [List.filter_eq_self]
        intro i hi
        have hi' := List.mem_range'_1.1 hi
        have l1 := C.ln_inj 0 i (by omega) (by omega) (by omega)
        have l2 := C.ln_inj i (k + 1) (by omega) (by omega) (by omega)
        have : C.ln 0 = 0 := rfl
        simp only [Bool.and_eq_true, decide_eq_true_eq]
        omega
      rw [e1]
      have e2 : [1 + 1 * k].filter (fun i => decide (0 < C.ln i) && decide (C.ln i < C.ln (k + 1))) = [] := by
        rw [show 1 + 1 * k = k + 1 by omega]
        simp
      rw [e2, List.append_nil]
    have e : C.P 0 :: C.mid 0 (C.ln C.m) ++ [C.P C.m] = C.ends := by
      rw [hmid, hk]
      unfold Ch.ends
      rw [hk, List.range'_concat, List.range'_succ]
      simp
    rw [e]
    refine Apart.cpt ?_
    exact apart_range C.P (C.m + 1) 0 (fun i _ h => C.ne i (by omega))
/-- what is sorted parts at a place -/
theorem filter_split (f : Nat → Int) (p : Nat → Bool) (y : Int) : ∀ (L : List Nat), L.Pairwise (fun i j => f i ≤ f j) → L.filter p = L.filter (fun i => p i && decide (f i < y)) ++ L.filter (fun i => p i && decide (y ≤ f i))
  | [], _ => rfl
  | a :: L, h => by
    obtain ⟨h1, h2⟩ := List.pairwise_cons.1 h
    have ih := filter_split f p y L h2
    by_cases e : f a < y
    · have d1 : decide (f a < y) = true := by simpa using e
      have d2 : decide (y ≤ f a) = false := by simp; omega
      simp only [List.filter_cons, d1, d2, Bool.and_true, Bool.and_false]
      split
      · rw [List.cons_append, ih]; simp
      · simpa using ih
    · have d1 : decide (f a < y) = false := by simpa using e
      have d2 : decide (y ≤ f a) = true := by simp; omega
      have e0 : L.filter (fun i => p i && decide (f i < y)) = [] := by
        rw [List.filter_eq_nil_iff]
        intro i hi
        have := h1 i hi
        simp only [Bool.and_eq_true, decide_eq_true_eq]
        omega
      rw [e0, List.nil_append] at ih
      simp only [List.filter_cons, d1, d2, Bool.and_true, Bool.and_false, e0]
      split
      · rw [ih]; simp
      · simpa using ih
theorem sorted_range (s n : Nat) (h : ∀ i, i < s + n → i ≤ C.m) : (List.range' s n).Pairwise (fun i j => C.ln i ≤ C.ln j) := by
  have hp := List.pairwise_lt_range' (s := s) (n := n) (step := 1)
  refine List.Pairwise.imp_of_mem ?_ hp
  intro a b ha hb hab
  have hb' := List.mem_range'_1.1 hb
  exact C.ln_mono b a (by omega) (h b (by omega))
/-- the corners between, parted at a way that is no corner's -/
theorem Ch.mid_split (x y z : Int) (hxy : x ≤ y) (hyz : y ≤ z) (hno : ∀ i, 1 ≤ i → i ≤ C.m → x < y → y < z → C.ln i ≠ y) : C.mid x z = C.mid x y ++ C.mid y z := by
  unfold Ch.mid
  rw [filter_split C.ln _ y _ (sorted_range C 1 C.m (fun i hi => by omega)), List.map_append]
  congr 1
  · congr 1
    refine List.filter_congr fun i hi => ?_
    refine bool_eq ?_
    simp only [Bool.and_eq_true, decide_eq_true_eq]
    omega
  · congr 1
    refine List.filter_congr fun i hi => ?_
    have hi' := List.mem_range'_1.1 hi
    have := hno i (by omega) (by omega)
    refine bool_eq ?_
    simp only [Bool.and_eq_true, decide_eq_true_eq]
    constructor
    · rintro ⟨⟨h1, h2⟩, h3⟩
      refine ⟨?_, h2⟩
      rcases Int.lt_or_eq_of_le h3 with h | h
      · exact h
      · exact absurd h.symm (this (by omega) (by omega))
    · rintro ⟨h1, h2⟩
      exact ⟨⟨by omega, h2⟩, by omega⟩
theorem filter_one (q : Nat → Bool) (i0 : Nat) : ∀ (n s : Nat), s ≤ i0 → i0 < s + n → (∀ i, s ≤ i → i < s + n → (q i = true ↔ i = i0)) → (List.range' s n).filter q = [i0]
  | 0, s, h1, h2, h => by omega
  | n + 1, s, h1, h2, h => by
    rw [List.range'_succ, List.filter_cons]
    by_cases e : s = i0
    · subst e
      rw [if_pos ((h s (Nat.le_refl _) (by omega)).2 rfl)]
      have : (List.range' (s + 1) n).filter q = [] := by
        rw [List.filter_eq_nil_iff]
        intro i hi hq
        have hi' := List.mem_range'_1.1 hi
        have := (h i (by omega) (by omega)).1 hq
        omega
      rw [this]
    · have e' : ¬ q s = true := fun hq => e ((h s (Nat.le_refl _) (by omega)).1 hq)
      rw [if_neg e']
      exact filter_one q i0 n (s + 1) (by omega) (by omega) (fun i a b => h i (by omega) (by omega))
/-- parted at a corner -/
theorem Ch.mid_corner (x z : Int) (i0 : Nat) (h1 : 1 ≤ i0) (hm : i0 ≤ C.m) (hx : x < C.ln i0) (hz : C.ln i0 < z) : C.mid x z = C.mid x (C.ln i0) ++ C.P i0 :: C.mid (C.ln i0) z := by
  unfold Ch.mid
  rw [filter_split C.ln _ (C.ln i0) _ (sorted_range C 1 C.m (fun i hi => by omega)), List.map_append]
  congr 1
  · congr 1
    refine List.filter_congr fun i hi => ?_
    refine bool_eq ?_
    simp only [Bool.and_eq_true, decide_eq_true_eq]
    omega
  · rw [filter_split C.ln _ (C.ln i0 + 1) _ (sorted_range C 1 C.m (fun i hi => by omega)), List.map_append]
    have e1 : (List.range' 1 C.m).filter (fun i => (decide (x < C.ln i) && decide (C.ln i < z) && decide (C.ln i0 ≤ C.ln i)) && decide (C.ln i < C.ln i0 + 1)) = [i0] := by
      refine filter_one _ i0 C.m 1 h1 (by omega) (fun i a b => ?_)
      simp only [Bool.and_eq_true, decide_eq_true_eq]
      constructor
      · intro h
        rcases Nat.lt_trichotomy i i0 with k | k | k
        · have := C.ln_inj i i0 (by omega) hm k; omega
        · exact k
        · have := C.ln_inj i0 i hm (by omega) k; omega
      · rintro rfl
        omega
    rw [e1]
    refine congrArg (C.P i0 :: ·) (congrArg (List.map C.P) (List.filter_congr fun i hi => ?_))
    refine bool_eq ?_
    simp only [Bool.and_eq_true, decide_eq_true_eq]
    omega
/-- no corner between -/
theorem Ch.mid_none (x z : Int) (i : Nat) (hx : C.ln i ≤ x) (hz : z ≤ C.ln (i + 1)) (hi : i < C.m) : C.mid x z = [] := by
  unfold Ch.mid
  have : (List.range' 1 C.m).filter (fun i => decide (x < C.ln i) && decide (C.ln i < z)) = [] := by
    rw [List.filter_eq_nil_iff]
    intro j hj
    have hj' := List.mem_range'_1.1 hj
    simp only [Bool.and_eq_true, decide_eq_true_eq]
    rintro ⟨h1, h2⟩
    rcases Nat.lt_or_ge i j with k | k
    · have := C.ln_mono j (i + 1) (by omega) (by omega); omega
    · have := C.ln_mono i j (by omega) (by omega); omega
  rw [this]
  rfl
theorem Ch.mid_self (x : Int) : C.mid x x = [] := by
  unfold Ch.mid
  have : (List.range' 1 C.m).filter (fun i => decide (x < C.ln i) && decide (C.ln i < x)) = [] := by
    rw [List.filter_eq_nil_iff]
    intro j hj
    simp only [Bool.and_eq_true, decide_eq_true_eq]
    omega
  rw [this]
  rfl
/-- the corner, or the beginning, ahead of a place, and the one behind it: if they are the same, so is the place -/
theorem Ch.between (x y z : Int) (hx : 0 ≤ x) (hxy : x < y) (hyz : y < z) (hz : z ≤ C.ln C.m) (hno : ∀ i, 1 ≤ i → i ≤ C.m → C.ln i ≠ y) :
    ∃ u a b v, C.at x :: C.mid x y = u ++ [a] ∧ C.mid y z ++ [C.at z] = b :: v ∧ (a = b → C.at y = a) := by
  have hm : 0 < C.m := by
    rcases Nat.eq_zero_or_pos C.m with e | e
    · rw [e] at hz; have : C.ln 0 = 0 := rfl; omega
    · exact e
  obtain ⟨i1, i2, i3⟩ := C.idx_is y hm (by omega)
  generalize C.idx y = i at i1 i2 i3
  have li : C.ln i < y := by
    rcases Nat.eq_zero_or_pos i with e | e
    · subst e; have : C.ln 0 = 0 := rfl; omega
    · have := i3 (i - 1) (by omega); rwa [show i - 1 + 1 = i by omega] at this
  have lj : y < C.ln (i + 1) := by have := hno (i + 1) (by omega) (by omega); omega
  have dpi := C.dp i i1
  have ey : C.at y = wayP (C.P i) (C.P (i + 1)) (y - C.ln i) (C.d i) := C.at_in y i i1 (by omega) (by omega)
  have ha : ∃ u a k, C.at x :: C.mid x y = u ++ [a] ∧ a = wayP (C.P i) (C.P (i + 1)) k (C.d i) ∧ k ≤ y - C.ln i := by
    by_cases h : x < C.ln i
    · have i0 : 1 ≤ i := by
        rcases Nat.eq_zero_or_pos i with e | e
        · subst e; have : C.ln 0 = 0 := rfl; omega
        · exact e
      rw [C.mid_corner x y i i0 (by omega) h li, C.mid_none (C.ln i) y i (Int.le_refl _) (by omega) i1]
      exact ⟨C.at x :: C.mid x (C.ln i), C.P i, 0, rfl, (wayP_0 _ _ _ dpi).symm, by omega⟩
    · rw [C.mid_none x y i (by omega) (by omega) i1]
      exact ⟨[], C.at x, x - C.ln i, rfl, C.at_in x i i1 (by omega) (by omega), by omega⟩
  have hb : ∃ b v k, C.mid y z ++ [C.at z] = b :: v ∧ b = wayP (C.P i) (C.P (i + 1)) k (C.d i) ∧ y - C.ln i ≤ k := by
    by_cases h : C.ln (i + 1) < z
    · rw [C.mid_corner y z (i + 1) (by omega) (by omega) lj h, C.mid_none y (C.ln (i + 1)) i (by omega) (Int.le_refl _) i1]
      exact ⟨C.P (i + 1), _, C.d i, rfl, (wayP_n _ _ _ dpi).symm, by have := C.ln_s i; omega⟩
    · rw [C.mid_none y z i (by omega) (by omega) i1]
      exact ⟨C.at z, [], z - C.ln i, rfl, C.at_in z i i1 (by omega) (by omega), by omega⟩
  obtain ⟨u, a, k, h1, h2, h3⟩ := ha
  obtain ⟨b, v, k', h4, h5, h6⟩ := hb
  refine ⟨u, a, b, v, h1, h4, fun e => ?_⟩
  rw [ey, h2]
  rw [h2, h5] at e
  exact wayP_same _ _ _ _ _ _ dpi h3 h6 e
/-- two parts, one behind the other -/
theorem Ch.cut_parts (x y z : Int) (hx : 0 ≤ x) (hxy : x ≤ y) (hyz : y ≤ z) (hz : z ≤ C.ln C.m) :
    (C.cut x z).Sublist (C.cut x y ++ (C.cut y z).tail) ∧ (C.cut x y ++ (C.cut y z).tail).length ≤ (C.cut x z).length + 1 := by
  have got : C.cut x y ++ (C.cut y z).tail = cpt (C.at x :: C.mid x y ++ C.at y :: (C.mid y z ++ [C.at z])) := by
    unfold Ch.cut
    exact cpt_mid (C.at x :: C.mid x y) (C.at y) (C.mid y z ++ [C.at z])
  rw [got]
  by_cases hc : ∃ i0, 1 ≤ i0 ∧ i0 ≤ C.m ∧ x < y ∧ y < z ∧ C.ln i0 = y
  · obtain ⟨i0, h1, h2, h3, h4, rfl⟩ := hc
    have e : C.cut x z = cpt (C.at x :: C.mid x (C.ln i0) ++ C.at (C.ln i0) :: (C.mid (C.ln i0) z ++ [C.at z])) := by
      unfold Ch.cut
      rw [C.mid_corner x z i0 h1 h2 h3 h4, C.at_ln i0 h2]
      simp
    rw [e]
    exact ⟨List.Sublist.refl _, by omega⟩
  · have hsp := C.mid_split x y z hxy hyz (fun i h1 h2 h3 h4 h5 => hc ⟨i, h1, h2, h3, h4, h5⟩)
    have e : C.cut x z = cpt (C.at x :: C.mid x y ++ (C.mid y z ++ [C.at z])) := by
      unfold Ch.cut
      rw [hsp]
      simp
    rw [e]
    have key : ∃ u a b v, C.at x :: C.mid x y = u ++ [a] ∧ C.mid y z ++ [C.at z] = b :: v ∧ (a = b → C.at y = a) := by
      rcases Int.lt_or_eq_of_le hxy with h | h
      · rcases Int.lt_or_eq_of_le hyz with h' | h'
        · exact C.between x y z hx h h' hz (fun i h1 h2 h5 => hc ⟨i, h1, h2, h, h', h5⟩)
        · subst h'
          have hne : C.at x :: C.mid x y ≠ [] := by simp
          refine ⟨_, _, C.at y, [], (List.dropLast_concat_getLast hne).symm, by rw [C.mid_self]; rfl, fun e => e.symm⟩
      · subst h
        have hne : C.mid x z ++ [C.at z] ≠ [] := by simp
        cases hh : C.mid x z ++ [C.at z] with
        | nil => exact absurd hh hne
        | cons b v => exact ⟨[], C.at x, b, v, by rw [C.mid_self]; rfl, rfl, fun _ => rfl⟩
    obtain ⟨u, a, b, v, h1, h2, h3⟩ := key
    rw [h1, h2]
    have := cpt_more u a (C.at y) b v h3
    simpa using this
/-- turned back -/
theorem Ch.back_ln (C' : Ch) (hm : C'.m = C.m) (hd : ∀ i, i < C.m → C'.d i = C.d (C.m - 1 - i)) : ∀ i, i ≤ C.m → C'.ln i = C.ln C.m - C.ln (C.m - i)
  | 0, _ => by have : C'.ln 0 = 0 := rfl
               rw [Nat.sub_zero]; omega
  | i + 1, h => by
    have ih := Ch.back_ln C' hm hd i (by omega)
    have s1 := C'.ln_s i
    have s2 := C.ln_s (C.m - 1 - i)
    have hd' := hd i (by omega)
    rw [show C.m - 1 - i + 1 = C.m - i by omega] at s2
    rw [show C.m - (i + 1) = C.m - 1 - i by omega]
    omega
theorem Ch.back_at (C' : Ch) (hm : C'.m = C.m) (hP : ∀ i, i ≤ C.m → C'.P i = C.P (C.m - i)) (hd : ∀ i, i < C.m → C'.d i = C.d (C.m - 1 - i)) (x : Int) (h0 : 0 ≤ x) (h1 : x ≤ C.ln C.m) : C'.at (C.ln C.m - x) = C.at x := by
  by_cases e : C.m = 0
  · unfold Ch.at
    rw [if_pos e, if_pos (by omega), hP 0 (by omega), e]
  · obtain ⟨i1, i2, i3⟩ := C.idx_is x (by omega) h1
    generalize C.idx x = i at i1 i2 i3
    have li : C.ln i ≤ x := by
      rcases Nat.eq_zero_or_pos i with e | e
      · subst e; exact h0
      · have := i3 (i - 1) (by omega); rw [show i - 1 + 1 = i by omega] at this; omega
    have b1 := Ch.back_ln C C' hm hd (C.m - 1 - i) (by omega)
    have b2 := Ch.back_ln C C' hm hd (C.m - 1 - i + 1) (by omega)
    rw [show C.m - (C.m - 1 - i) = i + 1 by omega] at b1
    rw [show C.m - (C.m - 1 - i + 1) = i by omega] at b2
    rw [C.at_in x i i1 li i2, C'.at_in (C.ln C.m - x) (C.m - 1 - i) (by omega) (by omega) (by omega), hP (C.m - 1 - i) (by omega), hP (C.m - 1 - i + 1) (by omega), hd (C.m - 1 - i) (by omega), b1]
    rw [show C.m - (C.m - 1 - i) = i + 1 by omega, show C.m - (C.m - 1 - i + 1) = i by omega, show C.m - 1 - (C.m - 1 - i) = i by omega]
    have s := C.ln_s i
    rw [show C.ln C.m - x - (C.ln C.m - C.ln (i + 1)) = C.d i - (x - C.ln i) by omega]
    exact wayP_back _ _ _ _ (C.dp i i1)
end Go.Proofs.Ytcdnekhpeghkiaa
