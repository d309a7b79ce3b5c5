/-
  Chains, plain words: corners, lengths, the point at any way, and parts.
-/
import Derived.Test.YtcdnekhpeghkiaaKB
import Derived.Test.YtcdnekhpeghkiaaCP
namespace Go.Proofs.Ytcdnekhpeghkiaa
set_option linter.unusedVariables false

def way (p z k n : Int) : Int := p + nrst ((z - p) * k) n
def wayP (a b : Int × Int) (k n : Int) : Int × Int := (way a.1 b.1 k n, way a.2 b.2 k n)
theorem way_0 (p z n : Int) (hn : 1 ≤ n) : way p z 0 n = p := by unfold way; rw [Int.mul_zero, nrst_zero n (by omega)]; omega
theorem way_n (p z n : Int) (hn : 1 ≤ n) : way p z n n = z := by unfold way; rw [nrst_mul _ n (by omega)]; omega
theorem way_up (p z k k' n : Int) (hn : 1 ≤ n) (h : p ≤ z) (hk : k ≤ k') : way p z k n ≤ way p z k' n := by
  unfold way
  have := nrst_mono ((z - p) * k) ((z - p) * k') n (by omega) (Int.mul_le_mul_of_nonneg_left hk (by omega))
  omega
theorem way_dn (p z k k' n : Int) (hn : 1 ≤ n) (h : z ≤ p) (hk : k ≤ k') : way p z k' n ≤ way p z k n := by
  unfold way
  have := nrst_mono ((z - p) * k') ((z - p) * k) n (by omega) (Int.mul_le_mul_of_nonpos_left (by omega) hk)
  omega
theorem way_back (p z k n : Int) (hn : 1 ≤ n) : way z p (n - k) n = way p z k n := by
  unfold way
  have e : (p - z) * (n - k) = (z - p) * k + (p - z) * n := by
    rw [Int.mul_sub, Int.sub_mul, Int.sub_mul, Int.sub_mul]
    omega
  rw [e, nrst_shift _ _ _ (by omega)]
  omega
theorem wayP_0 (a b : Int × Int) (n : Int) (hn : 1 ≤ n) : wayP a b 0 n = a := by unfold wayP; rw [way_0 _ _ n hn, way_0 _ _ n hn]
theorem wayP_n (a b : Int × Int) (n : Int) (hn : 1 ≤ n) : wayP a b n n = b := by unfold wayP; rw [way_n _ _ n hn, way_n _ _ n hn]
theorem wayP_back (a b : Int × Int) (k n : Int) (hn : 1 ≤ n) : wayP b a (n - k) n = wayP a b k n := by unfold wayP; rw [way_back _ _ k n hn, way_back _ _ k n hn]
theorem way_same (p z k k' k'' n : Int) (hn : 1 ≤ n) (h1 : k ≤ k') (h2 : k' ≤ k'') (h : way p z k n = way p z k'' n) : way p z k' n = way p z k n := by
  rcases Int.le_total p z with hz | hz
  · have a := way_up p z k k' n hn hz h1
    have b := way_up p z k' k'' n hn hz h2
    omega
  · have a := way_dn p z k k' n hn hz h1
    have b := way_dn p z k' k'' n hn hz h2
    omega
/-- between two that are the same on one way, all are the same -/
theorem wayP_same (a b : Int × Int) (k k' k'' n : Int) (hn : 1 ≤ n) (h1 : k ≤ k') (h2 : k' ≤ k'') (h : wayP a b k n = wayP a b k'' n) : wayP a b k' n = wayP a b k n := by
  unfold wayP at *
  have e1 := congrArg Prod.fst h
  have e2 := congrArg Prod.snd h
  rw [way_same _ _ k k' k'' n hn h1 h2 e1, way_same _ _ k k' k'' n hn h1 h2 e2]

/-- a chain: its corners, how many chords, how long each one is -/
structure Ch where
  m : Nat
  P : Nat → Int × Int
  d : Nat → Int
  dp : ∀ i, i < m → 1 ≤ d i
  ne : ∀ i, i < m → P i ≠ P (i + 1)
def Ch.ln (C : Ch) : Nat → Int
  | 0 => 0
  | i + 1 => C.ln i + C.d i
theorem Ch.ln_s (C : Ch) (i : Nat) : C.ln (i + 1) = C.ln i + C.d i := rfl
theorem Ch.ln_lt (C : Ch) (i : Nat) (h : i < C.m) : C.ln i < C.ln (i + 1) := by have := C.dp i h; have := C.ln_s i; omega
theorem Ch.ln_mono (C : Ch) : ∀ (j i : Nat), i ≤ j → j ≤ C.m → C.ln i ≤ C.ln j
  | 0, i, h, _ => by have : i = 0 := by omega
                     subst this; omega
  | j + 1, i, h, hj => by
    by_cases e : i = j + 1
    · subst e; omega
    · have := C.ln_mono j i (by omega) (by omega)
      have := C.ln_lt j (by omega)
      omega
theorem Ch.ln_pos (C : Ch) (i : Nat) (h : i ≤ C.m) : 0 ≤ C.ln i := by have := C.ln_mono i 0 (by omega) h; exact this
theorem Ch.ln_inj (C : Ch) (i j : Nat) (hi : i ≤ C.m) (hj : j ≤ C.m) (h : i < j) : C.ln i < C.ln j := by
  have := C.ln_lt i (by omega)
  have := C.ln_mono j (i + 1) (by omega) hj
  omega
/-- the first chord, from i on, that ends no less far than x -/
def fst' (f : Nat → Int) (x : Int) : Nat → Nat → Nat
  | 0, i => i
  | k + 1, i => if x ≤ f (i + 1) then i else fst' f x k (i + 1)
def Ch.idx (C : Ch) (x : Int) : Nat := fst' C.ln x (C.m - 1) 0
theorem fst'_is (f : Nat → Int) (x : Int) : ∀ (k i : Nat), x ≤ f (i + k + 1) → i ≤ fst' f x k i ∧ fst' f x k i ≤ i + k ∧ x ≤ f (fst' f x k i + 1) ∧ ∀ j, i ≤ j → j < fst' f x k i → f (j + 1) < x
  | 0, i, h => ⟨Nat.le_refl _, Nat.le_refl _, by simpa [fst'] using h, fun j h1 h2 => by simp only [fst'] at h2; omega⟩
  | k + 1, i, h => by
    unfold fst'
    by_cases e : x ≤ f (i + 1)
    · rw [if_pos e]
      exact ⟨Nat.le_refl _, by omega, e, fun j h1 h2 => by omega⟩
    · rw [if_neg e]
      obtain ⟨a, b, c, d⟩ := fst'_is f x k (i + 1) (by rw [show i + 1 + k + 1 = i + (k + 1) + 1 by omega]; exact h)
      refine ⟨by omega, by omega, c, fun j h1 h2 => ?_⟩
      by_cases e' : j = i
      · subst e'; omega
      · exact d j (by omega) h2
theorem Ch.idx_is (C : Ch) (x : Int) (hm : 0 < C.m) (hx : x ≤ C.ln C.m) : C.idx x < C.m ∧ x ≤ C.ln (C.idx x + 1) ∧ ∀ j, j < C.idx x → C.ln (j + 1) < x := by
  obtain ⟨_, b, c, d⟩ := fst'_is C.ln x (C.m - 1) 0 (by rw [show 0 + (C.m - 1) + 1 = C.m by omega]; exact hx)
  exact ⟨by unfold Ch.idx; omega, c, fun j h => d j (by omega) h⟩
theorem Ch.idx_eq (C : Ch) (x : Int) (i : Nat) (hi : i < C.m) (h1 : x ≤ C.ln (i + 1)) (h2 : i = 0 ∨ C.ln i < x) : C.idx x = i := by
  have hx : x ≤ C.ln C.m := by have := C.ln_mono C.m (i + 1) (by omega) (by omega); omega
  obtain ⟨a, b, c⟩ := C.idx_is x (by omega) hx
  rcases Nat.lt_or_ge (C.idx x) i with h | h
  · have := C.ln_mono i (C.idx x + 1) (by omega) (by omega)
    rcases h2 with h2 | h2 <;> omega
  · rcases Nat.lt_or_ge i (C.idx x) with h' | h'
    · have := c i h'; omega
    · omega
/-- where the chain is at so much of its way -/
def Ch.at (C : Ch) (x : Int) : Int × Int := if C.m = 0 then C.P 0 else wayP (C.P (C.idx x)) (C.P (C.idx x + 1)) (x - C.ln (C.idx x)) (C.d (C.idx x))
theorem Ch.at_in (C : Ch) (x : Int) (i : Nat) (hi : i < C.m) (h1 : C.ln i ≤ x) (h2 : x ≤ C.ln (i + 1)) : C.at x = wayP (C.P i) (C.P (i + 1)) (x - C.ln i) (C.d i) := by
  unfold Ch.at
  rw [if_neg (by omega)]
  by_cases e : i = 0 ∨ C.ln i < x
  · rw [C.idx_eq x i hi h2 e]
  · have ex : x = C.ln i := by omega
    obtain ⟨k, rfl⟩ : ∃ k, i = k + 1 := ⟨i - 1, by omega⟩
    have hk := C.ln_lt k (by omega)
    rw [C.idx_eq x k (by omega) (by omega) (by omega)]
    subst ex
    rw [show C.ln (k + 1) - C.ln k = C.d k by have := C.ln_s k; omega, wayP_n _ _ _ (C.dp k (by omega)), show C.ln (k + 1) - C.ln (k + 1) = 0 by omega, wayP_0 _ _ _ (C.dp (k + 1) hi)]
theorem Ch.at_ln (C : Ch) (i : Nat) (hi : i ≤ C.m) : C.at (C.ln i) = C.P i := by
  by_cases hm : C.m = 0
  · have : i = 0 := by omega
    subst this
    unfold Ch.at
    rw [if_pos hm]
  · by_cases h : i < C.m
    · rw [C.at_in _ i h (by omega) (by have := C.ln_lt i h; omega), show C.ln i - C.ln i = 0 by omega, wayP_0 _ _ _ (C.dp i h)]
    · obtain ⟨k, rfl⟩ : ∃ k, i = k + 1 := ⟨i - 1, by omega⟩
      have hk := C.ln_lt k (by omega)
      rw [C.at_in _ k (by omega) (by omega) (by omega), show C.ln (k + 1) - C.ln k = C.d k by have := C.ln_s k; omega, wayP_n _ _ _ (C.dp k (by omega))]
/-- a way that the chain has -/
def Ch.held (C : Ch) (x : Int) : Int := max 0 (min x (C.ln C.m))
theorem Ch.held_in (C : Ch) (x : Int) : 0 ≤ C.held x ∧ C.held x ≤ C.ln C.m := by
  have := C.ln_pos C.m (Nat.le_refl _)
  unfold Ch.held
  omega
/-- the corners whose way lies between -/
def Ch.mid (C : Ch) (x z : Int) : List (Int × Int) := ((List.range' 1 C.m).filter fun i => decide (x < C.ln i) && decide (C.ln i < z)).map C.P
def Ch.cut (C : Ch) (x z : Int) : List (Int × Int) := cpt (C.at x :: C.mid x z ++ [C.at z])
end Go.Proofs.Ytcdnekhpeghkiaa
