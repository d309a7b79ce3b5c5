/-
  A chain of points that are near, as the plain words have it.
-/
import Derived.Test.YtcdnekhpeghkiaaCHL
import Derived.Test.YtcdnekhpeghkiaaKB
namespace Go.Proofs.Ytcdnekhpeghkiaa
set_option linter.unusedVariables false

theorem sqNN (x : Int) : 0 ≤ x * x := by
  rcases Int.le_total 0 x with h | h
  · exact Int.mul_nonneg h h
  · exact Int.mul_nonneg_of_nonpos_of_nonpos h h
/-- how far two points are -/
noncomputable def dst (a b : Int × Int) : Int := isq ((b.1 - a.1) * (b.1 - a.1) + (b.2 - a.2) * (b.2 - a.2))
theorem dst_root (a b : Int × Int) : IsRoot ((b.1 - a.1) * (b.1 - a.1) + (b.2 - a.2) * (b.2 - a.2)) (dst a b) := by
  have n1 := sqNN (b.1 - a.1)
  have n2 := sqNN (b.2 - a.2)
  exact isq_is _ (by omega)
theorem dst_sym (a b : Int × Int) : dst b a = dst a b := by
  unfold dst
  rw [show a.1 - b.1 = -(b.1 - a.1) by omega, show a.2 - b.2 = -(b.2 - a.2) by omega, Int.neg_mul_neg, Int.neg_mul_neg]
theorem sq_pos (x : Int) (h : x ≠ 0) : 1 ≤ x * x := by
  rcases Int.lt_or_gt_of_ne h with k | k
  · have := Int.mul_le_mul (show 1 ≤ -x by omega) (show 1 ≤ -x by omega) (by omega) (by omega)
    rw [Int.neg_mul_neg] at this
    omega
  · have := Int.mul_le_mul (show 1 ≤ x by omega) (show 1 ≤ x by omega) (by omega) (by omega)
    omega
theorem dst_pos (a b : Int × Int) (h : a ≠ b) : 1 ≤ dst a b := by
  have R := dst_root a b
  have n1 := sqNN (b.1 - a.1)
  have n2 := sqNN (b.2 - a.2)
  have hs : 1 ≤ (b.1 - a.1) * (b.1 - a.1) + (b.2 - a.2) * (b.2 - a.2) := by
    by_cases h1 : b.1 - a.1 = 0
    · have h2 : b.2 - a.2 ≠ 0 := fun e => h (Prod.ext (by omega) (by omega))
      have := sq_pos _ h2
      omega
    · have := sq_pos _ h1
      omega
  rcases Int.lt_or_le (dst a b) 1 with k | k
  · have r0 := R.r0
    have : dst a b = 0 := by omega
    have lt := R.lt
    rw [this] at lt
    omega
  · exact k
/-- near as the chain's own law has it -/
def nearP (p : Int × Int) : Prop := (-268435456 ≤ p.1 ∧ p.1 ≤ 268435456) ∧ (-268435456 ≤ p.2 ∧ p.2 ≤ 268435456)
theorem dst_le (a b : Int × Int) (ha : nearP a) (hb : nearP b) : dst a b ≤ 2147483648 := by
  unfold nearP at ha hb
  have R := dst_root a b
  have b1 : ∀ x : Int, -536870912 ≤ x → x ≤ 536870912 → x * x ≤ 288230376151711744 := fun x h1 h2 => Int.mul_le_mul_of_natAbs_le (x := x) (y := x) (s := 536870912) (t := 536870912) (by omega) (by omega)
  have m1 := b1 (b.1 - a.1) (by omega) (by omega)
  have m2 := b1 (b.2 - a.2) (by omega) (by omega)
  rcases Int.lt_or_le 2147483648 (dst a b) with k | k
  · have lo := R.le
    have := Int.mul_le_mul (show (2147483648 : Int) ≤ dst a b by omega) (show (2147483648 : Int) ≤ dst a b by omega) (by omega) (by omega)
    omega
  · exact k
/-- a chain as the chapter has it -/
structure GoodC (cl : Bool) (pts : List (Int × Int)) : Prop where
  n1 : 1 ≤ pts.length
  n9 : pts.length ≤ 100
  near : ∀ p ∈ pts, nearP p
  apart : ∀ i a b, pts[i]? = some a → pts[i + 1]? = some b → a ≠ b
  shut : cl = true → 1 < pts.length → pts.getLast? ≠ pts.head?
/-- its corners, round and round -/
def cor (pts : List (Int × Int)) (i : Nat) : Int × Int := pts.getD (i % pts.length) (0, 0)
def mch (cl : Bool) (pts : List (Int × Int)) : Nat := if cl = true ∧ 1 < pts.length then pts.length else pts.length - 1
theorem cor_at (pts : List (Int × Int)) (i : Nat) (h : i < pts.length) : pts[i]? = some (cor pts i) := by
  unfold cor
  rw [Nat.mod_eq_of_lt h, List.getD_eq_getElem?_getD, List.getElem?_eq_getElem h]
  rfl
theorem cor_len (pts : List (Int × Int)) : cor pts pts.length = cor pts 0 := by
  unfold cor
  rw [Nat.mod_self, Nat.zero_mod]
theorem cor_mem (pts : List (Int × Int)) (i : Nat) (h : 1 ≤ pts.length) : cor pts i ∈ pts := by
  unfold cor
  have : i % pts.length < pts.length := Nat.mod_lt _ (by omega)
  rw [List.getD_eq_getElem?_getD, List.getElem?_eq_getElem this]
  exact List.getElem_mem this
theorem GoodC.ne {cl : Bool} {pts : List (Int × Int)} (g : GoodC cl pts) (i : Nat) (hi : i < mch cl pts) : cor pts i ≠ cor pts (i + 1) := by
  have n1 := g.n1
  unfold mch at hi
  by_cases h : i + 1 < pts.length
  · exact g.apart i _ _ (cor_at pts i (by omega)) (cor_at pts (i + 1) h)
  · split at hi
    · rename_i hc
      have e : i + 1 = pts.length := by omega
      have hs := g.shut hc.1 hc.2
      rw [List.getLast?_eq_getElem?, List.head?_eq_getElem?, show pts.length - 1 = i by omega, cor_at pts i (by omega), cor_at pts 0 (by omega)] at hs
      rw [e, cor_len]
      exact fun k => hs (by rw [k])
    · omega
noncomputable def GoodC.ch {cl : Bool} {pts : List (Int × Int)} (g : GoodC cl pts) : Ch where
  m := mch cl pts
  P := cor pts
  d := fun i => dst (cor pts i) (cor pts (i + 1))
  dp := fun i hi => dst_pos _ _ (g.ne i hi)
  ne := fun i hi => g.ne i hi
theorem GoodC.ln_le {cl : Bool} {pts : List (Int × Int)} (g : GoodC cl pts) : ∀ i : Nat, g.ch.ln i ≤ 2147483648 * i
  | 0 => by show (0 : Int) ≤ _; omega
  | i + 1 => by
    have ih := g.ln_le i
    have := dst_le (cor pts i) (cor pts (i + 1)) (g.near _ (cor_mem pts i g.n1)) (g.near _ (cor_mem pts (i + 1) g.n1))
    have e : g.ch.ln (i + 1) = g.ch.ln i + dst (cor pts i) (cor pts (i + 1)) := rfl
    omega
theorem GoodC.m_le {cl : Bool} {pts : List (Int × Int)} (g : GoodC cl pts) : g.ch.m ≤ 100 := by
  show mch cl pts ≤ 100
  have := g.n9
  unfold mch
  split <;> omega
/-- the chain's ends are its corners, and the first one once more if it is closed -/
theorem GoodC.ends {cl : Bool} {pts : List (Int × Int)} (g : GoodC cl pts) : g.ch.ends = if cl = true ∧ 1 < pts.length then pts ++ [cor pts 0] else pts := by
  have n1 := g.n1
  have base : (List.range' 0 pts.length).map (cor pts) = pts := by
    apply List.ext_getElem?
    intro i
    rw [List.getElem?_map]
    by_cases h : i < pts.length
    · rw [List.getElem?_range' h, cor_at pts i h]
      simp
    · rw [List.getElem?_eq_none (by simpa using h), List.getElem?_eq_none (by omega)]
      rfl
  unfold Ch.ends
  show (List.range' 0 (mch cl pts + 1)).map (cor pts) = _
  unfold mch
  split
  · rw [List.range'_concat, List.map_append, base]
    simp [cor_len]
  · rw [show pts.length - 1 + 1 = pts.length by omega, base]
/-- the same chain, turned back -/
theorem GoodC.back {pts : List (Int × Int)} (g : GoodC false pts) : GoodC false pts.reverse where
  n1 := by simpa using g.n1
  n9 := by simpa using g.n9
  near := fun p hp => g.near p (by simpa using hp)
  apart := fun i a b ha hb => by
    have hi : i + 1 < pts.length := by have := (List.getElem?_eq_some_iff.1 hb).1; simpa using this
    rw [List.getElem?_reverse (by omega)] at ha
    rw [List.getElem?_reverse (by omega)] at hb
    have hb' : pts[pts.length - 1 - (i + 1)]? = some b := hb
    have ha' : pts[pts.length - 1 - (i + 1) + 1]? = some a := by rw [show pts.length - 1 - (i + 1) + 1 = pts.length - 1 - i by omega]; exact ha
    exact fun e => g.apart _ _ _ hb' ha' e.symm
  shut := fun h => by cases h
theorem cor_back (pts : List (Int × Int)) (i : Nat) (h : i < pts.length) : cor pts.reverse i = cor pts (pts.length - 1 - i) := by
  have a := cor_at pts.reverse i (by simpa using h)
  have b := cor_at pts (pts.length - 1 - i) (by omega)
  rw [List.getElem?_reverse h, b] at a
  exact (Option.some.inj a).symm
theorem GoodC.back_at {pts : List (Int × Int)} (g : GoodC false pts) (x : Int) (h0 : 0 ≤ x) (h1 : x ≤ g.ch.ln g.ch.m) : g.back.ch.at (g.ch.ln g.ch.m - x) = g.ch.at x ∧ g.back.ch.ln g.back.ch.m = g.ch.ln g.ch.m := by
  have n1 := g.n1
  have hm : g.ch.m = pts.length - 1 := rfl
  have hm' : g.back.ch.m = g.ch.m := by show mch false pts.reverse = mch false pts; unfold mch; simp
  have hP : ∀ i, i ≤ g.ch.m → g.back.ch.P i = g.ch.P (g.ch.m - i) := fun i hi => cor_back pts i (by omega)
  have hd : ∀ i, i < g.ch.m → g.back.ch.d i = g.ch.d (g.ch.m - 1 - i) := fun i hi => by
    show dst (cor pts.reverse i) (cor pts.reverse (i + 1)) = dst (cor pts (g.ch.m - 1 - i)) (cor pts (g.ch.m - 1 - i + 1))
    rw [cor_back pts i (by omega), cor_back pts (i + 1) (by omega), dst_sym, hm]
    congr 2
    · omega
    · omega
  refine ⟨Ch.back_at g.ch g.back.ch hm' hP hd x h0 h1, ?_⟩
  have := Ch.back_ln g.ch g.back.ch hm' hd g.ch.m (Nat.le_refl _)
  rw [hm', this, Nat.sub_self]
  have : g.ch.ln 0 = 0 := rfl
  omega
end Go.Proofs.Ytcdnekhpeghkiaa
