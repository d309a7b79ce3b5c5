/-
  The shifted segment that a law makes, in a loop over its points; the law of shifted chords, walked.
-/
import Derived.Test.YtdlemjecocmbgaaS1
namespace Go.Proofs.Ytdlemjecocmbgaa
set_option linter.unusedVariables false
open Go.RowKit

/-- the first k points shifted -/
def shk (a b : Int) (k : Nat) (s : En) : En := fun i => if i < 2 * k then wrap64 (s i + (if i % 2 = 0 then a else b)) else s i
/-- all of them -/
def shw (a b : Int) (s : En) : En := fun i => if i < 8 ∧ ((i / 2 : Nat) : Int) < s 8 then wrap64 (s i + (if i % 2 = 0 then a else b)) else s i
theorem shk_shw (a b : Int) (s : En) (k : Nat) (hk : k ≤ 4) (h0 : k = 0 ∨ (k : Int) ≤ s 8) (h1 : k = 4 ∨ s 8 ≤ (k : Int)) : shk a b k s = shw a b s := by
  funext i
  unfold shk shw
  by_cases h : i < 2 * k
  · rw [if_pos h, if_pos (show i < 8 ∧ ((i / 2 : Nat) : Int) < s 8 from ⟨by omega, by omega⟩)]
  · rw [if_neg h, if_neg (by omega)]
theorem shk_0 (a b : Int) (s : En) : shk a b 0 s = s := by funext i; simp [shk]
theorem shw_shf (a b : Int) (s : En) (g : GoodE s) (a1 : -536870912 ≤ a) (a2 : a ≤ 536870912) (b1 : -536870912 ≤ b) (b2 : b ≤ 536870912) : shw a b s = shf a b s := by
  funext i
  have hn : (nn s : Int) = s 8 := by rcases nn_of g with k | k | k <;> omega
  unfold shw shf
  by_cases h : i < 8 ∧ i / 2 < nn s
  · rw [if_pos h, if_pos (show i < 8 ∧ ((i / 2 : Nat) : Int) < s 8 from ⟨h.1, by omega⟩)]
    have := g.bd i h.1
    exact w64_in _ (by unfold R64; split <;> omega)
  · rw [if_neg h, if_neg (by omega)]
/-- the ends of the chords, and those of the shifted ones, side by side -/
theorem flat_at (t a b : Int) (s : En) (g : GoodE s) (k : Nat) (hk : k < ((flat t).all s).length) : ∃ p q : Int, ((flat t).all s)[k]? = some (p, q) ∧ ((flat t).all (shf a b s))[k]? = some (p + a, q + b) ∧ -268435456 ≤ p ∧ p ≤ 268435456 ∧ -268435456 ≤ q ∧ q ≤ 268435456 := by
  have h := flat_bd t s g _ (List.getElem_mem hk)
  refine ⟨((flat t).all s)[k].1, ((flat t).all s)[k].2, by rw [List.getElem?_eq_getElem hk], ?_, h.1.1, h.1.2, h.2.1, h.2.2⟩
  rw [flat_shf t a b s g, List.getElem?_map, List.getElem?_eq_getElem hk]
  rfl
theorem flat_lastk (t : Int) (s : En) (g : GoodE s) (m : Nat) (hm : ((flat t).all s).length = m + 1) : ((flat t).all s)[m]? = some (enP s) := by
  have := flat_last t s g
  rw [List.getLast?_eq_getElem?, hm] at this
  simpa using this


end Go.Proofs.Ytdlemjecocmbgaa
