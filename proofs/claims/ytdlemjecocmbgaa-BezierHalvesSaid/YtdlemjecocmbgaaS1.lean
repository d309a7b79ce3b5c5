/-
  A slice that a function hands back, opened; the law's own small case (layer 10).
-/
import Derived.Test.YtdlemjecocmbgaaKE
import Derived.Test.YtdlemjecocmbgaaG2
import Derived.Lib.SmallJoins
namespace Go.Proofs.Ytdlemjecocmbgaa
set_option linter.unusedVariables false
open Go.RowKit

/-- what a slice of its own looks like that is not empty -/
theorem SliceRet.opens {w : World} {T : TypeId} {n : Nat} {xs : List Value} {e : Ending} {w' : World} (h : SliceRet w T 2 n xs e w') (hn : 0 < n) :
    ∃ (g cap : Nat) (x : Later w), e = .returned (.slice (some ⟨g, 0, none⟩) n cap) ∧ w' = x.out ∧ w.heap.size ≤ g ∧ g < x.out.heap.size ∧ (∀ j, j < n * 2 → x.out.cell? ⟨g, j, none⟩ = xs[j]?) := by
  obtain ⟨o, rfl, own, x, rfl⟩ := h
  obtain ⟨g, cap, rfl⟩ := Go.Joins.ownsRow_form own hn
  have hl := own.lt g rfl
  exact ⟨g, cap, x, rfl, rfl, hl.1, hl.2, fun j hj => own.cellAt j hj⟩
theorem fl_x : ∀ (l : List (Int × Int)) (i : Nat) (p : Int × Int), l[i]? = some p → (fl l)[i * 2]? = some (.int .i64 p.1) ∧ (fl l)[i * 2 + 1]? = some (.int .i64 p.2)
  | [], i, p, h => by simp at h
  | q :: l, 0, p, h => by
    have : q = p := by simpa using h
    subst this
    exact ⟨rfl, rfl⟩
  | q :: l, i + 1, p, h => by
    have k := fl_x l i p (by simpa using h)
    rw [show (i + 1) * 2 = i * 2 + 1 + 1 by omega]
    exact k
def e10 : En := fun i => if i = 2 ∨ i = 4 ∨ i = 5 then 400 else if i = 8 then 3 else 0
theorem e10_good : GoodE e10 := goodB_good e10 (by decide) (by decide)
theorem e10_a : (flat 60).all e10 = [(300, 100), (400, 400)] := by kernel_rfl
theorem e10_b : (flat 300).all e10 = [(400, 400)] := by kernel_rfl

end Go.Proofs.Ytdlemjecocmbgaa
