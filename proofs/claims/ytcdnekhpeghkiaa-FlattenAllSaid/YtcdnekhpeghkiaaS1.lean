/-
  A slice that a function hands back, opened; the law's own small case (layer 10).
-/
import Derived.Test.YtcdnekhpeghkiaaKE
import Derived.Test.YtcdnekhpeghkiaaG2
import Derived.Lib.SmallJoins
namespace Go.Proofs.Ytcdnekhpeghkiaa
set_option linter.unusedVariables false
open Go.RowKit

/-- what a slice of its own looks like that is not empty -/
theorem SliceRet.opens {w : World} {T : TypeId} {n : Nat} {xs : List Value} {e : Ending} {w' : World} (h : SliceRet w T 2 n xs e w') (hn : 0 < n) :
    ∃ (g cap : Nat) (x : Later w), e = .returned (.slice (some ⟨g, 0, none⟩) n cap) ∧ w' = x.out ∧ w.heap.size ≤ g ∧ g < x.out.heap.size ∧ (∀ j, j < n * 2 → x.out.cell? ⟨g, j, none⟩ = xs[j]?) := by
  obtain ⟨o, rfl, own, x, rfl⟩ := h
  obtain ⟨g, cap, rfl⟩ := Go.Joins.ownsRow_form own hn
  have hl := own.lt g rfl
  exact ⟨g, cap, x, rfl, rfl, hl.1, hl.2, fun j hj => own.cellAt j hj⟩
theorem fl_x : ∀ (l : List (Int × Int)) (i : Nat) (p : Int × Int), l[i]? = some p → (fl l)[i * 2]? = some (.int .i64 p.1) ∧ (fl l)[i * 2 + 1]? = some (.int .i64 p.2)
  | [], i, p, h => by simp at h
  | q :: l, 0, p, h => by
    have : q = p := by simpa using h
    subst this
    exact ⟨rfl, rfl⟩
  | q :: l, i + 1, p, h => by
    have k := fl_x l i p (by simpa using h)
    rw [show (i + 1) * 2 = i * 2 + 1 + 1 by omega]
    exact k
def e10 : En := fun i => if i = 2 ∨ i = 4 ∨ i = 5 then 400 else if i = 8 then 3 else 0
theorem e10_good : GoodE e10 := goodB_good e10 (by decide) (by decide)
theorem e10_a : (flat 60).all e10 = [(300, 100), (400, 400)] := by kernel_rfl
theorem e10_b : (flat 300).all e10 = [(400, 400)] := by kernel_rfl

theorem pts10_a (w : World) : Calls Try.prog 14 #[.agg #[.int .i64 0, .int .i64 0, .int .i64 400, .int .i64 0, .int .i64 400, .int .i64 400, .int .i64 0, .int .i64 0, .int .i64 3], .int .i64 60] w (SliceRet w 23 2 2 [.int .i64 300, .int .i64 100, .int .i64 400, .int .i64 400]) := by
  have h := points_E e10 e10_good (by decide) 60 (by omega) (by omega) w
  rw [e10_a] at h
  exact h
theorem pts10_b (w : World) : Calls Try.prog 14 #[.agg #[.int .i64 0, .int .i64 0, .int .i64 400, .int .i64 0, .int .i64 400, .int .i64 400, .int .i64 0, .int .i64 0, .int .i64 3], .int .i64 300] w (SliceRet w 23 2 1 [.int .i64 400, .int .i64 400]) := by
  have h := points_E e10 e10_good (by decide) 300 (by omega) (by omega) w
  rw [e10_b] at h
  exact h
set_option maxRecDepth 100000 in
set_option maxHeartbeats 2000000 in
theorem shown_10 (w : World) : Calls Try.prog 12 #[] w fun e w' => e = .returned (.bool true) ∧ ∃ x : Later w, w' = x.out := by
  go_enter Try.func12, Try.ntmps12
  go_wp2_with (first | (go_at_call 14; (with_reducible refine (pts10_a _).mono ?_); intro _ _ hs; obtain ⟨g, cap, x, rfl, rfl, hg, hl, hc⟩ := hs.opens (by omega); have q0 := hc 0 (by omega); have q1 := hc 1 (by omega); have q2 := hc 2 (by omega); have q3 := hc 3 (by omega); simp at q0 q1 q2 q3; clear hc) | (go_at_call 14; (with_reducible refine (pts10_b _).mono ?_); intro _ _ hs; obtain ⟨g', cap', x', rfl, rfl, hg', hl', hc'⟩ := hs.opens (by omega); clear hc'))
  exact bodyPost_ret (v := .bool true) (by simp [results, Try.results12, go_sem, *]) rfl ⟨rfl, (Later.mk_of (by repeat (first | (with_reducible assumption) | (with_reducible exact Below.refl _ _) | (with_reducible refine Later.after ?_ _) | (with_reducible refine Later.newer ?_ _) | (with_reducible refine Below.drew ?_) | (with_reducible refine Below.setCell ?_ (by first | exact Nat.le_refl _ | exact Nat.le_add_right _ _ | omega | (simp [go_sem]; done) | (simp [go_sem]; omega)) _))))⟩
end Go.Proofs.Ytcdnekhpeghkiaa
