/-
  Lines, and curves of which next to nothing is asked: walked.
-/
import Derived.Test.YtcdnekhpeghkiaaS1
namespace Go.Proofs.Ytcdnekhpeghkiaa
set_option linter.unusedVariables false
open Go.RowKit

def sg2 (a b c d : Int) : En := fun i => match i with | 0 => a | 1 => b | 2 => c | 3 => d | 8 => 2 | _ => 0
def sg3 (a b c d e f : Int) : En := fun i => match i with | 0 => a | 1 => b | 2 => c | 3 => d | 4 => e | 5 => f | 8 => 3 | _ => 0
def hfB (a b : Int) : Bool := nrB (2 * a) && nrB (2 * b)


set_option maxRecDepth 100000 in
set_option maxHeartbeats 400000 in
theorem rsharp_c (p q z u D : Int) (w : World)
    (c1 : ∀ w', Calls Try.prog 44 #[.agg #[.int .i64 p, .int .i64 q], .agg #[.int .i64 z, .int .i64 u]] w' fun e w'' => e = .returned (.int .i64 D) ∧ ∃ x : Later w', w'' = x.out) :
    Calls Try.prog 75 #[.agg #[.int .i64 p, .int .i64 q], .agg #[.int .i64 z, .int .i64 u]] w fun e w' => e = .returned (.bool (decide (D < 0))) ∧ ∃ x : Later w, w' = x.out := by
  have Hc1 := Lib.hid c1; clear c1
  go_enter Try.func75, Try.ntmps75
  go_wp2_with (first | (go_at_call 44; (with_reducible refine (Hc1.out _).mono ?_); rintro e _ ⟨rfl, x, rfl⟩))
  exact bodyPost_ret (v := .bool (decide (D < 0))) (by simp [results, Try.results75, go_sem, *]) rfl ⟨rfl, (Later.mk_of (by repeat (first | (with_reducible assumption) | (with_reducible exact Below.refl _ _) | (with_reducible refine Later.after ?_ _) | (with_reducible refine Later.newer ?_ _) | (with_reducible refine Below.drew ?_) | (with_reducible refine Below.setCell ?_ (by first | exact Nat.le_refl _ | exact Nat.le_add_right _ _ | omega | (simp [go_sem]; done) | (simp [go_sem]; omega)) _))))⟩


end Go.Proofs.Ytcdnekhpeghkiaa
