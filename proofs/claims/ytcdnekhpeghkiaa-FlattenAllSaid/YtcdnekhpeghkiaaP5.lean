/-
  The reference's segment out of a list of points.
-/
import Derived.Test.YtcdnekhpeghkiaaP4
namespace Go.Proofs.Ytcdnekhpeghkiaa
set_option linter.unusedVariables false
open Go.RowKit


set_option maxRecDepth 100000 in
set_option maxHeartbeats 2000000 in
theorem rseg_2 (a0 b0 a1 b1 : Int) (g cap : Nat) (w : World) (h : PtsIn w g [(a0, b0), (a1, b1)]) : Calls Try.prog 78 #[.slice (some ⟨g, 0, none⟩) 2 cap] w fun e w' => e = .returned (.agg #[.int .i64 a0, .int .i64 b0, .int .i64 a1, .int .i64 b1, .int .i64 0, .int .i64 0, .int .i64 0, .int .i64 0, .int .i64 2]) ∧ ∃ x : Later w, w' = x.out := by
  have lg := h.1
  have lg1 : g < w.heap.size + 1 := by omega
  obtain ⟨p0, q0⟩ := h.2 0 (a0, b0) rfl
  simp only [Nat.reduceMul, Nat.reduceAdd] at p0 q0
  obtain ⟨p1, q1⟩ := h.2 1 (a1, b1) rfl
  simp only [Nat.reduceMul, Nat.reduceAdd] at p1 q1
  clear h
  go_enter Try.func78, Try.ntmps78
  go_wp2_with (fail)
  refine wp_loop_rounds 3 ?_
  rw [rounds_succ]
  go_wp2_with (fail)
  rw [rounds_succ]
  go_wp2_with (fail)
  rw [rounds_succ]
  go_wp2_with (fail)
  exact bodyPost_ret (v := .agg #[.int .i64 a0, .int .i64 b0, .int .i64 a1, .int .i64 b1, .int .i64 0, .int .i64 0, .int .i64 0, .int .i64 0, .int .i64 2]) (by simp [results, Try.results78, go_sem, *]) rfl ⟨rfl, (Later.mk_of (by repeat (first | (with_reducible assumption) | (with_reducible exact Below.refl _ _) | (with_reducible refine Later.after ?_ _) | (with_reducible refine Later.newer ?_ _) | (with_reducible refine Below.drew ?_) | (with_reducible refine Below.setCell ?_ (by first | exact Nat.le_refl _ | exact Nat.le_add_right _ _ | omega | (simp [go_sem]; done) | (simp [go_sem]; omega)) _))))⟩


set_option maxRecDepth 100000 in
set_option maxHeartbeats 2000000 in
theorem rseg_3 (a0 b0 a1 b1 a2 b2 : Int) (g cap : Nat) (w : World) (h : PtsIn w g [(a0, b0), (a1, b1), (a2, b2)]) : Calls Try.prog 78 #[.slice (some ⟨g, 0, none⟩) 3 cap] w fun e w' => e = .returned (.agg #[.int .i64 a0, .int .i64 b0, .int .i64 a1, .int .i64 b1, .int .i64 a2, .int .i64 b2, .int .i64 0, .int .i64 0, .int .i64 3]) ∧ ∃ x : Later w, w' = x.out := by
  have lg := h.1
  have lg1 : g < w.heap.size + 1 := by omega
  obtain ⟨p0, q0⟩ := h.2 0 (a0, b0) rfl
  simp only [Nat.reduceMul, Nat.reduceAdd] at p0 q0
  obtain ⟨p1, q1⟩ := h.2 1 (a1, b1) rfl
  simp only [Nat.reduceMul, Nat.reduceAdd] at p1 q1
  obtain ⟨p2, q2⟩ := h.2 2 (a2, b2) rfl
  simp only [Nat.reduceMul, Nat.reduceAdd] at p2 q2
  clear h
  go_enter Try.func78, Try.ntmps78
  go_wp2_with (fail)
  refine wp_loop_rounds 4 ?_
  rw [rounds_succ]
  go_wp2_with (fail)
  rw [rounds_succ]
  go_wp2_with (fail)
  rw [rounds_succ]
  go_wp2_with (fail)
  rw [rounds_succ]
  go_wp2_with (fail)
  exact bodyPost_ret (v := .agg #[.int .i64 a0, .int .i64 b0, .int .i64 a1, .int .i64 b1, .int .i64 a2, .int .i64 b2, .int .i64 0, .int .i64 0, .int .i64 3]) (by simp [results, Try.results78, go_sem, *]) rfl ⟨rfl, (Later.mk_of (by repeat (first | (with_reducible assumption) | (with_reducible exact Below.refl _ _) | (with_reducible refine Later.after ?_ _) | (with_reducible refine Later.newer ?_ _) | (with_reducible refine Below.drew ?_) | (with_reducible refine Below.setCell ?_ (by first | exact Nat.le_refl _ | exact Nat.le_add_right _ _ | omega | (simp [go_sem]; done) | (simp [go_sem]; omega)) _))))⟩


set_option maxRecDepth 100000 in
set_option maxHeartbeats 2000000 in
theorem rseg_4 (a0 b0 a1 b1 a2 b2 a3 b3 : Int) (g cap : Nat) (w : World) (h : PtsIn w g [(a0, b0), (a1, b1), (a2, b2), (a3, b3)]) : Calls Try.prog 78 #[.slice (some ⟨g, 0, none⟩) 4 cap] w fun e w' => e = .returned (.agg #[.int .i64 a0, .int .i64 b0, .int .i64 a1, .int .i64 b1, .int .i64 a2, .int .i64 b2, .int .i64 a3, .int .i64 b3, .int .i64 4]) ∧ ∃ x : Later w, w' = x.out := by
  have lg := h.1
  have lg1 : g < w.heap.size + 1 := by omega
  obtain ⟨p0, q0⟩ := h.2 0 (a0, b0) rfl
  simp only [Nat.reduceMul, Nat.reduceAdd] at p0 q0
  obtain ⟨p1, q1⟩ := h.2 1 (a1, b1) rfl
  simp only [Nat.reduceMul, Nat.reduceAdd] at p1 q1
  obtain ⟨p2, q2⟩ := h.2 2 (a2, b2) rfl
  simp only [Nat.reduceMul, Nat.reduceAdd] at p2 q2
  obtain ⟨p3, q3⟩ := h.2 3 (a3, b3) rfl
  simp only [Nat.reduceMul, Nat.reduceAdd] at p3 q3
  clear h
  go_enter Try.func78, Try.ntmps78
  go_wp2_with (fail)
  refine wp_loop_rounds 5 ?_
  rw [rounds_succ]
  go_wp2_with (fail)
  rw [rounds_succ]
  go_wp2_with (fail)
  rw [rounds_succ]
  go_wp2_with (fail)
  rw [rounds_succ]
  go_wp2_with (fail)
  rw [rounds_succ]
  go_wp2_with (fail)
  exact bodyPost_ret (v := .agg #[.int .i64 a0, .int .i64 b0, .int .i64 a1, .int .i64 b1, .int .i64 a2, .int .i64 b2, .int .i64 a3, .int .i64 b3, .int .i64 4]) (by simp [results, Try.results78, go_sem, *]) rfl ⟨rfl, (Later.mk_of (by repeat (first | (with_reducible assumption) | (with_reducible exact Below.refl _ _) | (with_reducible refine Later.after ?_ _) | (with_reducible refine Later.newer ?_ _) | (with_reducible refine Below.drew ?_) | (with_reducible refine Below.setCell ?_ (by first | exact Nat.le_refl _ | exact Nat.le_add_right _ _ | omega | (simp [go_sem]; done) | (simp [go_sem]; omega)) _))))⟩

end Go.Proofs.Ytcdnekhpeghkiaa
