/-
  Where a taker is: its last subpath, and the line to a point.
-/
import Derived.Test.YtcdnekhpeghkiaaQB
namespace Go.Proofs.Ytcdnekhpeghkiaa
set_option linter.unusedVariables false
open Go.RowKit

set_option maxRecDepth 100000 in
set_option maxHeartbeats 400000 in
theorem last_c (vv pv xv yv : Value) (g n c t : Nat) (w : World) (h : Blk w t 93 #[vv, pv, .slice (some ⟨g, 0, none⟩) (n + 1) c, xv, yv]) (h9 : n ≤ 1073741824) :
    Calls Try.prog 68 #[.pointer (some ⟨t, 0, none⟩)] w fun e w' => e = .returned (.pointer (some ⟨g, n * 4, none⟩)) ∧ ∃ x : Later w, w' = x.out := by
  have f2 : w.cell? ⟨t, 2, none⟩ = some (.slice (some ⟨g, 0, none⟩) (n + 1) c) := by rw [h.cell]; rfl
  have lt := h.lt
  have H := Lib.hid h
  clear h
  go_enter Try.func68, Try.ntmps68
  go_wp2_with (fail)
  refine wp_region_later (by kernel_rfl) (by kernel_rfl) ?_
  repeat (go_big_quiet_step ((first | fail)))
  refine wpQuiet_nil ?_
  intro x
  go_wp2_with (fail)
  exact bodyPost_ret (v := .pointer (some ⟨g, n * 4, none⟩)) (by simp [results, Try.results68, go_sem, *]) rfl ⟨rfl, (Later.mk_of (by repeat (first | (with_reducible assumption) | (with_reducible exact Below.refl _ _) | (with_reducible refine Later.after ?_ _) | (with_reducible refine Later.newer ?_ _) | (with_reducible refine Below.drew ?_) | (with_reducible refine Below.setCell ?_ (by first | exact Nat.le_refl _ | exact Nat.le_add_right _ _ | omega | (simp [go_sem]; done) | (simp [go_sem]; omega)) _))))⟩
set_option maxRecDepth 100000 in
set_option maxHeartbeats 400000 in
theorem line_c (vv pv sv : Value) (a b p q : Int) (t : Nat) (w : World) (h : Blk w t 93 #[vv, pv, sv, .int .i64 a, .int .i64 b]) :
    Calls Try.prog 69 #[.pointer (some ⟨t, 0, none⟩), .agg #[.int .i64 p, .int .i64 q]] w fun e w' => e = .returned (.agg #[.int .i64 a, .int .i64 b, .int .i64 p, .int .i64 q, .int .i64 0, .int .i64 0, .int .i64 0, .int .i64 0, .int .i64 2]) ∧ ∃ x : Later w, w' = x.out := by
  have f3 : w.cell? ⟨t, 3, none⟩ = some (.int .i64 a) := by rw [h.cell]; rfl
  have f4 : w.cell? ⟨t, 4, none⟩ = some (.int .i64 b) := by rw [h.cell]; rfl
  have lt := h.lt
  have H := Lib.hid h
  clear h
  go_enter Try.func69, Try.ntmps69
  go_wp2_with (fail)
  refine wp_region_later_tail 7 (by kernel_rfl) (by kernel_rfl) ?_
  simp only [List.take_succ_cons, List.take_zero, List.drop_succ_cons, List.drop_zero]
  repeat (go_big_quiet_step ((first | fail)))
  refine wpQuiet_nil ?_
  intro x
  go_wp2_with (fail)
  exact bodyPost_ret (v := .agg #[.int .i64 a, .int .i64 b, .int .i64 p, .int .i64 q, .int .i64 0, .int .i64 0, .int .i64 0, .int .i64 0, .int .i64 2]) (by simp [results, Try.results69, go_sem, *]) rfl ⟨rfl, (Later.mk_of (by repeat (first | (with_reducible assumption) | (with_reducible exact Below.refl _ _) | (with_reducible refine Later.after ?_ _) | (with_reducible refine Later.newer ?_ _) | (with_reducible refine Below.drew ?_) | (with_reducible refine Below.setCell ?_ (by first | exact Nat.le_refl _ | exact Nat.le_add_right _ _ | omega | (simp [go_sem]; done) | (simp [go_sem]; omega)) _))))⟩
end Go.Proofs.Ytcdnekhpeghkiaa
