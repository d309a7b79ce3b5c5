/-
  Is a segment flat?
-/
import Derived.Test.YtcdnekhpeghkiaaKD
namespace Go.Proofs.Ytcdnekhpeghkiaa
set_option linter.unusedVariables false
open Go.RowKit

/-- no further off than so much -/
def wB (n t : Int) : Bool := decide (-t ≤ n) && decide (n ≤ t)


set_option maxRecDepth 100000 in
set_option maxHeartbeats 400000 in
theorem wi_yes (n t : Int) (w : World)
    (t0 : 0 ≤ t) (t9 : t ≤ 4611686018427387904) (h1 : -t ≤ n) (h2 : n ≤ t) :
    Calls Try.prog 71 #[.int .i64 n, .int .i64 t] w fun e w' => e = .returned (.bool true) ∧ ∃ x : Later w, w' = x.out := by
  skip
  go_enter Try.func71, Try.ntmps71
  go_wp2_with (fail)
  exact bodyPost_ret (v := .bool true) (by simp [results, Try.results71, go_sem, *]) rfl ⟨rfl, (Later.mk_of (by repeat (first | (with_reducible assumption) | (with_reducible exact Below.refl _ _) | (with_reducible refine Later.after ?_ _) | (with_reducible refine Later.newer ?_ _) | (with_reducible refine Below.drew ?_) | (with_reducible refine Below.setCell ?_ (by first | exact Nat.le_refl _ | exact Nat.le_add_right _ _ | omega | (simp [go_sem]; done) | (simp [go_sem]; omega)) _))))⟩


set_option maxRecDepth 100000 in
set_option maxHeartbeats 400000 in
theorem wi_lo (n t : Int) (w : World)
    (t0 : 0 ≤ t) (t9 : t ≤ 4611686018427387904) (h1 : n < -t) :
    Calls Try.prog 71 #[.int .i64 n, .int .i64 t] w fun e w' => e = .returned (.bool false) ∧ ∃ x : Later w, w' = x.out := by
  skip
  go_enter Try.func71, Try.ntmps71
  go_wp2_with (fail)
  exact bodyPost_ret (v := .bool false) (by simp [results, Try.results71, go_sem, *]) rfl ⟨rfl, (Later.mk_of (by repeat (first | (with_reducible assumption) | (with_reducible exact Below.refl _ _) | (with_reducible refine Later.after ?_ _) | (with_reducible refine Later.newer ?_ _) | (with_reducible refine Below.drew ?_) | (with_reducible refine Below.setCell ?_ (by first | exact Nat.le_refl _ | exact Nat.le_add_right _ _ | omega | (simp [go_sem]; done) | (simp [go_sem]; omega)) _))))⟩


set_option maxRecDepth 100000 in
set_option maxHeartbeats 400000 in
theorem wi_hi (n t : Int) (w : World)
    (t0 : 0 ≤ t) (t9 : t ≤ 4611686018427387904) (h1 : -t ≤ n) (h2 : t < n) :
    Calls Try.prog 71 #[.int .i64 n, .int .i64 t] w fun e w' => e = .returned (.bool false) ∧ ∃ x : Later w, w' = x.out := by
  skip
  go_enter Try.func71, Try.ntmps71
  go_wp2_with (fail)
  exact bodyPost_ret (v := .bool false) (by simp [results, Try.results71, go_sem, *]) rfl ⟨rfl, (Later.mk_of (by repeat (first | (with_reducible assumption) | (with_reducible exact Below.refl _ _) | (with_reducible refine Later.after ?_ _) | (with_reducible refine Later.newer ?_ _) | (with_reducible refine Below.drew ?_) | (with_reducible refine Below.setCell ?_ (by first | exact Nat.le_refl _ | exact Nat.le_add_right _ _ | omega | (simp [go_sem]; done) | (simp [go_sem]; omega)) _))))⟩


theorem wi_c (n t : Int) (w : World) (t0 : 0 ≤ t) (t9 : t ≤ 4611686018427387904) : Calls Try.prog 71 #[.int .i64 n, .int .i64 t] w fun e w' => e = .returned (.bool (wB n t)) ∧ ∃ x : Later w, w' = x.out := by
  unfold wB
  by_cases h1 : -t ≤ n
  · by_cases h2 : n ≤ t
    · simpa [h1, h2] using wi_yes n t w t0 t9 h1 h2
    · simpa [h1, h2] using wi_hi n t w t0 t9 h1 (by omega)
  · simpa [h1] using wi_lo n t w t0 t9 (by omega)


set_option maxRecDepth 100000 in
set_option maxHeartbeats 2000000 in
theorem flat_2 (x0 y0 x1 y1 x2 y2 x3 y3 t : Int) (w : World)
     :
    Calls Try.prog 51 #[.agg #[.int .i64 x0, .int .i64 y0, .int .i64 x1, .int .i64 y1, .int .i64 x2, .int .i64 y2, .int .i64 x3, .int .i64 y3, .int .i64 2], .int .i64 t] w fun e w' => e = .returned (.bool true) ∧ ∃ x : Later w, w' = x.out := by
  skip
  go_enter Try.func51, Try.ntmps51
  go_wp2
  refine wp_loop_rounds 2 ?_
  rw [rounds_succ]
  go_wp2
  exact bodyPost_ret (v := .bool true) (by simp [results, Try.results51, go_sem, *]) rfl ⟨rfl, (Later.mk_of (by repeat (first | (with_reducible assumption) | (with_reducible exact Below.refl _ _) | (with_reducible refine Later.after ?_ _) | (with_reducible refine Later.newer ?_ _) | (with_reducible refine Below.drew ?_) | (with_reducible refine Below.setCell ?_ (by first | exact Nat.le_refl _ | exact Nat.le_add_right _ _ | omega | (simp [go_sem]; done) | (simp [go_sem]; omega)) _))))⟩


set_option maxRecDepth 100000 in
set_option maxHeartbeats 2000000 in
theorem flat_3y (x0 y0 x1 y1 x2 y2 x3 y3 t P1 Q1 d1 e1 : Int) (w : World)
    (ca1 : ∀ w', Calls Try.prog 57 #[.agg #[.int .i64 x0, .int .i64 y0], .agg #[.int .i64 x2, .int .i64 y2], .int .i64 1, .int .i64 2] w' fun e w'' => e = .returned (.agg #[.int .i64 P1, .int .i64 Q1]) ∧ ∃ x : Later w', w'' = x.out) (cs1 : ∀ w', Calls Try.prog 42 #[.agg #[.int .i64 P1, .int .i64 Q1], .agg #[.int .i64 x1, .int .i64 y1]] w' fun e w'' => e = .returned (.agg #[.int .i64 d1, .int .i64 e1]) ∧ ∃ x : Later w', w'' = x.out) (cd1 : ∀ w', Calls Try.prog 71 #[.int .i64 d1, .int .i64 t] w' fun e w'' => e = .returned (.bool true) ∧ ∃ x : Later w', w'' = x.out) (ce1 : ∀ w', Calls Try.prog 71 #[.int .i64 e1, .int .i64 t] w' fun e w'' => e = .returned (.bool true) ∧ ∃ x : Later w', w'' = x.out) :
    Calls Try.prog 51 #[.agg #[.int .i64 x0, .int .i64 y0, .int .i64 x1, .int .i64 y1, .int .i64 x2, .int .i64 y2, .int .i64 x3, .int .i64 y3, .int .i64 3], .int .i64 t] w fun e w' => e = .returned (.bool true) ∧ ∃ x : Later w, w' = x.out := by
  have Hca1 := Lib.hid ca1; clear ca1
  have Hcs1 := Lib.hid cs1; clear cs1
  have Hcd1 := Lib.hid cd1; clear cd1
  have Hce1 := Lib.hid ce1; clear ce1
  go_enter Try.func51, Try.ntmps51
  go_wp2
  refine wp_loop_rounds 3 ?_
  rw [rounds_succ]
  go_wp2
  refine wp_region_later_al1 15 7 (.cells #[.int .i64 0, .int .i64 0] 23) (by kernel_rfl) (by kernel_rfl) ⟨_, _, rfl, rfl, rfl, rfl, allocPt⟩ (by simp) (by kernel_rfl) (noInit_of (by kernel_rfl)) (fun y => ?_)
  simp only [List.take_succ_cons, List.take_zero, List.drop_succ_cons, List.drop_zero]
  repeat (go_big_quiet_step ((first | (go_at_call 57; with_reducible exact Later.call _ (Hca1.out _)) | (go_at_call 42; with_reducible exact Later.call _ (Hcs1.out _)))))
  refine wpQuiet_nil ?_
  intro g x hg hx
  have hgw : w.heap.size ≤ g := Nat.le_trans (by first | (simp [go_sem]; done) | (simp [go_sem]; exact Or.inl (by omega))) hg
  have hgn0 : w.heap.size < g := Nat.lt_of_lt_of_le (by simp [go_sem]) hg
  have hgm0 : (w.heap.size = g) = False := eq_false (Nat.ne_of_lt hgn0)
  have hgo0 : (g = w.heap.size) = False := eq_false (Nat.ne_of_gt hgn0)
  have hb1 : Blk x.out g 23 #[.int .i64 0, .int .i64 0] := hx
  obtain ⟨bc, bf, bl⟩ := hb1.all
  go_wp2_with (first | (go_at_call 71; (with_reducible refine (Hcd1.out _).mono ?_); rintro e _ ⟨rfl, x, rfl⟩) | (go_at_call 71; (with_reducible refine (Hce1.out _).mono ?_); rintro e _ ⟨rfl, x, rfl⟩))
  rw [rounds_succ]
  go_wp2
  exact bodyPost_ret (v := .bool true) (by simp [results, Try.results51, go_sem, *]) rfl ⟨rfl, (Later.mk_of (by repeat (first | (with_reducible assumption) | (with_reducible exact Below.refl _ _) | (with_reducible refine Later.after ?_ _) | (with_reducible refine Later.newer ?_ _) | (with_reducible refine Below.drew ?_) | (with_reducible refine Below.setCell ?_ (by first | exact Nat.le_refl _ | exact Nat.le_add_right _ _ | omega | (simp [go_sem]; done) | (simp [go_sem]; omega)) _))))⟩


set_option maxRecDepth 100000 in
set_option maxHeartbeats 2000000 in
theorem flat_3n10 (x0 y0 x1 y1 x2 y2 x3 y3 t P1 Q1 d1 e1 : Int) (w : World)
    (ca1 : ∀ w', Calls Try.prog 57 #[.agg #[.int .i64 x0, .int .i64 y0], .agg #[.int .i64 x2, .int .i64 y2], .int .i64 1, .int .i64 2] w' fun e w'' => e = .returned (.agg #[.int .i64 P1, .int .i64 Q1]) ∧ ∃ x : Later w', w'' = x.out) (cs1 : ∀ w', Calls Try.prog 42 #[.agg #[.int .i64 P1, .int .i64 Q1], .agg #[.int .i64 x1, .int .i64 y1]] w' fun e w'' => e = .returned (.agg #[.int .i64 d1, .int .i64 e1]) ∧ ∃ x : Later w', w'' = x.out) (cd1 : ∀ w', Calls Try.prog 71 #[.int .i64 d1, .int .i64 t] w' fun e w'' => e = .returned (.bool false) ∧ ∃ x : Later w', w'' = x.out) :
    Calls Try.prog 51 #[.agg #[.int .i64 x0, .int .i64 y0, .int .i64 x1, .int .i64 y1, .int .i64 x2, .int .i64 y2, .int .i64 x3, .int .i64 y3, .int .i64 3], .int .i64 t] w fun e w' => e = .returned (.bool false) ∧ ∃ x : Later w, w' = x.out := by
  have Hca1 := Lib.hid ca1; clear ca1
  have Hcs1 := Lib.hid cs1; clear cs1
  have Hcd1 := Lib.hid cd1; clear cd1
  go_enter Try.func51, Try.ntmps51
  go_wp2
  refine wp_loop_rounds 3 ?_
  rw [rounds_succ]
  go_wp2
  refine wp_region_later_al1 15 7 (.cells #[.int .i64 0, .int .i64 0] 23) (by kernel_rfl) (by kernel_rfl) ⟨_, _, rfl, rfl, rfl, rfl, allocPt⟩ (by simp) (by kernel_rfl) (noInit_of (by kernel_rfl)) (fun y => ?_)
  simp only [List.take_succ_cons, List.take_zero, List.drop_succ_cons, List.drop_zero]
  repeat (go_big_quiet_step ((first | (go_at_call 57; with_reducible exact Later.call _ (Hca1.out _)) | (go_at_call 42; with_reducible exact Later.call _ (Hcs1.out _)))))
  refine wpQuiet_nil ?_
  intro g x hg hx
  have hgw : w.heap.size ≤ g := Nat.le_trans (by first | (simp [go_sem]; done) | (simp [go_sem]; exact Or.inl (by omega))) hg
  have hgn0 : w.heap.size < g := Nat.lt_of_lt_of_le (by simp [go_sem]) hg
  have hgm0 : (w.heap.size = g) = False := eq_false (Nat.ne_of_lt hgn0)
  have hgo0 : (g = w.heap.size) = False := eq_false (Nat.ne_of_gt hgn0)
  have hb1 : Blk x.out g 23 #[.int .i64 0, .int .i64 0] := hx
  obtain ⟨bc, bf, bl⟩ := hb1.all
  go_wp2_with (first | (go_at_call 71; (with_reducible refine (Hcd1.out _).mono ?_); rintro e _ ⟨rfl, x, rfl⟩) | (go_at_call 71; (with_reducible refine (Hce1.out _).mono ?_); rintro e _ ⟨rfl, x, rfl⟩))
  exact bodyPost_ret (v := .bool false) (by simp [results, Try.results51, go_sem, *]) rfl ⟨rfl, (Later.mk_of (by repeat (first | (with_reducible assumption) | (with_reducible exact Below.refl _ _) | (with_reducible refine Later.after ?_ _) | (with_reducible refine Later.newer ?_ _) | (with_reducible refine Below.drew ?_) | (with_reducible refine Below.setCell ?_ (by first | exact Nat.le_refl _ | exact Nat.le_add_right _ _ | omega | (simp [go_sem]; done) | (simp [go_sem]; omega)) _))))⟩


set_option maxRecDepth 100000 in
set_option maxHeartbeats 2000000 in
theorem flat_3n11 (x0 y0 x1 y1 x2 y2 x3 y3 t P1 Q1 d1 e1 : Int) (w : World)
    (ca1 : ∀ w', Calls Try.prog 57 #[.agg #[.int .i64 x0, .int .i64 y0], .agg #[.int .i64 x2, .int .i64 y2], .int .i64 1, .int .i64 2] w' fun e w'' => e = .returned (.agg #[.int .i64 P1, .int .i64 Q1]) ∧ ∃ x : Later w', w'' = x.out) (cs1 : ∀ w', Calls Try.prog 42 #[.agg #[.int .i64 P1, .int .i64 Q1], .agg #[.int .i64 x1, .int .i64 y1]] w' fun e w'' => e = .returned (.agg #[.int .i64 d1, .int .i64 e1]) ∧ ∃ x : Later w', w'' = x.out) (cd1 : ∀ w', Calls Try.prog 71 #[.int .i64 d1, .int .i64 t] w' fun e w'' => e = .returned (.bool true) ∧ ∃ x : Later w', w'' = x.out) (ce1 : ∀ w', Calls Try.prog 71 #[.int .i64 e1, .int .i64 t] w' fun e w'' => e = .returned (.bool false) ∧ ∃ x : Later w', w'' = x.out) :
    Calls Try.prog 51 #[.agg #[.int .i64 x0, .int .i64 y0, .int .i64 x1, .int .i64 y1, .int .i64 x2, .int .i64 y2, .int .i64 x3, .int .i64 y3, .int .i64 3], .int .i64 t] w fun e w' => e = .returned (.bool false) ∧ ∃ x : Later w, w' = x.out := by
  have Hca1 := Lib.hid ca1; clear ca1
  have Hcs1 := Lib.hid cs1; clear cs1
  have Hcd1 := Lib.hid cd1; clear cd1
  have Hce1 := Lib.hid ce1; clear ce1
  go_enter Try.func51, Try.ntmps51
  go_wp2
  refine wp_loop_rounds 3 ?_
  rw [rounds_succ]
  go_wp2
  refine wp_region_later_al1 15 7 (.cells #[.int .i64 0, .int .i64 0] 23) (by kernel_rfl) (by kernel_rfl) ⟨_, _, rfl, rfl, rfl, rfl, allocPt⟩ (by simp) (by kernel_rfl) (noInit_of (by kernel_rfl)) (fun y => ?_)
  simp only [List.take_succ_cons, List.take_zero, List.drop_succ_cons, List.drop_zero]
  repeat (go_big_quiet_step ((first | (go_at_call 57; with_reducible exact Later.call _ (Hca1.out _)) | (go_at_call 42; with_reducible exact Later.call _ (Hcs1.out _)))))
  refine wpQuiet_nil ?_
  intro g x hg hx
  have hgw : w.heap.size ≤ g := Nat.le_trans (by first | (simp [go_sem]; done) | (simp [go_sem]; exact Or.inl (by omega))) hg
  have hgn0 : w.heap.size < g := Nat.lt_of_lt_of_le (by simp [go_sem]) hg
  have hgm0 : (w.heap.size = g) = False := eq_false (Nat.ne_of_lt hgn0)
  have hgo0 : (g = w.heap.size) = False := eq_false (Nat.ne_of_gt hgn0)
  have hb1 : Blk x.out g 23 #[.int .i64 0, .int .i64 0] := hx
  obtain ⟨bc, bf, bl⟩ := hb1.all
  go_wp2_with (first | (go_at_call 71; (with_reducible refine (Hcd1.out _).mono ?_); rintro e _ ⟨rfl, x, rfl⟩) | (go_at_call 71; (with_reducible refine (Hce1.out _).mono ?_); rintro e _ ⟨rfl, x, rfl⟩))
  exact bodyPost_ret (v := .bool false) (by simp [results, Try.results51, go_sem, *]) rfl ⟨rfl, (Later.mk_of (by repeat (first | (with_reducible assumption) | (with_reducible exact Below.refl _ _) | (with_reducible refine Later.after ?_ _) | (with_reducible refine Later.newer ?_ _) | (with_reducible refine Below.drew ?_) | (with_reducible refine Below.setCell ?_ (by first | exact Nat.le_refl _ | exact Nat.le_add_right _ _ | omega | (simp [go_sem]; done) | (simp [go_sem]; omega)) _))))⟩


set_option maxRecDepth 100000 in
set_option maxHeartbeats 2000000 in
theorem flat_4y (x0 y0 x1 y1 x2 y2 x3 y3 t P1 Q1 d1 e1 P2 Q2 d2 e2 : Int) (w : World)
    (ca1 : ∀ w', Calls Try.prog 57 #[.agg #[.int .i64 x0, .int .i64 y0], .agg #[.int .i64 x3, .int .i64 y3], .int .i64 1, .int .i64 3] w' fun e w'' => e = .returned (.agg #[.int .i64 P1, .int .i64 Q1]) ∧ ∃ x : Later w', w'' = x.out) (cs1 : ∀ w', Calls Try.prog 42 #[.agg #[.int .i64 P1, .int .i64 Q1], .agg #[.int .i64 x1, .int .i64 y1]] w' fun e w'' => e = .returned (.agg #[.int .i64 d1, .int .i64 e1]) ∧ ∃ x : Later w', w'' = x.out) (cd1 : ∀ w', Calls Try.prog 71 #[.int .i64 d1, .int .i64 t] w' fun e w'' => e = .returned (.bool true) ∧ ∃ x : Later w', w'' = x.out) (ce1 : ∀ w', Calls Try.prog 71 #[.int .i64 e1, .int .i64 t] w' fun e w'' => e = .returned (.bool true) ∧ ∃ x : Later w', w'' = x.out) (ca2 : ∀ w', Calls Try.prog 57 #[.agg #[.int .i64 x0, .int .i64 y0], .agg #[.int .i64 x3, .int .i64 y3], .int .i64 2, .int .i64 3] w' fun e w'' => e = .returned (.agg #[.int .i64 P2, .int .i64 Q2]) ∧ ∃ x : Later w', w'' = x.out) (cs2 : ∀ w', Calls Try.prog 42 #[.agg #[.int .i64 P2, .int .i64 Q2], .agg #[.int .i64 x2, .int .i64 y2]] w' fun e w'' => e = .returned (.agg #[.int .i64 d2, .int .i64 e2]) ∧ ∃ x : Later w', w'' = x.out) (cd2 : ∀ w', Calls Try.prog 71 #[.int .i64 d2, .int .i64 t] w' fun e w'' => e = .returned (.bool true) ∧ ∃ x : Later w', w'' = x.out) (ce2 : ∀ w', Calls Try.prog 71 #[.int .i64 e2, .int .i64 t] w' fun e w'' => e = .returned (.bool true) ∧ ∃ x : Later w', w'' = x.out) :
    Calls Try.prog 51 #[.agg #[.int .i64 x0, .int .i64 y0, .int .i64 x1, .int .i64 y1, .int .i64 x2, .int .i64 y2, .int .i64 x3, .int .i64 y3, .int .i64 4], .int .i64 t] w fun e w' => e = .returned (.bool true) ∧ ∃ x : Later w, w' = x.out := by
  have Hca1 := Lib.hid ca1; clear ca1
  have Hcs1 := Lib.hid cs1; clear cs1
  have Hcd1 := Lib.hid cd1; clear cd1
  have Hce1 := Lib.hid ce1; clear ce1
  have Hca2 := Lib.hid ca2; clear ca2
  have Hcs2 := Lib.hid cs2; clear cs2
  have Hcd2 := Lib.hid cd2; clear cd2
  have Hce2 := Lib.hid ce2; clear ce2
  go_enter Try.func51, Try.ntmps51
  go_wp2
  refine wp_loop_rounds 4 ?_
  rw [rounds_succ]
  go_wp2
  refine wp_region_later_al1 15 7 (.cells #[.int .i64 0, .int .i64 0] 23) (by kernel_rfl) (by kernel_rfl) ⟨_, _, rfl, rfl, rfl, rfl, allocPt⟩ (by simp) (by kernel_rfl) (noInit_of (by kernel_rfl)) (fun y => ?_)
  simp only [List.take_succ_cons, List.take_zero, List.drop_succ_cons, List.drop_zero]
  repeat (go_big_quiet_step ((first | (go_at_call 57; with_reducible exact Later.call _ (Hca1.out _)) | (go_at_call 42; with_reducible exact Later.call _ (Hcs1.out _)))))
  refine wpQuiet_nil ?_
  intro g x hg hx
  have hgw : w.heap.size ≤ g := Nat.le_trans (by first | (simp [go_sem]; done) | (simp [go_sem]; exact Or.inl (by omega))) hg
  have hgn0 : w.heap.size < g := Nat.lt_of_lt_of_le (by simp [go_sem]) hg
  have hgm0 : (w.heap.size = g) = False := eq_false (Nat.ne_of_lt hgn0)
  have hgo0 : (g = w.heap.size) = False := eq_false (Nat.ne_of_gt hgn0)
  have hb1 : Blk x.out g 23 #[.int .i64 0, .int .i64 0] := hx
  obtain ⟨bc, bf, bl⟩ := hb1.all
  go_wp2_with (first | (go_at_call 71; (with_reducible refine (Hcd1.out _).mono ?_); rintro e _ ⟨rfl, x, rfl⟩) | (go_at_call 71; (with_reducible refine (Hce1.out _).mono ?_); rintro e _ ⟨rfl, x, rfl⟩))
  rw [rounds_succ]
  go_wp2
  refine wp_region_later_al1 15 7 (.cells #[.int .i64 0, .int .i64 0] 23) (by kernel_rfl) (by kernel_rfl) ⟨_, _, rfl, rfl, rfl, rfl, allocPt⟩ (by simp) (by kernel_rfl) (noInit_of (by kernel_rfl)) (fun y => ?_)
  simp only [List.take_succ_cons, List.take_zero, List.drop_succ_cons, List.drop_zero]
  repeat (go_big_quiet_step ((first | (go_at_call 57; with_reducible exact Later.call _ (Hca2.out _)) | (go_at_call 42; with_reducible exact Later.call _ (Hcs2.out _)))))
  refine wpQuiet_nil ?_
  intro g x hg hx
  have hgw : w.heap.size ≤ g := Nat.le_trans (by first | (simp [go_sem]; done) | (simp [go_sem]; exact Or.inl (by omega))) hg
  have hgn0 : w.heap.size < g := Nat.lt_of_lt_of_le (by simp [go_sem]) hg
  have hgm0 : (w.heap.size = g) = False := eq_false (Nat.ne_of_lt hgn0)
  have hgo0 : (g = w.heap.size) = False := eq_false (Nat.ne_of_gt hgn0)
  have hb2 : Blk x.out g 23 #[.int .i64 0, .int .i64 0] := hx
  obtain ⟨bc, bf, bl⟩ := hb2.all
  go_wp2_with (first | (go_at_call 71; (with_reducible refine (Hcd2.out _).mono ?_); rintro e _ ⟨rfl, x, rfl⟩) | (go_at_call 71; (with_reducible refine (Hce2.out _).mono ?_); rintro e _ ⟨rfl, x, rfl⟩))
  rw [rounds_succ]
  go_wp2
  exact bodyPost_ret (v := .bool true) (by simp [results, Try.results51, go_sem, *]) rfl ⟨rfl, (Later.mk_of (by repeat (first | (with_reducible assumption) | (with_reducible exact Below.refl _ _) | (with_reducible refine Later.after ?_ _) | (with_reducible refine Later.newer ?_ _) | (with_reducible refine Below.drew ?_) | (with_reducible refine Below.setCell ?_ (by first | exact Nat.le_refl _ | exact Nat.le_add_right _ _ | omega | (simp [go_sem]; done) | (simp [go_sem]; omega)) _))))⟩


set_option maxRecDepth 100000 in
set_option maxHeartbeats 2000000 in
theorem flat_4n10 (x0 y0 x1 y1 x2 y2 x3 y3 t P1 Q1 d1 e1 : Int) (w : World)
    (ca1 : ∀ w', Calls Try.prog 57 #[.agg #[.int .i64 x0, .int .i64 y0], .agg #[.int .i64 x3, .int .i64 y3], .int .i64 1, .int .i64 3] w' fun e w'' => e = .returned (.agg #[.int .i64 P1, .int .i64 Q1]) ∧ ∃ x : Later w', w'' = x.out) (cs1 : ∀ w', Calls Try.prog 42 #[.agg #[.int .i64 P1, .int .i64 Q1], .agg #[.int .i64 x1, .int .i64 y1]] w' fun e w'' => e = .returned (.agg #[.int .i64 d1, .int .i64 e1]) ∧ ∃ x : Later w', w'' = x.out) (cd1 : ∀ w', Calls Try.prog 71 #[.int .i64 d1, .int .i64 t] w' fun e w'' => e = .returned (.bool false) ∧ ∃ x : Later w', w'' = x.out) :
    Calls Try.prog 51 #[.agg #[.int .i64 x0, .int .i64 y0, .int .i64 x1, .int .i64 y1, .int .i64 x2, .int .i64 y2, .int .i64 x3, .int .i64 y3, .int .i64 4], .int .i64 t] w fun e w' => e = .returned (.bool false) ∧ ∃ x : Later w, w' = x.out := by
  have Hca1 := Lib.hid ca1; clear ca1
  have Hcs1 := Lib.hid cs1; clear cs1
  have Hcd1 := Lib.hid cd1; clear cd1
  go_enter Try.func51, Try.ntmps51
  go_wp2
  refine wp_loop_rounds 4 ?_
  rw [rounds_succ]
  go_wp2
  refine wp_region_later_al1 15 7 (.cells #[.int .i64 0, .int .i64 0] 23) (by kernel_rfl) (by kernel_rfl) ⟨_, _, rfl, rfl, rfl, rfl, allocPt⟩ (by simp) (by kernel_rfl) (noInit_of (by kernel_rfl)) (fun y => ?_)
  simp only [List.take_succ_cons, List.take_zero, List.drop_succ_cons, List.drop_zero]
  repeat (go_big_quiet_step ((first | (go_at_call 57; with_reducible exact Later.call _ (Hca1.out _)) | (go_at_call 42; with_reducible exact Later.call _ (Hcs1.out _)))))
  refine wpQuiet_nil ?_
  intro g x hg hx
  have hgw : w.heap.size ≤ g := Nat.le_trans (by first | (simp [go_sem]; done) | (simp [go_sem]; exact Or.inl (by omega))) hg
  have hgn0 : w.heap.size < g := Nat.lt_of_lt_of_le (by simp [go_sem]) hg
  have hgm0 : (w.heap.size = g) = False := eq_false (Nat.ne_of_lt hgn0)
  have hgo0 : (g = w.heap.size) = False := eq_false (Nat.ne_of_gt hgn0)
  have hb1 : Blk x.out g 23 #[.int .i64 0, .int .i64 0] := hx
  obtain ⟨bc, bf, bl⟩ := hb1.all
  go_wp2_with (first | (go_at_call 71; (with_reducible refine (Hcd1.out _).mono ?_); rintro e _ ⟨rfl, x, rfl⟩) | (go_at_call 71; (with_reducible refine (Hce1.out _).mono ?_); rintro e _ ⟨rfl, x, rfl⟩))
  exact bodyPost_ret (v := .bool false) (by simp [results, Try.results51, go_sem, *]) rfl ⟨rfl, (Later.mk_of (by repeat (first | (with_reducible assumption) | (with_reducible exact Below.refl _ _) | (with_reducible refine Later.after ?_ _) | (with_reducible refine Later.newer ?_ _) | (with_reducible refine Below.drew ?_) | (with_reducible refine Below.setCell ?_ (by first | exact Nat.le_refl _ | exact Nat.le_add_right _ _ | omega | (simp [go_sem]; done) | (simp [go_sem]; omega)) _))))⟩


set_option maxRecDepth 100000 in
set_option maxHeartbeats 2000000 in
theorem flat_4n11 (x0 y0 x1 y1 x2 y2 x3 y3 t P1 Q1 d1 e1 : Int) (w : World)
    (ca1 : ∀ w', Calls Try.prog 57 #[.agg #[.int .i64 x0, .int .i64 y0], .agg #[.int .i64 x3, .int .i64 y3], .int .i64 1, .int .i64 3] w' fun e w'' => e = .returned (.agg #[.int .i64 P1, .int .i64 Q1]) ∧ ∃ x : Later w', w'' = x.out) (cs1 : ∀ w', Calls Try.prog 42 #[.agg #[.int .i64 P1, .int .i64 Q1], .agg #[.int .i64 x1, .int .i64 y1]] w' fun e w'' => e = .returned (.agg #[.int .i64 d1, .int .i64 e1]) ∧ ∃ x : Later w', w'' = x.out) (cd1 : ∀ w', Calls Try.prog 71 #[.int .i64 d1, .int .i64 t] w' fun e w'' => e = .returned (.bool true) ∧ ∃ x : Later w', w'' = x.out) (ce1 : ∀ w', Calls Try.prog 71 #[.int .i64 e1, .int .i64 t] w' fun e w'' => e = .returned (.bool false) ∧ ∃ x : Later w', w'' = x.out) :
    Calls Try.prog 51 #[.agg #[.int .i64 x0, .int .i64 y0, .int .i64 x1, .int .i64 y1, .int .i64 x2, .int .i64 y2, .int .i64 x3, .int .i64 y3, .int .i64 4], .int .i64 t] w fun e w' => e = .returned (.bool false) ∧ ∃ x : Later w, w' = x.out := by
  have Hca1 := Lib.hid ca1; clear ca1
  have Hcs1 := Lib.hid cs1; clear cs1
  have Hcd1 := Lib.hid cd1; clear cd1
  have Hce1 := Lib.hid ce1; clear ce1
  go_enter Try.func51, Try.ntmps51
  go_wp2
  refine wp_loop_rounds 4 ?_
  rw [rounds_succ]
  go_wp2
  refine wp_region_later_al1 15 7 (.cells #[.int .i64 0, .int .i64 0] 23) (by kernel_rfl) (by kernel_rfl) ⟨_, _, rfl, rfl, rfl, rfl, allocPt⟩ (by simp) (by kernel_rfl) (noInit_of (by kernel_rfl)) (fun y => ?_)
  simp only [List.take_succ_cons, List.take_zero, List.drop_succ_cons, List.drop_zero]
  repeat (go_big_quiet_step ((first | (go_at_call 57; with_reducible exact Later.call _ (Hca1.out _)) | (go_at_call 42; with_reducible exact Later.call _ (Hcs1.out _)))))
  refine wpQuiet_nil ?_
  intro g x hg hx
  have hgw : w.heap.size ≤ g := Nat.le_trans (by first | (simp [go_sem]; done) | (simp [go_sem]; exact Or.inl (by omega))) hg
  have hgn0 : w.heap.size < g := Nat.lt_of_lt_of_le (by simp [go_sem]) hg
  have hgm0 : (w.heap.size = g) = False := eq_false (Nat.ne_of_lt hgn0)
  have hgo0 : (g = w.heap.size) = False := eq_false (Nat.ne_of_gt hgn0)
  have hb1 : Blk x.out g 23 #[.int .i64 0, .int .i64 0] := hx
  obtain ⟨bc, bf, bl⟩ := hb1.all
  go_wp2_with (first | (go_at_call 71; (with_reducible refine (Hcd1.out _).mono ?_); rintro e _ ⟨rfl, x, rfl⟩) | (go_at_call 71; (with_reducible refine (Hce1.out _).mono ?_); rintro e _ ⟨rfl, x, rfl⟩))
  exact bodyPost_ret (v := .bool false) (by simp [results, Try.results51, go_sem, *]) rfl ⟨rfl, (Later.mk_of (by repeat (first | (with_reducible assumption) | (with_reducible exact Below.refl _ _) | (with_reducible refine Later.after ?_ _) | (with_reducible refine Later.newer ?_ _) | (with_reducible refine Below.drew ?_) | (with_reducible refine Below.setCell ?_ (by first | exact Nat.le_refl _ | exact Nat.le_add_right _ _ | omega | (simp [go_sem]; done) | (simp [go_sem]; omega)) _))))⟩


set_option maxRecDepth 100000 in
set_option maxHeartbeats 2000000 in
theorem flat_4n20 (x0 y0 x1 y1 x2 y2 x3 y3 t P1 Q1 d1 e1 P2 Q2 d2 e2 : Int) (w : World)
    (ca1 : ∀ w', Calls Try.prog 57 #[.agg #[.int .i64 x0, .int .i64 y0], .agg #[.int .i64 x3, .int .i64 y3], .int .i64 1, .int .i64 3] w' fun e w'' => e = .returned (.agg #[.int .i64 P1, .int .i64 Q1]) ∧ ∃ x : Later w', w'' = x.out) (cs1 : ∀ w', Calls Try.prog 42 #[.agg #[.int .i64 P1, .int .i64 Q1], .agg #[.int .i64 x1, .int .i64 y1]] w' fun e w'' => e = .returned (.agg #[.int .i64 d1, .int .i64 e1]) ∧ ∃ x : Later w', w'' = x.out) (cd1 : ∀ w', Calls Try.prog 71 #[.int .i64 d1, .int .i64 t] w' fun e w'' => e = .returned (.bool true) ∧ ∃ x : Later w', w'' = x.out) (ce1 : ∀ w', Calls Try.prog 71 #[.int .i64 e1, .int .i64 t] w' fun e w'' => e = .returned (.bool true) ∧ ∃ x : Later w', w'' = x.out) (ca2 : ∀ w', Calls Try.prog 57 #[.agg #[.int .i64 x0, .int .i64 y0], .agg #[.int .i64 x3, .int .i64 y3], .int .i64 2, .int .i64 3] w' fun e w'' => e = .returned (.agg #[.int .i64 P2, .int .i64 Q2]) ∧ ∃ x : Later w', w'' = x.out) (cs2 : ∀ w', Calls Try.prog 42 #[.agg #[.int .i64 P2, .int .i64 Q2], .agg #[.int .i64 x2, .int .i64 y2]] w' fun e w'' => e = .returned (.agg #[.int .i64 d2, .int .i64 e2]) ∧ ∃ x : Later w', w'' = x.out) (cd2 : ∀ w', Calls Try.prog 71 #[.int .i64 d2, .int .i64 t] w' fun e w'' => e = .returned (.bool false) ∧ ∃ x : Later w', w'' = x.out) :
    Calls Try.prog 51 #[.agg #[.int .i64 x0, .int .i64 y0, .int .i64 x1, .int .i64 y1, .int .i64 x2, .int .i64 y2, .int .i64 x3, .int .i64 y3, .int .i64 4], .int .i64 t] w fun e w' => e = .returned (.bool false) ∧ ∃ x : Later w, w' = x.out := by
  have Hca1 := Lib.hid ca1; clear ca1
  have Hcs1 := Lib.hid cs1; clear cs1
  have Hcd1 := Lib.hid cd1; clear cd1
  have Hce1 := Lib.hid ce1; clear ce1
  have Hca2 := Lib.hid ca2; clear ca2
  have Hcs2 := Lib.hid cs2; clear cs2
  have Hcd2 := Lib.hid cd2; clear cd2
  go_enter Try.func51, Try.ntmps51
  go_wp2
  refine wp_loop_rounds 4 ?_
  rw [rounds_succ]
  go_wp2
  refine wp_region_later_al1 15 7 (.cells #[.int .i64 0, .int .i64 0] 23) (by kernel_rfl) (by kernel_rfl) ⟨_, _, rfl, rfl, rfl, rfl, allocPt⟩ (by simp) (by kernel_rfl) (noInit_of (by kernel_rfl)) (fun y => ?_)
  simp only [List.take_succ_cons, List.take_zero, List.drop_succ_cons, List.drop_zero]
  repeat (go_big_quiet_step ((first | (go_at_call 57; with_reducible exact Later.call _ (Hca1.out _)) | (go_at_call 42; with_reducible exact Later.call _ (Hcs1.out _)))))
  refine wpQuiet_nil ?_
  intro g x hg hx
  have hgw : w.heap.size ≤ g := Nat.le_trans (by first | (simp [go_sem]; done) | (simp [go_sem]; exact Or.inl (by omega))) hg
  have hgn0 : w.heap.size < g := Nat.lt_of_lt_of_le (by simp [go_sem]) hg
  have hgm0 : (w.heap.size = g) = False := eq_false (Nat.ne_of_lt hgn0)
  have hgo0 : (g = w.heap.size) = False := eq_false (Nat.ne_of_gt hgn0)
  have hb1 : Blk x.out g 23 #[.int .i64 0, .int .i64 0] := hx
  obtain ⟨bc, bf, bl⟩ := hb1.all
  go_wp2_with (first | (go_at_call 71; (with_reducible refine (Hcd1.out _).mono ?_); rintro e _ ⟨rfl, x, rfl⟩) | (go_at_call 71; (with_reducible refine (Hce1.out _).mono ?_); rintro e _ ⟨rfl, x, rfl⟩))
  rw [rounds_succ]
  go_wp2
  refine wp_region_later_al1 15 7 (.cells #[.int .i64 0, .int .i64 0] 23) (by kernel_rfl) (by kernel_rfl) ⟨_, _, rfl, rfl, rfl, rfl, allocPt⟩ (by simp) (by kernel_rfl) (noInit_of (by kernel_rfl)) (fun y => ?_)
  simp only [List.take_succ_cons, List.take_zero, List.drop_succ_cons, List.drop_zero]
  repeat (go_big_quiet_step ((first | (go_at_call 57; with_reducible exact Later.call _ (Hca2.out _)) | (go_at_call 42; with_reducible exact Later.call _ (Hcs2.out _)))))
  refine wpQuiet_nil ?_
  intro g x hg hx
  have hgw : w.heap.size ≤ g := Nat.le_trans (by first | (simp [go_sem]; done) | (simp [go_sem]; exact Or.inl (by omega))) hg
  have hgn0 : w.heap.size < g := Nat.lt_of_lt_of_le (by simp [go_sem]) hg
  have hgm0 : (w.heap.size = g) = False := eq_false (Nat.ne_of_lt hgn0)
  have hgo0 : (g = w.heap.size) = False := eq_false (Nat.ne_of_gt hgn0)
  have hb2 : Blk x.out g 23 #[.int .i64 0, .int .i64 0] := hx
  obtain ⟨bc, bf, bl⟩ := hb2.all
  go_wp2_with (first | (go_at_call 71; (with_reducible refine (Hcd2.out _).mono ?_); rintro e _ ⟨rfl, x, rfl⟩) | (go_at_call 71; (with_reducible refine (Hce2.out _).mono ?_); rintro e _ ⟨rfl, x, rfl⟩))
  exact bodyPost_ret (v := .bool false) (by simp [results, Try.results51, go_sem, *]) rfl ⟨rfl, (Later.mk_of (by repeat (first | (with_reducible assumption) | (with_reducible exact Below.refl _ _) | (with_reducible refine Later.after ?_ _) | (with_reducible refine Later.newer ?_ _) | (with_reducible refine Below.drew ?_) | (with_reducible refine Below.setCell ?_ (by first | exact Nat.le_refl _ | exact Nat.le_add_right _ _ | omega | (simp [go_sem]; done) | (simp [go_sem]; omega)) _))))⟩


set_option maxRecDepth 100000 in
set_option maxHeartbeats 2000000 in
theorem flat_4n21 (x0 y0 x1 y1 x2 y2 x3 y3 t P1 Q1 d1 e1 P2 Q2 d2 e2 : Int) (w : World)
    (ca1 : ∀ w', Calls Try.prog 57 #[.agg #[.int .i64 x0, .int .i64 y0], .agg #[.int .i64 x3, .int .i64 y3], .int .i64 1, .int .i64 3] w' fun e w'' => e = .returned (.agg #[.int .i64 P1, .int .i64 Q1]) ∧ ∃ x : Later w', w'' = x.out) (cs1 : ∀ w', Calls Try.prog 42 #[.agg #[.int .i64 P1, .int .i64 Q1], .agg #[.int .i64 x1, .int .i64 y1]] w' fun e w'' => e = .returned (.agg #[.int .i64 d1, .int .i64 e1]) ∧ ∃ x : Later w', w'' = x.out) (cd1 : ∀ w', Calls Try.prog 71 #[.int .i64 d1, .int .i64 t] w' fun e w'' => e = .returned (.bool true) ∧ ∃ x : Later w', w'' = x.out) (ce1 : ∀ w', Calls Try.prog 71 #[.int .i64 e1, .int .i64 t] w' fun e w'' => e = .returned (.bool true) ∧ ∃ x : Later w', w'' = x.out) (ca2 : ∀ w', Calls Try.prog 57 #[.agg #[.int .i64 x0, .int .i64 y0], .agg #[.int .i64 x3, .int .i64 y3], .int .i64 2, .int .i64 3] w' fun e w'' => e = .returned (.agg #[.int .i64 P2, .int .i64 Q2]) ∧ ∃ x : Later w', w'' = x.out) (cs2 : ∀ w', Calls Try.prog 42 #[.agg #[.int .i64 P2, .int .i64 Q2], .agg #[.int .i64 x2, .int .i64 y2]] w' fun e w'' => e = .returned (.agg #[.int .i64 d2, .int .i64 e2]) ∧ ∃ x : Later w', w'' = x.out) (cd2 : ∀ w', Calls Try.prog 71 #[.int .i64 d2, .int .i64 t] w' fun e w'' => e = .returned (.bool true) ∧ ∃ x : Later w', w'' = x.out) (ce2 : ∀ w', Calls Try.prog 71 #[.int .i64 e2, .int .i64 t] w' fun e w'' => e = .returned (.bool false) ∧ ∃ x : Later w', w'' = x.out) :
    Calls Try.prog 51 #[.agg #[.int .i64 x0, .int .i64 y0, .int .i64 x1, .int .i64 y1, .int .i64 x2, .int .i64 y2, .int .i64 x3, .int .i64 y3, .int .i64 4], .int .i64 t] w fun e w' => e = .returned (.bool false) ∧ ∃ x : Later w, w' = x.out := by
  have Hca1 := Lib.hid ca1; clear ca1
  have Hcs1 := Lib.hid cs1; clear cs1
  have Hcd1 := Lib.hid cd1; clear cd1
  have Hce1 := Lib.hid ce1; clear ce1
  have Hca2 := Lib.hid ca2; clear ca2
  have Hcs2 := Lib.hid cs2; clear cs2
  have Hcd2 := Lib.hid cd2; clear cd2
  have Hce2 := Lib.hid ce2; clear ce2
  go_enter Try.func51, Try.ntmps51
  go_wp2
  refine wp_loop_rounds 4 ?_
  rw [rounds_succ]
  go_wp2
  refine wp_region_later_al1 15 7 (.cells #[.int .i64 0, .int .i64 0] 23) (by kernel_rfl) (by kernel_rfl) ⟨_, _, rfl, rfl, rfl, rfl, allocPt⟩ (by simp) (by kernel_rfl) (noInit_of (by kernel_rfl)) (fun y => ?_)
  simp only [List.take_succ_cons, List.take_zero, List.drop_succ_cons, List.drop_zero]
  repeat (go_big_quiet_step ((first | (go_at_call 57; with_reducible exact Later.call _ (Hca1.out _)) | (go_at_call 42; with_reducible exact Later.call _ (Hcs1.out _)))))
  refine wpQuiet_nil ?_
  intro g x hg hx
  have hgw : w.heap.size ≤ g := Nat.le_trans (by first | (simp [go_sem]; done) | (simp [go_sem]; exact Or.inl (by omega))) hg
  have hgn0 : w.heap.size < g := Nat.lt_of_lt_of_le (by simp [go_sem]) hg
  have hgm0 : (w.heap.size = g) = False := eq_false (Nat.ne_of_lt hgn0)
  have hgo0 : (g = w.heap.size) = False := eq_false (Nat.ne_of_gt hgn0)
  have hb1 : Blk x.out g 23 #[.int .i64 0, .int .i64 0] := hx
  obtain ⟨bc, bf, bl⟩ := hb1.all
  go_wp2_with (first | (go_at_call 71; (with_reducible refine (Hcd1.out _).mono ?_); rintro e _ ⟨rfl, x, rfl⟩) | (go_at_call 71; (with_reducible refine (Hce1.out _).mono ?_); rintro e _ ⟨rfl, x, rfl⟩))
  rw [rounds_succ]
  go_wp2
  refine wp_region_later_al1 15 7 (.cells #[.int .i64 0, .int .i64 0] 23) (by kernel_rfl) (by kernel_rfl) ⟨_, _, rfl, rfl, rfl, rfl, allocPt⟩ (by simp) (by kernel_rfl) (noInit_of (by kernel_rfl)) (fun y => ?_)
  simp only [List.take_succ_cons, List.take_zero, List.drop_succ_cons, List.drop_zero]
  repeat (go_big_quiet_step ((first | (go_at_call 57; with_reducible exact Later.call _ (Hca2.out _)) | (go_at_call 42; with_reducible exact Later.call _ (Hcs2.out _)))))
  refine wpQuiet_nil ?_
  intro g x hg hx
  have hgw : w.heap.size ≤ g := Nat.le_trans (by first | (simp [go_sem]; done) | (simp [go_sem]; exact Or.inl (by omega))) hg
  have hgn0 : w.heap.size < g := Nat.lt_of_lt_of_le (by simp [go_sem]) hg
  have hgm0 : (w.heap.size = g) = False := eq_false (Nat.ne_of_lt hgn0)
  have hgo0 : (g = w.heap.size) = False := eq_false (Nat.ne_of_gt hgn0)
  have hb2 : Blk x.out g 23 #[.int .i64 0, .int .i64 0] := hx
  obtain ⟨bc, bf, bl⟩ := hb2.all
  go_wp2_with (first | (go_at_call 71; (with_reducible refine (Hcd2.out _).mono ?_); rintro e _ ⟨rfl, x, rfl⟩) | (go_at_call 71; (with_reducible refine (Hce2.out _).mono ?_); rintro e _ ⟨rfl, x, rfl⟩))
  exact bodyPost_ret (v := .bool false) (by simp [results, Try.results51, go_sem, *]) rfl ⟨rfl, (Later.mk_of (by repeat (first | (with_reducible assumption) | (with_reducible exact Below.refl _ _) | (with_reducible refine Later.after ?_ _) | (with_reducible refine Later.newer ?_ _) | (with_reducible refine Below.drew ?_) | (with_reducible refine Below.setCell ?_ (by first | exact Nat.le_refl _ | exact Nat.le_add_right _ _ | omega | (simp [go_sem]; done) | (simp [go_sem]; omega)) _))))⟩

end Go.Proofs.Ytcdnekhpeghkiaa
