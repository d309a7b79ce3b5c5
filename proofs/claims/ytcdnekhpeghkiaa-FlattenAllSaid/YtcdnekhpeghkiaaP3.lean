/-
  The reference's own test whether a segment is simple.
-/
import Derived.Test.YtcdnekhpeghkiaaP2
import Derived.Test.YtcdnekhpeghkiaaL10C
namespace Go.Proofs.Ytcdnekhpeghkiaa
set_option linter.unusedVariables false
open Go.RowKit


set_option maxRecDepth 100000 in
set_option maxHeartbeats 400000 in
theorem rsimple_2 (x0 y0 x1 y1 x2 y2 x3 y3 t k : Int) (w : World)
     :
    Calls Try.prog 53 #[.agg #[.int .i64 x0, .int .i64 y0, .int .i64 x1, .int .i64 y1, .int .i64 x2, .int .i64 y2, .int .i64 x3, .int .i64 y3, .int .i64 2], .int .i64 t, .int .i64 k] w fun e w' => e = .returned (.bool true) ∧ ∃ x : Later w, w' = x.out := by
  skip
  go_enter Try.func53, Try.ntmps53
  go_wp2_with (fail)
  exact bodyPost_ret (v := .bool true) (by simp [results, Try.results53, go_sem, *]) rfl ⟨rfl, (Later.mk_of (by repeat (first | (with_reducible assumption) | (with_reducible exact Below.refl _ _) | (with_reducible refine Later.after ?_ _) | (with_reducible refine Later.newer ?_ _) | (with_reducible refine Below.drew ?_) | (with_reducible refine Below.setCell ?_ (by first | exact Nat.le_refl _ | exact Nat.le_add_right _ _ | omega | (simp [go_sem]; done) | (simp [go_sem]; omega)) _))))⟩


set_option maxRecDepth 100000 in
set_option maxHeartbeats 400000 in
theorem rsimple_d3 (x0 y0 x1 y1 x2 y2 x3 y3 t : Int) (w : World)
     :
    Calls Try.prog 53 #[.agg #[.int .i64 x0, .int .i64 y0, .int .i64 x1, .int .i64 y1, .int .i64 x2, .int .i64 y2, .int .i64 x3, .int .i64 y3, .int .i64 3], .int .i64 t, .int .i64 10] w fun e w' => e = .returned (.bool true) ∧ ∃ x : Later w, w' = x.out := by
  skip
  go_enter Try.func53, Try.ntmps53
  go_wp2_with (fail)
  exact bodyPost_ret (v := .bool true) (by simp [results, Try.results53, go_sem, *]) rfl ⟨rfl, (Later.mk_of (by repeat (first | (with_reducible assumption) | (with_reducible exact Below.refl _ _) | (with_reducible refine Later.after ?_ _) | (with_reducible refine Later.newer ?_ _) | (with_reducible refine Below.drew ?_) | (with_reducible refine Below.setCell ?_ (by first | exact Nat.le_refl _ | exact Nat.le_add_right _ _ | omega | (simp [go_sem]; done) | (simp [go_sem]; omega)) _))))⟩


set_option maxRecDepth 100000 in
set_option maxHeartbeats 2000000 in
theorem rsimple_f3 (x0 y0 x1 y1 x2 y2 x3 y3 t k p q z u : Int) (w : World)
    (hk : (k == 10) = false) (c1 : ∀ w', Calls Try.prog 23 #[.agg #[.int .i64 x1, .int .i64 y1], .agg #[.int .i64 x0, .int .i64 y0]] w' fun e w'' => e = .returned (.agg #[.int .i64 p, .int .i64 q]) ∧ ∃ x : Later w', w'' = x.out) (c2 : ∀ w', Calls Try.prog 23 #[.agg #[.int .i64 x2, .int .i64 y2], .agg #[.int .i64 x1, .int .i64 y1]] w' fun e w'' => e = .returned (.agg #[.int .i64 z, .int .i64 u]) ∧ ∃ x : Later w', w'' = x.out) (c3 : ∀ w', Calls Try.prog 74 #[.agg #[.int .i64 x0, .int .i64 y0, .int .i64 x1, .int .i64 y1, .int .i64 x2, .int .i64 y2, .int .i64 x3, .int .i64 y3, .int .i64 3], .int .i64 t] w' fun e w'' => e = .returned (.bool false) ∧ ∃ x : Later w', w'' = x.out) :
    Calls Try.prog 53 #[.agg #[.int .i64 x0, .int .i64 y0, .int .i64 x1, .int .i64 y1, .int .i64 x2, .int .i64 y2, .int .i64 x3, .int .i64 y3, .int .i64 3], .int .i64 t, .int .i64 k] w fun e w' => e = .returned (.bool false) ∧ ∃ x : Later w, w' = x.out := by
  have Hc1 := Lib.hid c1; clear c1
  have Hc2 := Lib.hid c2; clear c2
  have Hc3 := Lib.hid c3; clear c3
  go_enter Try.func53, Try.ntmps53
  go_wp2_with (first | (go_at_call 23; (with_reducible refine (Hc1.out _).mono ?_); rintro e _ ⟨rfl, x1, rfl⟩))
  refine wp_region_later_al1 13 8 (.cells #[.int .i64 0, .int .i64 0] 23) (by kernel_rfl) (by kernel_rfl) ⟨_, _, rfl, rfl, rfl, rfl, allocPt⟩ (by simp) (by kernel_rfl) (noInit_of (by kernel_rfl)) (fun y => ?_)
  simp only [List.take_succ_cons, List.take_zero, List.drop_succ_cons, List.drop_zero]
  repeat (go_big_quiet_step ((first | (go_at_call 23; with_reducible exact Later.call _ (Hc2.out _)))))
  refine wpQuiet_nil ?_
  intro g x hg hx
  have hgw : w.heap.size ≤ g := Nat.le_trans (by first | (simp [go_sem]; done) | (simp [go_sem]; exact Or.inl (by omega))) hg
  have hgn0 : w.heap.size < g := Nat.lt_of_lt_of_le (by simp [go_sem]) hg
  have hgm0 : (w.heap.size = g) = False := eq_false (Nat.ne_of_lt hgn0)
  have hgo0 : (g = w.heap.size) = False := eq_false (Nat.ne_of_gt hgn0)
  have hgx : x1.out.heap.size < g := Nat.lt_of_lt_of_le (by first | (simp [go_sem]; done) | (simp [go_sem]; exact Or.inl (by omega))) hg
  have hgx1 : (x1.out.heap.size = g) = False := eq_false (Nat.ne_of_lt hgx)
  have hgx2 : (g = x1.out.heap.size) = False := eq_false (Nat.ne_of_gt hgx)
  have hb : Blk x.out g 23 #[.int .i64 0, .int .i64 0] := hx
  obtain ⟨bc, bf, bl⟩ := hb.all
  go_wp2_with (first | (go_at_call 74; (with_reducible refine (Hc3.out _).mono ?_); rintro e _ ⟨rfl, x, rfl⟩))
  exact bodyPost_ret (v := .bool false) (by simp [results, Try.results53, go_sem, *]) rfl ⟨rfl, (Later.mk_of (by repeat (first | (with_reducible assumption) | (with_reducible exact Below.refl _ _) | (with_reducible refine Later.after ?_ _) | (with_reducible refine Later.newer ?_ _) | (with_reducible refine Below.drew ?_) | (with_reducible refine Below.setCell ?_ (by first | exact Nat.le_refl _ | exact Nat.le_add_right _ _ | omega | (simp [go_sem]; done) | (simp [go_sem]; omega)) _))))⟩


set_option maxRecDepth 100000 in
set_option maxHeartbeats 2000000 in
theorem rsimple_s3 (x0 y0 x1 y1 x2 y2 x3 y3 t k p q z u : Int) (b : Bool) (w : World)
    (hk : (k == 10) = false) (c1 : ∀ w', Calls Try.prog 23 #[.agg #[.int .i64 x1, .int .i64 y1], .agg #[.int .i64 x0, .int .i64 y0]] w' fun e w'' => e = .returned (.agg #[.int .i64 p, .int .i64 q]) ∧ ∃ x : Later w', w'' = x.out) (c2 : ∀ w', Calls Try.prog 23 #[.agg #[.int .i64 x2, .int .i64 y2], .agg #[.int .i64 x1, .int .i64 y1]] w' fun e w'' => e = .returned (.agg #[.int .i64 z, .int .i64 u]) ∧ ∃ x : Later w', w'' = x.out) (c3 : ∀ w', Calls Try.prog 74 #[.agg #[.int .i64 x0, .int .i64 y0, .int .i64 x1, .int .i64 y1, .int .i64 x2, .int .i64 y2, .int .i64 x3, .int .i64 y3, .int .i64 3], .int .i64 t] w' fun e w'' => e = .returned (.bool true) ∧ ∃ x : Later w', w'' = x.out) (c4 : ∀ w', Calls Try.prog 75 #[.agg #[.int .i64 p, .int .i64 q], .agg #[.int .i64 z, .int .i64 u]] w' fun e w'' => e = .returned (.bool b) ∧ ∃ x : Later w', w'' = x.out) :
    Calls Try.prog 53 #[.agg #[.int .i64 x0, .int .i64 y0, .int .i64 x1, .int .i64 y1, .int .i64 x2, .int .i64 y2, .int .i64 x3, .int .i64 y3, .int .i64 3], .int .i64 t, .int .i64 k] w fun e w' => e = .returned (.bool (!b)) ∧ ∃ x : Later w, w' = x.out := by
  have Hc1 := Lib.hid c1; clear c1
  have Hc2 := Lib.hid c2; clear c2
  have Hc3 := Lib.hid c3; clear c3
  have Hc4 := Lib.hid c4; clear c4
  go_enter Try.func53, Try.ntmps53
  go_wp2_with (first | (go_at_call 23; (with_reducible refine (Hc1.out _).mono ?_); rintro e _ ⟨rfl, x1, rfl⟩))
  refine wp_region_later_al1 13 8 (.cells #[.int .i64 0, .int .i64 0] 23) (by kernel_rfl) (by kernel_rfl) ⟨_, _, rfl, rfl, rfl, rfl, allocPt⟩ (by simp) (by kernel_rfl) (noInit_of (by kernel_rfl)) (fun y => ?_)
  simp only [List.take_succ_cons, List.take_zero, List.drop_succ_cons, List.drop_zero]
  repeat (go_big_quiet_step ((first | (go_at_call 23; with_reducible exact Later.call _ (Hc2.out _)))))
  refine wpQuiet_nil ?_
  intro g x hg hx
  have hgw : w.heap.size ≤ g := Nat.le_trans (by first | (simp [go_sem]; done) | (simp [go_sem]; exact Or.inl (by omega))) hg
  have hgn0 : w.heap.size < g := Nat.lt_of_lt_of_le (by simp [go_sem]) hg
  have hgm0 : (w.heap.size = g) = False := eq_false (Nat.ne_of_lt hgn0)
  have hgo0 : (g = w.heap.size) = False := eq_false (Nat.ne_of_gt hgn0)
  have hgx : x1.out.heap.size < g := Nat.lt_of_lt_of_le (by first | (simp [go_sem]; done) | (simp [go_sem]; exact Or.inl (by omega))) hg
  have hgx1 : (x1.out.heap.size = g) = False := eq_false (Nat.ne_of_lt hgx)
  have hgx2 : (g = x1.out.heap.size) = False := eq_false (Nat.ne_of_gt hgx)
  have hb : Blk x.out g 23 #[.int .i64 0, .int .i64 0] := hx
  obtain ⟨bc, bf, bl⟩ := hb.all
  go_wp2_with (first | (go_at_call 74; (with_reducible refine (Hc3.out _).mono ?_); rintro e _ ⟨rfl, x, rfl⟩) | (go_at_call 75; (with_reducible refine (Hc4.out _).mono ?_); rintro e _ ⟨rfl, x, rfl⟩))
  exact bodyPost_ret (v := .bool (!b)) (by simp [results, Try.results53, go_sem, *]) rfl ⟨rfl, (Later.mk_of (by repeat (first | (with_reducible assumption) | (with_reducible exact Below.refl _ _) | (with_reducible refine Later.after ?_ _) | (with_reducible refine Later.newer ?_ _) | (with_reducible refine Below.drew ?_) | (with_reducible refine Below.setCell ?_ (by first | exact Nat.le_refl _ | exact Nat.le_add_right _ _ | omega | (simp [go_sem]; done) | (simp [go_sem]; omega)) _))))⟩


set_option maxRecDepth 100000 in
set_option maxHeartbeats 400000 in
theorem rsimple_d4 (x0 y0 x1 y1 x2 y2 x3 y3 t : Int) (w : World)
     :
    Calls Try.prog 53 #[.agg #[.int .i64 x0, .int .i64 y0, .int .i64 x1, .int .i64 y1, .int .i64 x2, .int .i64 y2, .int .i64 x3, .int .i64 y3, .int .i64 4], .int .i64 t, .int .i64 10] w fun e w' => e = .returned (.bool true) ∧ ∃ x : Later w, w' = x.out := by
  skip
  go_enter Try.func53, Try.ntmps53
  go_wp2_with (fail)
  exact bodyPost_ret (v := .bool true) (by simp [results, Try.results53, go_sem, *]) rfl ⟨rfl, (Later.mk_of (by repeat (first | (with_reducible assumption) | (with_reducible exact Below.refl _ _) | (with_reducible refine Later.after ?_ _) | (with_reducible refine Later.newer ?_ _) | (with_reducible refine Below.drew ?_) | (with_reducible refine Below.setCell ?_ (by first | exact Nat.le_refl _ | exact Nat.le_add_right _ _ | omega | (simp [go_sem]; done) | (simp [go_sem]; omega)) _))))⟩


set_option maxRecDepth 100000 in
set_option maxHeartbeats 2000000 in
theorem rsimple_f4 (x0 y0 x1 y1 x2 y2 x3 y3 t k p q z u : Int) (w : World)
    (hk : (k == 10) = false) (c1 : ∀ w', Calls Try.prog 23 #[.agg #[.int .i64 x1, .int .i64 y1], .agg #[.int .i64 x0, .int .i64 y0]] w' fun e w'' => e = .returned (.agg #[.int .i64 p, .int .i64 q]) ∧ ∃ x : Later w', w'' = x.out) (c2 : ∀ w', Calls Try.prog 23 #[.agg #[.int .i64 x3, .int .i64 y3], .agg #[.int .i64 x2, .int .i64 y2]] w' fun e w'' => e = .returned (.agg #[.int .i64 z, .int .i64 u]) ∧ ∃ x : Later w', w'' = x.out) (c3 : ∀ w', Calls Try.prog 74 #[.agg #[.int .i64 x0, .int .i64 y0, .int .i64 x1, .int .i64 y1, .int .i64 x2, .int .i64 y2, .int .i64 x3, .int .i64 y3, .int .i64 4], .int .i64 t] w' fun e w'' => e = .returned (.bool false) ∧ ∃ x : Later w', w'' = x.out) :
    Calls Try.prog 53 #[.agg #[.int .i64 x0, .int .i64 y0, .int .i64 x1, .int .i64 y1, .int .i64 x2, .int .i64 y2, .int .i64 x3, .int .i64 y3, .int .i64 4], .int .i64 t, .int .i64 k] w fun e w' => e = .returned (.bool false) ∧ ∃ x : Later w, w' = x.out := by
  have Hc1 := Lib.hid c1; clear c1
  have Hc2 := Lib.hid c2; clear c2
  have Hc3 := Lib.hid c3; clear c3
  go_enter Try.func53, Try.ntmps53
  go_wp2_with (first | (go_at_call 23; (with_reducible refine (Hc1.out _).mono ?_); rintro e _ ⟨rfl, x1, rfl⟩))
  refine wp_region_later_al1 13 8 (.cells #[.int .i64 0, .int .i64 0] 23) (by kernel_rfl) (by kernel_rfl) ⟨_, _, rfl, rfl, rfl, rfl, allocPt⟩ (by simp) (by kernel_rfl) (noInit_of (by kernel_rfl)) (fun y => ?_)
  simp only [List.take_succ_cons, List.take_zero, List.drop_succ_cons, List.drop_zero]
  repeat (go_big_quiet_step ((first | (go_at_call 23; with_reducible exact Later.call _ (Hc2.out _)))))
  refine wpQuiet_nil ?_
  intro g x hg hx
  have hgw : w.heap.size ≤ g := Nat.le_trans (by first | (simp [go_sem]; done) | (simp [go_sem]; exact Or.inl (by omega))) hg
  have hgn0 : w.heap.size < g := Nat.lt_of_lt_of_le (by simp [go_sem]) hg
  have hgm0 : (w.heap.size = g) = False := eq_false (Nat.ne_of_lt hgn0)
  have hgo0 : (g = w.heap.size) = False := eq_false (Nat.ne_of_gt hgn0)
  have hgx : x1.out.heap.size < g := Nat.lt_of_lt_of_le (by first | (simp [go_sem]; done) | (simp [go_sem]; exact Or.inl (by omega))) hg
  have hgx1 : (x1.out.heap.size = g) = False := eq_false (Nat.ne_of_lt hgx)
  have hgx2 : (g = x1.out.heap.size) = False := eq_false (Nat.ne_of_gt hgx)
  have hb : Blk x.out g 23 #[.int .i64 0, .int .i64 0] := hx
  obtain ⟨bc, bf, bl⟩ := hb.all
  go_wp2_with (first | (go_at_call 74; (with_reducible refine (Hc3.out _).mono ?_); rintro e _ ⟨rfl, x, rfl⟩))
  exact bodyPost_ret (v := .bool false) (by simp [results, Try.results53, go_sem, *]) rfl ⟨rfl, (Later.mk_of (by repeat (first | (with_reducible assumption) | (with_reducible exact Below.refl _ _) | (with_reducible refine Later.after ?_ _) | (with_reducible refine Later.newer ?_ _) | (with_reducible refine Below.drew ?_) | (with_reducible refine Below.setCell ?_ (by first | exact Nat.le_refl _ | exact Nat.le_add_right _ _ | omega | (simp [go_sem]; done) | (simp [go_sem]; omega)) _))))⟩


set_option maxRecDepth 100000 in
set_option maxHeartbeats 2000000 in
theorem rsimple_s4 (x0 y0 x1 y1 x2 y2 x3 y3 t k p q z u : Int) (b : Bool) (w : World)
    (hk : (k == 10) = false) (c1 : ∀ w', Calls Try.prog 23 #[.agg #[.int .i64 x1, .int .i64 y1], .agg #[.int .i64 x0, .int .i64 y0]] w' fun e w'' => e = .returned (.agg #[.int .i64 p, .int .i64 q]) ∧ ∃ x : Later w', w'' = x.out) (c2 : ∀ w', Calls Try.prog 23 #[.agg #[.int .i64 x3, .int .i64 y3], .agg #[.int .i64 x2, .int .i64 y2]] w' fun e w'' => e = .returned (.agg #[.int .i64 z, .int .i64 u]) ∧ ∃ x : Later w', w'' = x.out) (c3 : ∀ w', Calls Try.prog 74 #[.agg #[.int .i64 x0, .int .i64 y0, .int .i64 x1, .int .i64 y1, .int .i64 x2, .int .i64 y2, .int .i64 x3, .int .i64 y3, .int .i64 4], .int .i64 t] w' fun e w'' => e = .returned (.bool true) ∧ ∃ x : Later w', w'' = x.out) (c4 : ∀ w', Calls Try.prog 75 #[.agg #[.int .i64 p, .int .i64 q], .agg #[.int .i64 z, .int .i64 u]] w' fun e w'' => e = .returned (.bool b) ∧ ∃ x : Later w', w'' = x.out) :
    Calls Try.prog 53 #[.agg #[.int .i64 x0, .int .i64 y0, .int .i64 x1, .int .i64 y1, .int .i64 x2, .int .i64 y2, .int .i64 x3, .int .i64 y3, .int .i64 4], .int .i64 t, .int .i64 k] w fun e w' => e = .returned (.bool (!b)) ∧ ∃ x : Later w, w' = x.out := by
  have Hc1 := Lib.hid c1; clear c1
  have Hc2 := Lib.hid c2; clear c2
  have Hc3 := Lib.hid c3; clear c3
  have Hc4 := Lib.hid c4; clear c4
  go_enter Try.func53, Try.ntmps53
  go_wp2_with (first | (go_at_call 23; (with_reducible refine (Hc1.out _).mono ?_); rintro e _ ⟨rfl, x1, rfl⟩))
  refine wp_region_later_al1 13 8 (.cells #[.int .i64 0, .int .i64 0] 23) (by kernel_rfl) (by kernel_rfl) ⟨_, _, rfl, rfl, rfl, rfl, allocPt⟩ (by simp) (by kernel_rfl) (noInit_of (by kernel_rfl)) (fun y => ?_)
  simp only [List.take_succ_cons, List.take_zero, List.drop_succ_cons, List.drop_zero]
  repeat (go_big_quiet_step ((first | (go_at_call 23; with_reducible exact Later.call _ (Hc2.out _)))))
  refine wpQuiet_nil ?_
  intro g x hg hx
  have hgw : w.heap.size ≤ g := Nat.le_trans (by first | (simp [go_sem]; done) | (simp [go_sem]; exact Or.inl (by omega))) hg
  have hgn0 : w.heap.size < g := Nat.lt_of_lt_of_le (by simp [go_sem]) hg
  have hgm0 : (w.heap.size = g) = False := eq_false (Nat.ne_of_lt hgn0)
  have hgo0 : (g = w.heap.size) = False := eq_false (Nat.ne_of_gt hgn0)
  have hgx : x1.out.heap.size < g := Nat.lt_of_lt_of_le (by first | (simp [go_sem]; done) | (simp [go_sem]; exact Or.inl (by omega))) hg
  have hgx1 : (x1.out.heap.size = g) = False := eq_false (Nat.ne_of_lt hgx)
  have hgx2 : (g = x1.out.heap.size) = False := eq_false (Nat.ne_of_gt hgx)
  have hb : Blk x.out g 23 #[.int .i64 0, .int .i64 0] := hx
  obtain ⟨bc, bf, bl⟩ := hb.all
  go_wp2_with (first | (go_at_call 74; (with_reducible refine (Hc3.out _).mono ?_); rintro e _ ⟨rfl, x, rfl⟩) | (go_at_call 75; (with_reducible refine (Hc4.out _).mono ?_); rintro e _ ⟨rfl, x, rfl⟩))
  exact bodyPost_ret (v := .bool (!b)) (by simp [results, Try.results53, go_sem, *]) rfl ⟨rfl, (Later.mk_of (by repeat (first | (with_reducible assumption) | (with_reducible exact Below.refl _ _) | (with_reducible refine Later.after ?_ _) | (with_reducible refine Later.newer ?_ _) | (with_reducible refine Below.drew ?_) | (with_reducible refine Below.setCell ?_ (by first | exact Nat.le_refl _ | exact Nat.le_add_right _ _ | omega | (simp [go_sem]; done) | (simp [go_sem]; omega)) _))))⟩


theorem rsimple_E (s : En) (g : GoodE s) (t : Int) (t0 : 0 ≤ t) (w : World) : Calls Try.prog 53 #[.agg #[.int .i64 (s 0), .int .i64 (s 1), .int .i64 (s 2), .int .i64 (s 3), .int .i64 (s 4), .int .i64 (s 5), .int .i64 (s 6), .int .i64 (s 7), .int .i64 (s 8)], .int .i64 t, .int .i64 (s 9)] w fun e w' => e = .returned (.bool (smpB t s)) ∧ ∃ x : Later w, w' = x.out := by
  rcases nn_of g with ⟨h, h8⟩ | ⟨h, h8⟩ | ⟨h, h8⟩
  · have es : smpB t s = true := by simp [smpB, h8]
    rw [es, h8]
    exact rsimple_2 (s 0) (s 1) (s 2) (s 3) (s 4) (s 5) (s 6) (s 7) t (s 9) w
  · by_cases hk : 10 ≤ s 9
    · have es : smpB t s = true := by simp [smpB, hk]
      have e9 : s 9 = 10 := by have := g.k9; omega
      rw [es, h8, e9]
      exact rsimple_d3 (s 0) (s 1) (s 2) (s 3) (s 4) (s 5) (s 6) (s 7) t w
    have g0 := g.bd 0 (by omega)
    have g1 := g.bd 1 (by omega)
    have g2 := g.bd 2 (by omega)
    have g3 := g.bd 3 (by omega)
    have g4 := g.bd 4 (by omega)
    have g5 := g.bd 5 (by omega)
    have g6 := g.bd 6 (by omega)
    have g7 := g.bd 7 (by omega)
    have c1 := fun v => ptSub_r (s 2) (s 3) (s 0) (s 1) v
    have c2 := fun v => ptSub_r (s 4) (s 5) (s 2) (s 3) v
    rw [w64_in (s 2 - s 0) (by unfold R64; omega), w64_in (s 3 - s 1) (by unfold R64; omega)] at c1
    rw [w64_in (s 4 - s 2) (by unfold R64; omega), w64_in (s 5 - s 3) (by unfold R64; omega)] at c2
    have m1 := mul_bd29 (s 2 - s 0) (s 4 - s 2) (by omega) (by omega) (by omega) (by omega)
    have m2 := mul_bd29 (s 3 - s 1) (s 5 - s 3) (by omega) (by omega) (by omega) (by omega)
    have cd := fun v => ptDot_r (s 2 - s 0) (s 3 - s 1) (s 4 - s 2) (s 5 - s 3) v
    rw [w64_in ((s 2 - s 0) * (s 4 - s 2) + (s 3 - s 1) * (s 5 - s 3)) (by unfold R64; omega)] at cd
    have c3 := fun v => rsharp_c (s 2 - s 0) (s 3 - s 1) (s 4 - s 2) (s 5 - s 3) _ v cd
    have c4 := fun v => rflat_E s g t t0 v
    have eb : shpB s = decide ((s 2 - s 0) * (s 4 - s 2) + (s 3 - s 1) * (s 5 - s 3) < 0) := by simp [shpB, h]
    rw [← eb] at c3
    have hk' : decide (10 ≤ s 9) = false := by simp; omega
    have hk2 : (s 9 == 10) = false := by simp; omega
    have es : smpB t s = (!shpB s && fltB s t) := by simp [smpB, h8, hk']
    rw [es, h8]
    rw [h8] at c4
    cases hf : fltB s t
    · rw [hf] at c4
      simpa using rsimple_f3 (s 0) (s 1) (s 2) (s 3) (s 4) (s 5) (s 6) (s 7) t (s 9) _ _ _ _ w hk2 c1 c2 c4
    · rw [hf] at c4
      simpa using rsimple_s3 (s 0) (s 1) (s 2) (s 3) (s 4) (s 5) (s 6) (s 7) t (s 9) _ _ _ _ (shpB s) w hk2 c1 c2 c4 c3
  · by_cases hk : 10 ≤ s 9
    · have es : smpB t s = true := by simp [smpB, hk]
      have e9 : s 9 = 10 := by have := g.k9; omega
      rw [es, h8, e9]
      exact rsimple_d4 (s 0) (s 1) (s 2) (s 3) (s 4) (s 5) (s 6) (s 7) t w
    have g0 := g.bd 0 (by omega)
    have g1 := g.bd 1 (by omega)
    have g2 := g.bd 2 (by omega)
    have g3 := g.bd 3 (by omega)
    have g4 := g.bd 4 (by omega)
    have g5 := g.bd 5 (by omega)
    have g6 := g.bd 6 (by omega)
    have g7 := g.bd 7 (by omega)
    have c1 := fun v => ptSub_r (s 2) (s 3) (s 0) (s 1) v
    have c2 := fun v => ptSub_r (s 6) (s 7) (s 4) (s 5) v
    rw [w64_in (s 2 - s 0) (by unfold R64; omega), w64_in (s 3 - s 1) (by unfold R64; omega)] at c1
    rw [w64_in (s 6 - s 4) (by unfold R64; omega), w64_in (s 7 - s 5) (by unfold R64; omega)] at c2
    have m1 := mul_bd29 (s 2 - s 0) (s 6 - s 4) (by omega) (by omega) (by omega) (by omega)
    have m2 := mul_bd29 (s 3 - s 1) (s 7 - s 5) (by omega) (by omega) (by omega) (by omega)
    have cd := fun v => ptDot_r (s 2 - s 0) (s 3 - s 1) (s 6 - s 4) (s 7 - s 5) v
    rw [w64_in ((s 2 - s 0) * (s 6 - s 4) + (s 3 - s 1) * (s 7 - s 5)) (by unfold R64; omega)] at cd
    have c3 := fun v => rsharp_c (s 2 - s 0) (s 3 - s 1) (s 6 - s 4) (s 7 - s 5) _ v cd
    have c4 := fun v => rflat_E s g t t0 v
    have eb : shpB s = decide ((s 2 - s 0) * (s 6 - s 4) + (s 3 - s 1) * (s 7 - s 5) < 0) := by simp [shpB, h]
    rw [← eb] at c3
    have hk' : decide (10 ≤ s 9) = false := by simp; omega
    have hk2 : (s 9 == 10) = false := by simp; omega
    have es : smpB t s = (!shpB s && fltB s t) := by simp [smpB, h8, hk']
    rw [es, h8]
    rw [h8] at c4
    cases hf : fltB s t
    · rw [hf] at c4
      simpa using rsimple_f4 (s 0) (s 1) (s 2) (s 3) (s 4) (s 5) (s 6) (s 7) t (s 9) _ _ _ _ w hk2 c1 c2 c4
    · rw [hf] at c4
      simpa using rsimple_s4 (s 0) (s 1) (s 2) (s 3) (s 4) (s 5) (s 6) (s 7) t (s 9) _ _ _ _ (shpB s) w hk2 c1 c2 c4 c3
end Go.Proofs.Ytcdnekhpeghkiaa
