/-
  Is a segment simple?
-/
import Derived.Test.YtcdnekhpeghkiaaKD
import Derived.Test.YtcdnekhpeghkiaaB6
namespace Go.Proofs.Ytcdnekhpeghkiaa
set_option linter.unusedVariables false
open Go.RowKit


set_option maxRecDepth 100000 in
set_option maxHeartbeats 400000 in
theorem sharp_c (p q z u D : Int) (w : World)
    (c1 : ∀ w', Calls Try.prog 70 #[.agg #[.int .i64 p, .int .i64 q], .agg #[.int .i64 z, .int .i64 u]] w' fun e w'' => e = .returned (.int .i64 D) ∧ ∃ x : Later w', w'' = x.out) :
    Calls Try.prog 50 #[.agg #[.int .i64 p, .int .i64 q], .agg #[.int .i64 z, .int .i64 u]] w fun e w' => e = .returned (.bool (decide (D < 0))) ∧ ∃ x : Later w, w' = x.out := by
  have Hc1 := Lib.hid c1; clear c1
  go_enter Try.func50, Try.ntmps50
  go_wp2_with (first | (go_at_call 70; (with_reducible refine (Hc1.out _).mono ?_); rintro e _ ⟨rfl, x, rfl⟩))
  exact bodyPost_ret (v := .bool (decide (D < 0))) (by simp [results, Try.results50, go_sem, *]) rfl ⟨rfl, (Later.mk_of (by repeat (first | (with_reducible assumption) | (with_reducible exact Below.refl _ _) | (with_reducible refine Later.after ?_ _) | (with_reducible refine Later.newer ?_ _) | (with_reducible refine Below.drew ?_) | (with_reducible refine Below.setCell ?_ (by first | exact Nat.le_refl _ | exact Nat.le_add_right _ _ | omega | (simp [go_sem]; done) | (simp [go_sem]; omega)) _))))⟩


set_option maxRecDepth 100000 in
set_option maxHeartbeats 400000 in
theorem simple_2 (x0 y0 x1 y1 x2 y2 x3 y3 k t : Int) (w : World)
     :
    Calls Try.prog 33 #[.agg #[.int .i64 x0, .int .i64 y0, .int .i64 x1, .int .i64 y1, .int .i64 x2, .int .i64 y2, .int .i64 x3, .int .i64 y3, .int .i64 2, .int .i64 k], .int .i64 t] w fun e w' => e = .returned (.bool true) ∧ ∃ x : Later w, w' = x.out := by
  skip
  go_enter Try.func33, Try.ntmps33
  go_wp2_with (fail)
  exact bodyPost_ret (v := .bool true) (by simp [results, Try.results33, go_sem, *]) rfl ⟨rfl, (Later.mk_of (by repeat (first | (with_reducible assumption) | (with_reducible exact Below.refl _ _) | (with_reducible refine Later.after ?_ _) | (with_reducible refine Later.newer ?_ _) | (with_reducible refine Below.drew ?_) | (with_reducible refine Below.setCell ?_ (by first | exact Nat.le_refl _ | exact Nat.le_add_right _ _ | omega | (simp [go_sem]; done) | (simp [go_sem]; omega)) _))))⟩


set_option maxRecDepth 100000 in
set_option maxHeartbeats 400000 in
theorem simple_d3 (x0 y0 x1 y1 x2 y2 x3 y3 k t : Int) (w : World)
    (hk : decide (10 ≤ k) = true) :
    Calls Try.prog 33 #[.agg #[.int .i64 x0, .int .i64 y0, .int .i64 x1, .int .i64 y1, .int .i64 x2, .int .i64 y2, .int .i64 x3, .int .i64 y3, .int .i64 3, .int .i64 k], .int .i64 t] w fun e w' => e = .returned (.bool true) ∧ ∃ x : Later w, w' = x.out := by
  skip
  go_enter Try.func33, Try.ntmps33
  go_wp2_with (fail)
  exact bodyPost_ret (v := .bool true) (by simp [results, Try.results33, go_sem, *]) rfl ⟨rfl, (Later.mk_of (by repeat (first | (with_reducible assumption) | (with_reducible exact Below.refl _ _) | (with_reducible refine Later.after ?_ _) | (with_reducible refine Later.newer ?_ _) | (with_reducible refine Below.drew ?_) | (with_reducible refine Below.setCell ?_ (by first | exact Nat.le_refl _ | exact Nat.le_add_right _ _ | omega | (simp [go_sem]; done) | (simp [go_sem]; omega)) _))))⟩


set_option maxRecDepth 100000 in
set_option maxHeartbeats 2000000 in
theorem simple_s3 (x0 y0 x1 y1 x2 y2 x3 y3 k t p q z u : Int) (w : World)
    (hk : decide (10 ≤ k) = false) (c1 : ∀ w', Calls Try.prog 42 #[.agg #[.int .i64 x1, .int .i64 y1], .agg #[.int .i64 x0, .int .i64 y0]] w' fun e w'' => e = .returned (.agg #[.int .i64 p, .int .i64 q]) ∧ ∃ x : Later w', w'' = x.out)(c2 : ∀ w', Calls Try.prog 42 #[.agg #[.int .i64 x2, .int .i64 y2], .agg #[.int .i64 x1, .int .i64 y1]] w' fun e w'' => e = .returned (.agg #[.int .i64 z, .int .i64 u]) ∧ ∃ x : Later w', w'' = x.out)(c3 : ∀ w', Calls Try.prog 50 #[.agg #[.int .i64 p, .int .i64 q], .agg #[.int .i64 z, .int .i64 u]] w' fun e w'' => e = .returned (.bool true) ∧ ∃ x : Later w', w'' = x.out) :
    Calls Try.prog 33 #[.agg #[.int .i64 x0, .int .i64 y0, .int .i64 x1, .int .i64 y1, .int .i64 x2, .int .i64 y2, .int .i64 x3, .int .i64 y3, .int .i64 3, .int .i64 k], .int .i64 t] w fun e w' => e = .returned (.bool false) ∧ ∃ x : Later w, w' = x.out := by
  have Hc1 := Lib.hid c1; clear c1
  have Hc2 := Lib.hid c2; clear c2
  have Hc3 := Lib.hid c3; clear c3
  go_enter Try.func33, Try.ntmps33
  go_wp2_with (fail)
  refine wp_region_make2 26 5 6 (.cells #[.int .i64 0, .int .i64 0] 23) (.cells #[.int .i64 0, .int .i64 0] 23) (.cells #[.int .i64 p, .int .i64 q] 23) (.cells #[.int .i64 z, .int .i64 u] 23) (.agg #[.int .i64 p, .int .i64 q]) (.agg #[.int .i64 z, .int .i64 u]) (by kernel_rfl) (by kernel_rfl) rfl rfl (by kernel_rfl) (by kernel_rfl)
    ⟨_, _, rfl, rfl, rfl, rfl, allocPt⟩ ⟨_, _, rfl, rfl, rfl, rfl, allocPt⟩ ⟨_, _, _, rfl, rfl, rfl, rfl, fun v g hv => storeRow _ v g _ _ _ hv (by kernel_rfl) rfl (by kernel_rfl)⟩ ⟨_, _, _, rfl, rfl, rfl, rfl, fun v g hv => storeRow _ v g _ _ _ hv (by kernel_rfl) rfl (by kernel_rfl)⟩ (by decide) (by kernel_rfl) (by simp) (by simp) (fun y => ?_)
  simp only [List.take_succ_cons, List.take_zero]
  repeat (go_big_quiet_step ((first | (go_at_call 42; with_reducible exact Later.call _ (Hc1.out _)) | (go_at_call 42; with_reducible exact Later.call _ (Hc2.out _)))))
  refine wpQuiet_nil ?_
  intro g1 g2
  refine ⟨⟨_, _, _, _, rfl, rfl, rfl⟩, ⟨_, _, _, _, rfl, rfl, rfl⟩, ?_⟩
  intro x hg1 hg2 hg12 hx1 hx2
  unfold ptrAt
  have hgw1 : w.heap.size ≤ g1 := Nat.le_trans (by simp [go_sem]) hg1
  have hgw2 : w.heap.size ≤ g2 := Nat.le_trans (by simp [go_sem]) hg2
  have hgn0 : w.heap.size < g1 := Nat.lt_of_lt_of_le (by simp [go_sem]) hg1
  have hgn0' : w.heap.size < g2 := Nat.lt_of_lt_of_le (by simp [go_sem]) hg2
  have hgm0 : (w.heap.size = g1) = False := eq_false (Nat.ne_of_lt hgn0)
  have hgm0' : (w.heap.size = g2) = False := eq_false (Nat.ne_of_lt hgn0')
  have hb1 : Blk x.out g1 23 #[.int .i64 p, .int .i64 q] := hx1
  have hb2 : Blk x.out g2 23 #[.int .i64 z, .int .i64 u] := hx2
  obtain ⟨bc1, bf1, bl1⟩ := hb1.all
  obtain ⟨bc2, bf2, bl2⟩ := hb2.all
  go_wp2_with (first | (go_at_call 50; (with_reducible refine (Hc3.out _).mono ?_); rintro e _ ⟨rfl, x, rfl⟩))
  exact bodyPost_ret (v := .bool false) (by simp [results, Try.results33, go_sem, *]) rfl ⟨rfl, (Later.mk_of (by repeat (first | (with_reducible assumption) | (with_reducible exact Below.refl _ _) | (with_reducible refine Later.after ?_ _) | (with_reducible refine Later.newer ?_ _) | (with_reducible refine Below.drew ?_) | (with_reducible refine Below.setCell ?_ (by first | exact Nat.le_refl _ | exact Nat.le_add_right _ _ | omega | (simp [go_sem]; done) | (simp [go_sem]; omega)) _))))⟩


set_option maxRecDepth 100000 in
set_option maxHeartbeats 2000000 in
theorem simple_f3 (x0 y0 x1 y1 x2 y2 x3 y3 k t p q z u : Int) (f : Bool) (w : World)
    (hk : decide (10 ≤ k) = false) (c1 : ∀ w', Calls Try.prog 42 #[.agg #[.int .i64 x1, .int .i64 y1], .agg #[.int .i64 x0, .int .i64 y0]] w' fun e w'' => e = .returned (.agg #[.int .i64 p, .int .i64 q]) ∧ ∃ x : Later w', w'' = x.out)(c2 : ∀ w', Calls Try.prog 42 #[.agg #[.int .i64 x2, .int .i64 y2], .agg #[.int .i64 x1, .int .i64 y1]] w' fun e w'' => e = .returned (.agg #[.int .i64 z, .int .i64 u]) ∧ ∃ x : Later w', w'' = x.out)(c3 : ∀ w', Calls Try.prog 50 #[.agg #[.int .i64 p, .int .i64 q], .agg #[.int .i64 z, .int .i64 u]] w' fun e w'' => e = .returned (.bool false) ∧ ∃ x : Later w', w'' = x.out)(c4 : ∀ w', Calls Try.prog 51 #[.agg #[.int .i64 x0, .int .i64 y0, .int .i64 x1, .int .i64 y1, .int .i64 x2, .int .i64 y2, .int .i64 x3, .int .i64 y3, .int .i64 3], .int .i64 t] w' fun e w'' => e = .returned (.bool f) ∧ ∃ x : Later w', w'' = x.out) :
    Calls Try.prog 33 #[.agg #[.int .i64 x0, .int .i64 y0, .int .i64 x1, .int .i64 y1, .int .i64 x2, .int .i64 y2, .int .i64 x3, .int .i64 y3, .int .i64 3, .int .i64 k], .int .i64 t] w fun e w' => e = .returned (.bool f) ∧ ∃ x : Later w, w' = x.out := by
  have Hc1 := Lib.hid c1; clear c1
  have Hc2 := Lib.hid c2; clear c2
  have Hc3 := Lib.hid c3; clear c3
  have Hc4 := Lib.hid c4; clear c4
  go_enter Try.func33, Try.ntmps33
  go_wp2_with (fail)
  refine wp_region_make2 26 5 6 (.cells #[.int .i64 0, .int .i64 0] 23) (.cells #[.int .i64 0, .int .i64 0] 23) (.cells #[.int .i64 p, .int .i64 q] 23) (.cells #[.int .i64 z, .int .i64 u] 23) (.agg #[.int .i64 p, .int .i64 q]) (.agg #[.int .i64 z, .int .i64 u]) (by kernel_rfl) (by kernel_rfl) rfl rfl (by kernel_rfl) (by kernel_rfl)
    ⟨_, _, rfl, rfl, rfl, rfl, allocPt⟩ ⟨_, _, rfl, rfl, rfl, rfl, allocPt⟩ ⟨_, _, _, rfl, rfl, rfl, rfl, fun v g hv => storeRow _ v g _ _ _ hv (by kernel_rfl) rfl (by kernel_rfl)⟩ ⟨_, _, _, rfl, rfl, rfl, rfl, fun v g hv => storeRow _ v g _ _ _ hv (by kernel_rfl) rfl (by kernel_rfl)⟩ (by decide) (by kernel_rfl) (by simp) (by simp) (fun y => ?_)
  simp only [List.take_succ_cons, List.take_zero]
  repeat (go_big_quiet_step ((first | (go_at_call 42; with_reducible exact Later.call _ (Hc1.out _)) | (go_at_call 42; with_reducible exact Later.call _ (Hc2.out _)))))
  refine wpQuiet_nil ?_
  intro g1 g2
  refine ⟨⟨_, _, _, _, rfl, rfl, rfl⟩, ⟨_, _, _, _, rfl, rfl, rfl⟩, ?_⟩
  intro x hg1 hg2 hg12 hx1 hx2
  unfold ptrAt
  have hgw1 : w.heap.size ≤ g1 := Nat.le_trans (by simp [go_sem]) hg1
  have hgw2 : w.heap.size ≤ g2 := Nat.le_trans (by simp [go_sem]) hg2
  have hgn0 : w.heap.size < g1 := Nat.lt_of_lt_of_le (by simp [go_sem]) hg1
  have hgn0' : w.heap.size < g2 := Nat.lt_of_lt_of_le (by simp [go_sem]) hg2
  have hgm0 : (w.heap.size = g1) = False := eq_false (Nat.ne_of_lt hgn0)
  have hgm0' : (w.heap.size = g2) = False := eq_false (Nat.ne_of_lt hgn0')
  have hb1 : Blk x.out g1 23 #[.int .i64 p, .int .i64 q] := hx1
  have hb2 : Blk x.out g2 23 #[.int .i64 z, .int .i64 u] := hx2
  obtain ⟨bc1, bf1, bl1⟩ := hb1.all
  obtain ⟨bc2, bf2, bl2⟩ := hb2.all
  go_wp2_with (first | (go_at_call 50; (with_reducible refine (Hc3.out _).mono ?_); rintro e _ ⟨rfl, x, rfl⟩) | (go_at_call 51; (with_reducible refine (Hc4.out _).mono ?_); rintro e _ ⟨rfl, x, rfl⟩))
  exact bodyPost_ret (v := .bool f) (by simp [results, Try.results33, go_sem, *]) rfl ⟨rfl, (Later.mk_of (by repeat (first | (with_reducible assumption) | (with_reducible exact Below.refl _ _) | (with_reducible refine Later.after ?_ _) | (with_reducible refine Later.newer ?_ _) | (with_reducible refine Below.drew ?_) | (with_reducible refine Below.setCell ?_ (by first | exact Nat.le_refl _ | exact Nat.le_add_right _ _ | omega | (simp [go_sem]; done) | (simp [go_sem]; omega)) _))))⟩


set_option maxRecDepth 100000 in
set_option maxHeartbeats 400000 in
theorem simple_d4 (x0 y0 x1 y1 x2 y2 x3 y3 k t : Int) (w : World)
    (hk : decide (10 ≤ k) = true) :
    Calls Try.prog 33 #[.agg #[.int .i64 x0, .int .i64 y0, .int .i64 x1, .int .i64 y1, .int .i64 x2, .int .i64 y2, .int .i64 x3, .int .i64 y3, .int .i64 4, .int .i64 k], .int .i64 t] w fun e w' => e = .returned (.bool true) ∧ ∃ x : Later w, w' = x.out := by
  skip
  go_enter Try.func33, Try.ntmps33
  go_wp2_with (fail)
  exact bodyPost_ret (v := .bool true) (by simp [results, Try.results33, go_sem, *]) rfl ⟨rfl, (Later.mk_of (by repeat (first | (with_reducible assumption) | (with_reducible exact Below.refl _ _) | (with_reducible refine Later.after ?_ _) | (with_reducible refine Later.newer ?_ _) | (with_reducible refine Below.drew ?_) | (with_reducible refine Below.setCell ?_ (by first | exact Nat.le_refl _ | exact Nat.le_add_right _ _ | omega | (simp [go_sem]; done) | (simp [go_sem]; omega)) _))))⟩


set_option maxRecDepth 100000 in
set_option maxHeartbeats 2000000 in
theorem simple_s4 (x0 y0 x1 y1 x2 y2 x3 y3 k t p q z u : Int) (w : World)
    (hk : decide (10 ≤ k) = false) (c1 : ∀ w', Calls Try.prog 42 #[.agg #[.int .i64 x1, .int .i64 y1], .agg #[.int .i64 x0, .int .i64 y0]] w' fun e w'' => e = .returned (.agg #[.int .i64 p, .int .i64 q]) ∧ ∃ x : Later w', w'' = x.out)(c2 : ∀ w', Calls Try.prog 42 #[.agg #[.int .i64 x3, .int .i64 y3], .agg #[.int .i64 x2, .int .i64 y2]] w' fun e w'' => e = .returned (.agg #[.int .i64 z, .int .i64 u]) ∧ ∃ x : Later w', w'' = x.out)(c3 : ∀ w', Calls Try.prog 50 #[.agg #[.int .i64 p, .int .i64 q], .agg #[.int .i64 z, .int .i64 u]] w' fun e w'' => e = .returned (.bool true) ∧ ∃ x : Later w', w'' = x.out) :
    Calls Try.prog 33 #[.agg #[.int .i64 x0, .int .i64 y0, .int .i64 x1, .int .i64 y1, .int .i64 x2, .int .i64 y2, .int .i64 x3, .int .i64 y3, .int .i64 4, .int .i64 k], .int .i64 t] w fun e w' => e = .returned (.bool false) ∧ ∃ x : Later w, w' = x.out := by
  have Hc1 := Lib.hid c1; clear c1
  have Hc2 := Lib.hid c2; clear c2
  have Hc3 := Lib.hid c3; clear c3
  go_enter Try.func33, Try.ntmps33
  go_wp2_with (fail)
  refine wp_region_make2 26 5 6 (.cells #[.int .i64 0, .int .i64 0] 23) (.cells #[.int .i64 0, .int .i64 0] 23) (.cells #[.int .i64 p, .int .i64 q] 23) (.cells #[.int .i64 z, .int .i64 u] 23) (.agg #[.int .i64 p, .int .i64 q]) (.agg #[.int .i64 z, .int .i64 u]) (by kernel_rfl) (by kernel_rfl) rfl rfl (by kernel_rfl) (by kernel_rfl)
    ⟨_, _, rfl, rfl, rfl, rfl, allocPt⟩ ⟨_, _, rfl, rfl, rfl, rfl, allocPt⟩ ⟨_, _, _, rfl, rfl, rfl, rfl, fun v g hv => storeRow _ v g _ _ _ hv (by kernel_rfl) rfl (by kernel_rfl)⟩ ⟨_, _, _, rfl, rfl, rfl, rfl, fun v g hv => storeRow _ v g _ _ _ hv (by kernel_rfl) rfl (by kernel_rfl)⟩ (by decide) (by kernel_rfl) (by simp) (by simp) (fun y => ?_)
  simp only [List.take_succ_cons, List.take_zero]
  repeat (go_big_quiet_step ((first | (go_at_call 42; with_reducible exact Later.call _ (Hc1.out _)) | (go_at_call 42; with_reducible exact Later.call _ (Hc2.out _)))))
  refine wpQuiet_nil ?_
  intro g1 g2
  refine ⟨⟨_, _, _, _, rfl, rfl, rfl⟩, ⟨_, _, _, _, rfl, rfl, rfl⟩, ?_⟩
  intro x hg1 hg2 hg12 hx1 hx2
  unfold ptrAt
  have hgw1 : w.heap.size ≤ g1 := Nat.le_trans (by simp [go_sem]) hg1
  have hgw2 : w.heap.size ≤ g2 := Nat.le_trans (by simp [go_sem]) hg2
  have hgn0 : w.heap.size < g1 := Nat.lt_of_lt_of_le (by simp [go_sem]) hg1
  have hgn0' : w.heap.size < g2 := Nat.lt_of_lt_of_le (by simp [go_sem]) hg2
  have hgm0 : (w.heap.size = g1) = False := eq_false (Nat.ne_of_lt hgn0)
  have hgm0' : (w.heap.size = g2) = False := eq_false (Nat.ne_of_lt hgn0')
  have hb1 : Blk x.out g1 23 #[.int .i64 p, .int .i64 q] := hx1
  have hb2 : Blk x.out g2 23 #[.int .i64 z, .int .i64 u] := hx2
  obtain ⟨bc1, bf1, bl1⟩ := hb1.all
  obtain ⟨bc2, bf2, bl2⟩ := hb2.all
  go_wp2_with (first | (go_at_call 50; (with_reducible refine (Hc3.out _).mono ?_); rintro e _ ⟨rfl, x, rfl⟩))
  exact bodyPost_ret (v := .bool false) (by simp [results, Try.results33, go_sem, *]) rfl ⟨rfl, (Later.mk_of (by repeat (first | (with_reducible assumption) | (with_reducible exact Below.refl _ _) | (with_reducible refine Later.after ?_ _) | (with_reducible refine Later.newer ?_ _) | (with_reducible refine Below.drew ?_) | (with_reducible refine Below.setCell ?_ (by first | exact Nat.le_refl _ | exact Nat.le_add_right _ _ | omega | (simp [go_sem]; done) | (simp [go_sem]; omega)) _))))⟩


set_option maxRecDepth 100000 in
set_option maxHeartbeats 2000000 in
theorem simple_f4 (x0 y0 x1 y1 x2 y2 x3 y3 k t p q z u : Int) (f : Bool) (w : World)
    (hk : decide (10 ≤ k) = false) (c1 : ∀ w', Calls Try.prog 42 #[.agg #[.int .i64 x1, .int .i64 y1], .agg #[.int .i64 x0, .int .i64 y0]] w' fun e w'' => e = .returned (.agg #[.int .i64 p, .int .i64 q]) ∧ ∃ x : Later w', w'' = x.out)(c2 : ∀ w', Calls Try.prog 42 #[.agg #[.int .i64 x3, .int .i64 y3], .agg #[.int .i64 x2, .int .i64 y2]] w' fun e w'' => e = .returned (.agg #[.int .i64 z, .int .i64 u]) ∧ ∃ x : Later w', w'' = x.out)(c3 : ∀ w', Calls Try.prog 50 #[.agg #[.int .i64 p, .int .i64 q], .agg #[.int .i64 z, .int .i64 u]] w' fun e w'' => e = .returned (.bool false) ∧ ∃ x : Later w', w'' = x.out)(c4 : ∀ w', Calls Try.prog 51 #[.agg #[.int .i64 x0, .int .i64 y0, .int .i64 x1, .int .i64 y1, .int .i64 x2, .int .i64 y2, .int .i64 x3, .int .i64 y3, .int .i64 4], .int .i64 t] w' fun e w'' => e = .returned (.bool f) ∧ ∃ x : Later w', w'' = x.out) :
    Calls Try.prog 33 #[.agg #[.int .i64 x0, .int .i64 y0, .int .i64 x1, .int .i64 y1, .int .i64 x2, .int .i64 y2, .int .i64 x3, .int .i64 y3, .int .i64 4, .int .i64 k], .int .i64 t] w fun e w' => e = .returned (.bool f) ∧ ∃ x : Later w, w' = x.out := by
  have Hc1 := Lib.hid c1; clear c1
  have Hc2 := Lib.hid c2; clear c2
  have Hc3 := Lib.hid c3; clear c3
  have Hc4 := Lib.hid c4; clear c4
  go_enter Try.func33, Try.ntmps33
  go_wp2_with (fail)
  refine wp_region_make2 26 5 6 (.cells #[.int .i64 0, .int .i64 0] 23) (.cells #[.int .i64 0, .int .i64 0] 23) (.cells #[.int .i64 p, .int .i64 q] 23) (.cells #[.int .i64 z, .int .i64 u] 23) (.agg #[.int .i64 p, .int .i64 q]) (.agg #[.int .i64 z, .int .i64 u]) (by kernel_rfl) (by kernel_rfl) rfl rfl (by kernel_rfl) (by kernel_rfl)
    ⟨_, _, rfl, rfl, rfl, rfl, allocPt⟩ ⟨_, _, rfl, rfl, rfl, rfl, allocPt⟩ ⟨_, _, _, rfl, rfl, rfl, rfl, fun v g hv => storeRow _ v g _ _ _ hv (by kernel_rfl) rfl (by kernel_rfl)⟩ ⟨_, _, _, rfl, rfl, rfl, rfl, fun v g hv => storeRow _ v g _ _ _ hv (by kernel_rfl) rfl (by kernel_rfl)⟩ (by decide) (by kernel_rfl) (by simp) (by simp) (fun y => ?_)
  simp only [List.take_succ_cons, List.take_zero]
  repeat (go_big_quiet_step ((first | (go_at_call 42; with_reducible exact Later.call _ (Hc1.out _)) | (go_at_call 42; with_reducible exact Later.call _ (Hc2.out _)))))
  refine wpQuiet_nil ?_
  intro g1 g2
  refine ⟨⟨_, _, _, _, rfl, rfl, rfl⟩, ⟨_, _, _, _, rfl, rfl, rfl⟩, ?_⟩
  intro x hg1 hg2 hg12 hx1 hx2
  unfold ptrAt
  have hgw1 : w.heap.size ≤ g1 := Nat.le_trans (by simp [go_sem]) hg1
  have hgw2 : w.heap.size ≤ g2 := Nat.le_trans (by simp [go_sem]) hg2
  have hgn0 : w.heap.size < g1 := Nat.lt_of_lt_of_le (by simp [go_sem]) hg1
  have hgn0' : w.heap.size < g2 := Nat.lt_of_lt_of_le (by simp [go_sem]) hg2
  have hgm0 : (w.heap.size = g1) = False := eq_false (Nat.ne_of_lt hgn0)
  have hgm0' : (w.heap.size = g2) = False := eq_false (Nat.ne_of_lt hgn0')
  have hb1 : Blk x.out g1 23 #[.int .i64 p, .int .i64 q] := hx1
  have hb2 : Blk x.out g2 23 #[.int .i64 z, .int .i64 u] := hx2
  obtain ⟨bc1, bf1, bl1⟩ := hb1.all
  obtain ⟨bc2, bf2, bl2⟩ := hb2.all
  go_wp2_with (first | (go_at_call 50; (with_reducible refine (Hc3.out _).mono ?_); rintro e _ ⟨rfl, x, rfl⟩) | (go_at_call 51; (with_reducible refine (Hc4.out _).mono ?_); rintro e _ ⟨rfl, x, rfl⟩))
  exact bodyPost_ret (v := .bool f) (by simp [results, Try.results33, go_sem, *]) rfl ⟨rfl, (Later.mk_of (by repeat (first | (with_reducible assumption) | (with_reducible exact Below.refl _ _) | (with_reducible refine Later.after ?_ _) | (with_reducible refine Later.newer ?_ _) | (with_reducible refine Below.drew ?_) | (with_reducible refine Below.setCell ?_ (by first | exact Nat.le_refl _ | exact Nat.le_add_right _ _ | omega | (simp [go_sem]; done) | (simp [go_sem]; omega)) _))))⟩

end Go.Proofs.Ytcdnekhpeghkiaa
