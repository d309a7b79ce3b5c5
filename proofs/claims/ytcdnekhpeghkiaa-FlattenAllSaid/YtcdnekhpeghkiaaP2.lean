/-
  The reference's own Flat.
-/
import Derived.Test.YtcdnekhpeghkiaaP1
import Derived.Test.YtcdnekhpeghkiaaKE
namespace Go.Proofs.Ytcdnekhpeghkiaa
set_option linter.unusedVariables false
open Go.RowKit


set_option maxRecDepth 100000 in
set_option maxHeartbeats 400000 in
theorem roff_1 (p q t : Int) (w : World)
    (b1 : -4294967296 ≤ p - q) (b2 : p - q ≤ 4294967296) (h : t < p - q) :
    Calls Try.prog 87 #[.int .i64 p, .int .i64 q, .int .i64 t] w fun e w' => e = .returned (.bool true) ∧ ∃ x : Later w, w' = x.out := by
  skip
  go_enter Try.func87, Try.ntmps87
  go_wp2_with (fail)
  exact bodyPost_ret (v := .bool true) (by simp [results, Try.results87, go_sem, *]) rfl ⟨rfl, (Later.mk_of (by repeat (first | (with_reducible assumption) | (with_reducible exact Below.refl _ _) | (with_reducible refine Later.after ?_ _) | (with_reducible refine Later.newer ?_ _) | (with_reducible refine Below.drew ?_) | (with_reducible refine Below.setCell ?_ (by first | exact Nat.le_refl _ | exact Nat.le_add_right _ _ | omega | (simp [go_sem]; done) | (simp [go_sem]; omega)) _))))⟩


set_option maxRecDepth 100000 in
set_option maxHeartbeats 400000 in
theorem roff_2 (p q t : Int) (w : World)
    (b1 : -4294967296 ≤ p - q) (b2 : p - q ≤ 4294967296) (b3 : -4294967296 ≤ q - p) (b4 : q - p ≤ 4294967296) (h : decide (t < p - q) = false) :
    Calls Try.prog 87 #[.int .i64 p, .int .i64 q, .int .i64 t] w fun e w' => e = .returned (.bool (decide (t < q - p))) ∧ ∃ x : Later w, w' = x.out := by
  skip
  go_enter Try.func87, Try.ntmps87
  go_wp2_with (fail)
  exact bodyPost_ret (v := .bool (decide (t < q - p))) (by simp [results, Try.results87, go_sem, *]) rfl ⟨rfl, (Later.mk_of (by repeat (first | (with_reducible assumption) | (with_reducible exact Below.refl _ _) | (with_reducible refine Later.after ?_ _) | (with_reducible refine Later.newer ?_ _) | (with_reducible refine Below.drew ?_) | (with_reducible refine Below.setCell ?_ (by first | exact Nat.le_refl _ | exact Nat.le_add_right _ _ | omega | (simp [go_sem]; done) | (simp [go_sem]; omega)) _))))⟩


theorem roff_c (p q t : Int) (w : World) (b1 : -4294967296 ≤ q - p) (b2 : q - p ≤ 4294967296) (t0 : 0 ≤ t) : Calls Try.prog 87 #[.int .i64 p, .int .i64 q, .int .i64 t] w fun e w' => e = .returned (.bool (!wB (q - p) t)) ∧ ∃ x : Later w, w' = x.out := by
  unfold wB
  by_cases h : t < p - q
  · have e : decide (-t ≤ q - p) = false := by simp; omega
    rw [e]
    exact roff_1 p q t w (by omega) (by omega) h
  · have e : decide (-t ≤ q - p) = true := by simp; omega
    have c := roff_2 p q t w (by omega) (by omega) b1 b2 (by simp; omega)
    rw [e, Bool.true_and]
    have e2 : decide (t < q - p) = !decide (q - p ≤ t) := by
      by_cases k : t < q - p <;> simp [k] <;> omega
    rw [e2] at c
    exact c


set_option maxRecDepth 100000 in
set_option maxHeartbeats 2000000 in
theorem rflat_2 (x0 y0 x1 y1 x2 y2 x3 y3 t : Int) (w : World)
     :
    Calls Try.prog 74 #[.agg #[.int .i64 x0, .int .i64 y0, .int .i64 x1, .int .i64 y1, .int .i64 x2, .int .i64 y2, .int .i64 x3, .int .i64 y3, .int .i64 2], .int .i64 t] w fun e w' => e = .returned (.bool true) ∧ ∃ x : Later w, w' = x.out := by
  skip
  go_enter Try.func74, Try.ntmps74
  go_wp2
  refine wp_loop_rounds 2 ?_
  rw [rounds_succ]
  go_wp2
  exact bodyPost_ret (v := .bool true) (by simp [results, Try.results74, go_sem, *]) rfl ⟨rfl, (Later.mk_of (by repeat (first | (with_reducible assumption) | (with_reducible exact Below.refl _ _) | (with_reducible refine Later.after ?_ _) | (with_reducible refine Later.newer ?_ _) | (with_reducible refine Below.drew ?_) | (with_reducible refine Below.setCell ?_ (by first | exact Nat.le_refl _ | exact Nat.le_add_right _ _ | omega | (simp [go_sem]; done) | (simp [go_sem]; omega)) _))))⟩


set_option maxRecDepth 100000 in
set_option maxHeartbeats 2000000 in
theorem rflat_3y (x0 y0 x1 y1 x2 y2 x3 y3 t P1 Q1 : Int) (w : World)
    (ca1 : ∀ w', Calls Try.prog 86 #[.agg #[.int .i64 x0, .int .i64 y0], .agg #[.int .i64 x2, .int .i64 y2], .int .i64 1, .int .i64 2] w' fun e w'' => e = .returned (.agg #[.int .i64 P1, .int .i64 Q1]) ∧ ∃ x : Later w', w'' = x.out) (cd1 : ∀ w', Calls Try.prog 87 #[.int .i64 x1, .int .i64 P1, .int .i64 t] w' fun e w'' => e = .returned (.bool false) ∧ ∃ x : Later w', w'' = x.out) (ce1 : ∀ w', Calls Try.prog 87 #[.int .i64 y1, .int .i64 Q1, .int .i64 t] w' fun e w'' => e = .returned (.bool false) ∧ ∃ x : Later w', w'' = x.out) :
    Calls Try.prog 74 #[.agg #[.int .i64 x0, .int .i64 y0, .int .i64 x1, .int .i64 y1, .int .i64 x2, .int .i64 y2, .int .i64 x3, .int .i64 y3, .int .i64 3], .int .i64 t] w fun e w' => e = .returned (.bool true) ∧ ∃ x : Later w, w' = x.out := by
  have Hca1 := Lib.hid ca1; clear ca1
  have Hcd1 := Lib.hid cd1; clear cd1
  have Hce1 := Lib.hid ce1; clear ce1
  go_enter Try.func74, Try.ntmps74
  go_wp2
  refine wp_loop_rounds 3 ?_
  rw [rounds_succ]
  go_wp2
  refine wp_region_later_al1 14 6 (.cells #[.int .i64 0, .int .i64 0] 23) (by kernel_rfl) (by kernel_rfl) ⟨_, _, rfl, rfl, rfl, rfl, allocPt⟩ (by simp) (by kernel_rfl) (noInit_of (by kernel_rfl)) (fun y => ?_)
  simp only [List.take_succ_cons, List.take_zero, List.drop_succ_cons, List.drop_zero]
  repeat (go_big_quiet_step ((first | (go_at_call 86; with_reducible exact Later.call _ (Hca1.out _)))))
  refine wpQuiet_nil ?_
  intro g x hg hx
  have hgw : w.heap.size ≤ g := Nat.le_trans (by first | (simp [go_sem]; done) | (simp [go_sem]; exact Or.inl (by omega))) hg
  have hgn0 : w.heap.size < g := Nat.lt_of_lt_of_le (by simp [go_sem]) hg
  have hgm0 : (w.heap.size = g) = False := eq_false (Nat.ne_of_lt hgn0)
  have hgo0 : (g = w.heap.size) = False := eq_false (Nat.ne_of_gt hgn0)
  have hb1 : Blk x.out g 23 #[.int .i64 0, .int .i64 0] := hx
  obtain ⟨bc, bf, bl⟩ := hb1.all
  go_wp2_with (fail)
  refine wp_region_later (by kernel_rfl) (by kernel_rfl) ?_
  repeat (go_big_quiet_step ((first | (go_at_call 87; with_reducible exact Later.call _ (Hcd1.out _)) | (go_at_call 87; with_reducible exact Later.call _ (Hce1.out _)))))
  refine wpQuiet_nil ?_
  intro x
  go_wp2_with (fail)
  rw [rounds_succ]
  go_wp2
  exact bodyPost_ret (v := .bool true) (by simp [results, Try.results74, go_sem, *]) rfl ⟨rfl, (Later.mk_of (by repeat (first | (with_reducible assumption) | (with_reducible exact Below.refl _ _) | (with_reducible refine Later.after ?_ _) | (with_reducible refine Later.newer ?_ _) | (with_reducible refine Below.drew ?_) | (with_reducible refine Below.setCell ?_ (by first | exact Nat.le_refl _ | exact Nat.le_add_right _ _ | omega | (simp [go_sem]; done) | (simp [go_sem]; omega)) _))))⟩


set_option maxRecDepth 100000 in
set_option maxHeartbeats 2000000 in
theorem rflat_3n10 (x0 y0 x1 y1 x2 y2 x3 y3 t P1 Q1 : Int) (w : World)
    (ca1 : ∀ w', Calls Try.prog 86 #[.agg #[.int .i64 x0, .int .i64 y0], .agg #[.int .i64 x2, .int .i64 y2], .int .i64 1, .int .i64 2] w' fun e w'' => e = .returned (.agg #[.int .i64 P1, .int .i64 Q1]) ∧ ∃ x : Later w', w'' = x.out) (cd1 : ∀ w', Calls Try.prog 87 #[.int .i64 x1, .int .i64 P1, .int .i64 t] w' fun e w'' => e = .returned (.bool true) ∧ ∃ x : Later w', w'' = x.out) :
    Calls Try.prog 74 #[.agg #[.int .i64 x0, .int .i64 y0, .int .i64 x1, .int .i64 y1, .int .i64 x2, .int .i64 y2, .int .i64 x3, .int .i64 y3, .int .i64 3], .int .i64 t] w fun e w' => e = .returned (.bool false) ∧ ∃ x : Later w, w' = x.out := by
  have Hca1 := Lib.hid ca1; clear ca1
  have Hcd1 := Lib.hid cd1; clear cd1
  go_enter Try.func74, Try.ntmps74
  go_wp2
  refine wp_loop_rounds 3 ?_
  rw [rounds_succ]
  go_wp2
  refine wp_region_later_al1 14 6 (.cells #[.int .i64 0, .int .i64 0] 23) (by kernel_rfl) (by kernel_rfl) ⟨_, _, rfl, rfl, rfl, rfl, allocPt⟩ (by simp) (by kernel_rfl) (noInit_of (by kernel_rfl)) (fun y => ?_)
  simp only [List.take_succ_cons, List.take_zero, List.drop_succ_cons, List.drop_zero]
  repeat (go_big_quiet_step ((first | (go_at_call 86; with_reducible exact Later.call _ (Hca1.out _)))))
  refine wpQuiet_nil ?_
  intro g x hg hx
  have hgw : w.heap.size ≤ g := Nat.le_trans (by first | (simp [go_sem]; done) | (simp [go_sem]; exact Or.inl (by omega))) hg
  have hgn0 : w.heap.size < g := Nat.lt_of_lt_of_le (by simp [go_sem]) hg
  have hgm0 : (w.heap.size = g) = False := eq_false (Nat.ne_of_lt hgn0)
  have hgo0 : (g = w.heap.size) = False := eq_false (Nat.ne_of_gt hgn0)
  have hb1 : Blk x.out g 23 #[.int .i64 0, .int .i64 0] := hx
  obtain ⟨bc, bf, bl⟩ := hb1.all
  go_wp2_with (fail)
  refine wp_region_later (by kernel_rfl) (by kernel_rfl) ?_
  repeat (go_big_quiet_step ((first | (go_at_call 87; with_reducible exact Later.call _ (Hcd1.out _)))))
  refine wpQuiet_nil ?_
  intro x
  go_wp2_with (fail)
  exact bodyPost_ret (v := .bool false) (by simp [results, Try.results74, go_sem, *]) rfl ⟨rfl, (Later.mk_of (by repeat (first | (with_reducible assumption) | (with_reducible exact Below.refl _ _) | (with_reducible refine Later.after ?_ _) | (with_reducible refine Later.newer ?_ _) | (with_reducible refine Below.drew ?_) | (with_reducible refine Below.setCell ?_ (by first | exact Nat.le_refl _ | exact Nat.le_add_right _ _ | omega | (simp [go_sem]; done) | (simp [go_sem]; omega)) _))))⟩


set_option maxRecDepth 100000 in
set_option maxHeartbeats 2000000 in
theorem rflat_3n11 (x0 y0 x1 y1 x2 y2 x3 y3 t P1 Q1 : Int) (w : World)
    (ca1 : ∀ w', Calls Try.prog 86 #[.agg #[.int .i64 x0, .int .i64 y0], .agg #[.int .i64 x2, .int .i64 y2], .int .i64 1, .int .i64 2] w' fun e w'' => e = .returned (.agg #[.int .i64 P1, .int .i64 Q1]) ∧ ∃ x : Later w', w'' = x.out) (cd1 : ∀ w', Calls Try.prog 87 #[.int .i64 x1, .int .i64 P1, .int .i64 t] w' fun e w'' => e = .returned (.bool false) ∧ ∃ x : Later w', w'' = x.out) (ce1 : ∀ w', Calls Try.prog 87 #[.int .i64 y1, .int .i64 Q1, .int .i64 t] w' fun e w'' => e = .returned (.bool true) ∧ ∃ x : Later w', w'' = x.out) :
    Calls Try.prog 74 #[.agg #[.int .i64 x0, .int .i64 y0, .int .i64 x1, .int .i64 y1, .int .i64 x2, .int .i64 y2, .int .i64 x3, .int .i64 y3, .int .i64 3], .int .i64 t] w fun e w' => e = .returned (.bool false) ∧ ∃ x : Later w, w' = x.out := by
  have Hca1 := Lib.hid ca1; clear ca1
  have Hcd1 := Lib.hid cd1; clear cd1
  have Hce1 := Lib.hid ce1; clear ce1
  go_enter Try.func74, Try.ntmps74
  go_wp2
  refine wp_loop_rounds 3 ?_
  rw [rounds_succ]
  go_wp2
  refine wp_region_later_al1 14 6 (.cells #[.int .i64 0, .int .i64 0] 23) (by kernel_rfl) (by kernel_rfl) ⟨_, _, rfl, rfl, rfl, rfl, allocPt⟩ (by simp) (by kernel_rfl) (noInit_of (by kernel_rfl)) (fun y => ?_)
  simp only [List.take_succ_cons, List.take_zero, List.drop_succ_cons, List.drop_zero]
  repeat (go_big_quiet_step ((first | (go_at_call 86; with_reducible exact Later.call _ (Hca1.out _)))))
  refine wpQuiet_nil ?_
  intro g x hg hx
  have hgw : w.heap.size ≤ g := Nat.le_trans (by first | (simp [go_sem]; done) | (simp [go_sem]; exact Or.inl (by omega))) hg
  have hgn0 : w.heap.size < g := Nat.lt_of_lt_of_le (by simp [go_sem]) hg
  have hgm0 : (w.heap.size = g) = False := eq_false (Nat.ne_of_lt hgn0)
  have hgo0 : (g = w.heap.size) = False := eq_false (Nat.ne_of_gt hgn0)
  have hb1 : Blk x.out g 23 #[.int .i64 0, .int .i64 0] := hx
  obtain ⟨bc, bf, bl⟩ := hb1.all
  go_wp2_with (fail)
  refine wp_region_later (by kernel_rfl) (by kernel_rfl) ?_
  repeat (go_big_quiet_step ((first | (go_at_call 87; with_reducible exact Later.call _ (Hcd1.out _)) | (go_at_call 87; with_reducible exact Later.call _ (Hce1.out _)))))
  refine wpQuiet_nil ?_
  intro x
  go_wp2_with (fail)
  exact bodyPost_ret (v := .bool false) (by simp [results, Try.results74, go_sem, *]) rfl ⟨rfl, (Later.mk_of (by repeat (first | (with_reducible assumption) | (with_reducible exact Below.refl _ _) | (with_reducible refine Later.after ?_ _) | (with_reducible refine Later.newer ?_ _) | (with_reducible refine Below.drew ?_) | (with_reducible refine Below.setCell ?_ (by first | exact Nat.le_refl _ | exact Nat.le_add_right _ _ | omega | (simp [go_sem]; done) | (simp [go_sem]; omega)) _))))⟩


set_option maxRecDepth 100000 in
set_option maxHeartbeats 2000000 in
theorem rflat_4y (x0 y0 x1 y1 x2 y2 x3 y3 t P1 Q1 P2 Q2 : Int) (w : World)
    (ca1 : ∀ w', Calls Try.prog 86 #[.agg #[.int .i64 x0, .int .i64 y0], .agg #[.int .i64 x3, .int .i64 y3], .int .i64 1, .int .i64 3] w' fun e w'' => e = .returned (.agg #[.int .i64 P1, .int .i64 Q1]) ∧ ∃ x : Later w', w'' = x.out) (cd1 : ∀ w', Calls Try.prog 87 #[.int .i64 x1, .int .i64 P1, .int .i64 t] w' fun e w'' => e = .returned (.bool false) ∧ ∃ x : Later w', w'' = x.out) (ce1 : ∀ w', Calls Try.prog 87 #[.int .i64 y1, .int .i64 Q1, .int .i64 t] w' fun e w'' => e = .returned (.bool false) ∧ ∃ x : Later w', w'' = x.out) (ca2 : ∀ w', Calls Try.prog 86 #[.agg #[.int .i64 x0, .int .i64 y0], .agg #[.int .i64 x3, .int .i64 y3], .int .i64 2, .int .i64 3] w' fun e w'' => e = .returned (.agg #[.int .i64 P2, .int .i64 Q2]) ∧ ∃ x : Later w', w'' = x.out) (cd2 : ∀ w', Calls Try.prog 87 #[.int .i64 x2, .int .i64 P2, .int .i64 t] w' fun e w'' => e = .returned (.bool false) ∧ ∃ x : Later w', w'' = x.out) (ce2 : ∀ w', Calls Try.prog 87 #[.int .i64 y2, .int .i64 Q2, .int .i64 t] w' fun e w'' => e = .returned (.bool false) ∧ ∃ x : Later w', w'' = x.out) :
    Calls Try.prog 74 #[.agg #[.int .i64 x0, .int .i64 y0, .int .i64 x1, .int .i64 y1, .int .i64 x2, .int .i64 y2, .int .i64 x3, .int .i64 y3, .int .i64 4], .int .i64 t] w fun e w' => e = .returned (.bool true) ∧ ∃ x : Later w, w' = x.out := by
  have Hca1 := Lib.hid ca1; clear ca1
  have Hcd1 := Lib.hid cd1; clear cd1
  have Hce1 := Lib.hid ce1; clear ce1
  have Hca2 := Lib.hid ca2; clear ca2
  have Hcd2 := Lib.hid cd2; clear cd2
  have Hce2 := Lib.hid ce2; clear ce2
  go_enter Try.func74, Try.ntmps74
  go_wp2
  refine wp_loop_rounds 4 ?_
  rw [rounds_succ]
  go_wp2
  refine wp_region_later_al1 14 6 (.cells #[.int .i64 0, .int .i64 0] 23) (by kernel_rfl) (by kernel_rfl) ⟨_, _, rfl, rfl, rfl, rfl, allocPt⟩ (by simp) (by kernel_rfl) (noInit_of (by kernel_rfl)) (fun y => ?_)
  simp only [List.take_succ_cons, List.take_zero, List.drop_succ_cons, List.drop_zero]
  repeat (go_big_quiet_step ((first | (go_at_call 86; with_reducible exact Later.call _ (Hca1.out _)))))
  refine wpQuiet_nil ?_
  intro g x hg hx
  have hgw : w.heap.size ≤ g := Nat.le_trans (by first | (simp [go_sem]; done) | (simp [go_sem]; exact Or.inl (by omega))) hg
  have hgn0 : w.heap.size < g := Nat.lt_of_lt_of_le (by simp [go_sem]) hg
  have hgm0 : (w.heap.size = g) = False := eq_false (Nat.ne_of_lt hgn0)
  have hgo0 : (g = w.heap.size) = False := eq_false (Nat.ne_of_gt hgn0)
  have hb1 : Blk x.out g 23 #[.int .i64 0, .int .i64 0] := hx
  obtain ⟨bc, bf, bl⟩ := hb1.all
  go_wp2_with (fail)
  refine wp_region_later (by kernel_rfl) (by kernel_rfl) ?_
  repeat (go_big_quiet_step ((first | (go_at_call 87; with_reducible exact Later.call _ (Hcd1.out _)) | (go_at_call 87; with_reducible exact Later.call _ (Hce1.out _)))))
  refine wpQuiet_nil ?_
  intro x
  go_wp2_with (fail)
  rw [rounds_succ]
  go_wp2
  refine wp_region_later_al1 14 6 (.cells #[.int .i64 0, .int .i64 0] 23) (by kernel_rfl) (by kernel_rfl) ⟨_, _, rfl, rfl, rfl, rfl, allocPt⟩ (by simp) (by kernel_rfl) (noInit_of (by kernel_rfl)) (fun y => ?_)
  simp only [List.take_succ_cons, List.take_zero, List.drop_succ_cons, List.drop_zero]
  repeat (go_big_quiet_step ((first | (go_at_call 86; with_reducible exact Later.call _ (Hca2.out _)))))
  refine wpQuiet_nil ?_
  intro g x hg hx
  have hgw : w.heap.size ≤ g := Nat.le_trans (by first | (simp [go_sem]; done) | (simp [go_sem]; exact Or.inl (by omega))) hg
  have hgn0 : w.heap.size < g := Nat.lt_of_lt_of_le (by simp [go_sem]) hg
  have hgm0 : (w.heap.size = g) = False := eq_false (Nat.ne_of_lt hgn0)
  have hgo0 : (g = w.heap.size) = False := eq_false (Nat.ne_of_gt hgn0)
  have hb2 : Blk x.out g 23 #[.int .i64 0, .int .i64 0] := hx
  obtain ⟨bc, bf, bl⟩ := hb2.all
  go_wp2_with (fail)
  refine wp_region_later (by kernel_rfl) (by kernel_rfl) ?_
  repeat (go_big_quiet_step ((first | (go_at_call 87; with_reducible exact Later.call _ (Hcd2.out _)) | (go_at_call 87; with_reducible exact Later.call _ (Hce2.out _)))))
  refine wpQuiet_nil ?_
  intro x
  go_wp2_with (fail)
  rw [rounds_succ]
  go_wp2
  exact bodyPost_ret (v := .bool true) (by simp [results, Try.results74, go_sem, *]) rfl ⟨rfl, (Later.mk_of (by repeat (first | (with_reducible assumption) | (with_reducible exact Below.refl _ _) | (with_reducible refine Later.after ?_ _) | (with_reducible refine Later.newer ?_ _) | (with_reducible refine Below.drew ?_) | (with_reducible refine Below.setCell ?_ (by first | exact Nat.le_refl _ | exact Nat.le_add_right _ _ | omega | (simp [go_sem]; done) | (simp [go_sem]; omega)) _))))⟩


set_option maxRecDepth 100000 in
set_option maxHeartbeats 2000000 in
theorem rflat_4n10 (x0 y0 x1 y1 x2 y2 x3 y3 t P1 Q1 : Int) (w : World)
    (ca1 : ∀ w', Calls Try.prog 86 #[.agg #[.int .i64 x0, .int .i64 y0], .agg #[.int .i64 x3, .int .i64 y3], .int .i64 1, .int .i64 3] w' fun e w'' => e = .returned (.agg #[.int .i64 P1, .int .i64 Q1]) ∧ ∃ x : Later w', w'' = x.out) (cd1 : ∀ w', Calls Try.prog 87 #[.int .i64 x1, .int .i64 P1, .int .i64 t] w' fun e w'' => e = .returned (.bool true) ∧ ∃ x : Later w', w'' = x.out) :
    Calls Try.prog 74 #[.agg #[.int .i64 x0, .int .i64 y0, .int .i64 x1, .int .i64 y1, .int .i64 x2, .int .i64 y2, .int .i64 x3, .int .i64 y3, .int .i64 4], .int .i64 t] w fun e w' => e = .returned (.bool false) ∧ ∃ x : Later w, w' = x.out := by
  have Hca1 := Lib.hid ca1; clear ca1
  have Hcd1 := Lib.hid cd1; clear cd1
  go_enter Try.func74, Try.ntmps74
  go_wp2
  refine wp_loop_rounds 4 ?_
  rw [rounds_succ]
  go_wp2
  refine wp_region_later_al1 14 6 (.cells #[.int .i64 0, .int .i64 0] 23) (by kernel_rfl) (by kernel_rfl) ⟨_, _, rfl, rfl, rfl, rfl, allocPt⟩ (by simp) (by kernel_rfl) (noInit_of (by kernel_rfl)) (fun y => ?_)
  simp only [List.take_succ_cons, List.take_zero, List.drop_succ_cons, List.drop_zero]
  repeat (go_big_quiet_step ((first | (go_at_call 86; with_reducible exact Later.call _ (Hca1.out _)))))
  refine wpQuiet_nil ?_
  intro g x hg hx
  have hgw : w.heap.size ≤ g := Nat.le_trans (by first | (simp [go_sem]; done) | (simp [go_sem]; exact Or.inl (by omega))) hg
  have hgn0 : w.heap.size < g := Nat.lt_of_lt_of_le (by simp [go_sem]) hg
  have hgm0 : (w.heap.size = g) = False := eq_false (Nat.ne_of_lt hgn0)
  have hgo0 : (g = w.heap.size) = False := eq_false (Nat.ne_of_gt hgn0)
  have hb1 : Blk x.out g 23 #[.int .i64 0, .int .i64 0] := hx
  obtain ⟨bc, bf, bl⟩ := hb1.all
  go_wp2_with (fail)
  refine wp_region_later (by kernel_rfl) (by kernel_rfl) ?_
  repeat (go_big_quiet_step ((first | (go_at_call 87; with_reducible exact Later.call _ (Hcd1.out _)))))
  refine wpQuiet_nil ?_
  intro x
  go_wp2_with (fail)
  exact bodyPost_ret (v := .bool false) (by simp [results, Try.results74, go_sem, *]) rfl ⟨rfl, (Later.mk_of (by repeat (first | (with_reducible assumption) | (with_reducible exact Below.refl _ _) | (with_reducible refine Later.after ?_ _) | (with_reducible refine Later.newer ?_ _) | (with_reducible refine Below.drew ?_) | (with_reducible refine Below.setCell ?_ (by first | exact Nat.le_refl _ | exact Nat.le_add_right _ _ | omega | (simp [go_sem]; done) | (simp [go_sem]; omega)) _))))⟩


set_option maxRecDepth 100000 in
set_option maxHeartbeats 2000000 in
theorem rflat_4n11 (x0 y0 x1 y1 x2 y2 x3 y3 t P1 Q1 : Int) (w : World)
    (ca1 : ∀ w', Calls Try.prog 86 #[.agg #[.int .i64 x0, .int .i64 y0], .agg #[.int .i64 x3, .int .i64 y3], .int .i64 1, .int .i64 3] w' fun e w'' => e = .returned (.agg #[.int .i64 P1, .int .i64 Q1]) ∧ ∃ x : Later w', w'' = x.out) (cd1 : ∀ w', Calls Try.prog 87 #[.int .i64 x1, .int .i64 P1, .int .i64 t] w' fun e w'' => e = .returned (.bool false) ∧ ∃ x : Later w', w'' = x.out) (ce1 : ∀ w', Calls Try.prog 87 #[.int .i64 y1, .int .i64 Q1, .int .i64 t] w' fun e w'' => e = .returned (.bool true) ∧ ∃ x : Later w', w'' = x.out) :
    Calls Try.prog 74 #[.agg #[.int .i64 x0, .int .i64 y0, .int .i64 x1, .int .i64 y1, .int .i64 x2, .int .i64 y2, .int .i64 x3, .int .i64 y3, .int .i64 4], .int .i64 t] w fun e w' => e = .returned (.bool false) ∧ ∃ x : Later w, w' = x.out := by
  have Hca1 := Lib.hid ca1; clear ca1
  have Hcd1 := Lib.hid cd1; clear cd1
  have Hce1 := Lib.hid ce1; clear ce1
  go_enter Try.func74, Try.ntmps74
  go_wp2
  refine wp_loop_rounds 4 ?_
  rw [rounds_succ]
  go_wp2
  refine wp_region_later_al1 14 6 (.cells #[.int .i64 0, .int .i64 0] 23) (by kernel_rfl) (by kernel_rfl) ⟨_, _, rfl, rfl, rfl, rfl, allocPt⟩ (by simp) (by kernel_rfl) (noInit_of (by kernel_rfl)) (fun y => ?_)
  simp only [List.take_succ_cons, List.take_zero, List.drop_succ_cons, List.drop_zero]
  repeat (go_big_quiet_step ((first | (go_at_call 86; with_reducible exact Later.call _ (Hca1.out _)))))
  refine wpQuiet_nil ?_
  intro g x hg hx
  have hgw : w.heap.size ≤ g := Nat.le_trans (by first | (simp [go_sem]; done) | (simp [go_sem]; exact Or.inl (by omega))) hg
  have hgn0 : w.heap.size < g := Nat.lt_of_lt_of_le (by simp [go_sem]) hg
  have hgm0 : (w.heap.size = g) = False := eq_false (Nat.ne_of_lt hgn0)
  have hgo0 : (g = w.heap.size) = False := eq_false (Nat.ne_of_gt hgn0)
  have hb1 : Blk x.out g 23 #[.int .i64 0, .int .i64 0] := hx
  obtain ⟨bc, bf, bl⟩ := hb1.all
  go_wp2_with (fail)
  refine wp_region_later (by kernel_rfl) (by kernel_rfl) ?_
  repeat (go_big_quiet_step ((first | (go_at_call 87; with_reducible exact Later.call _ (Hcd1.out _)) | (go_at_call 87; with_reducible exact Later.call _ (Hce1.out _)))))
  refine wpQuiet_nil ?_
  intro x
  go_wp2_with (fail)
  exact bodyPost_ret (v := .bool false) (by simp [results, Try.results74, go_sem, *]) rfl ⟨rfl, (Later.mk_of (by repeat (first | (with_reducible assumption) | (with_reducible exact Below.refl _ _) | (with_reducible refine Later.after ?_ _) | (with_reducible refine Later.newer ?_ _) | (with_reducible refine Below.drew ?_) | (with_reducible refine Below.setCell ?_ (by first | exact Nat.le_refl _ | exact Nat.le_add_right _ _ | omega | (simp [go_sem]; done) | (simp [go_sem]; omega)) _))))⟩


set_option maxRecDepth 100000 in
set_option maxHeartbeats 2000000 in
theorem rflat_4n20 (x0 y0 x1 y1 x2 y2 x3 y3 t P1 Q1 P2 Q2 : Int) (w : World)
    (ca1 : ∀ w', Calls Try.prog 86 #[.agg #[.int .i64 x0, .int .i64 y0], .agg #[.int .i64 x3, .int .i64 y3], .int .i64 1, .int .i64 3] w' fun e w'' => e = .returned (.agg #[.int .i64 P1, .int .i64 Q1]) ∧ ∃ x : Later w', w'' = x.out) (cd1 : ∀ w', Calls Try.prog 87 #[.int .i64 x1, .int .i64 P1, .int .i64 t] w' fun e w'' => e = .returned (.bool false) ∧ ∃ x : Later w', w'' = x.out) (ce1 : ∀ w', Calls Try.prog 87 #[.int .i64 y1, .int .i64 Q1, .int .i64 t] w' fun e w'' => e = .returned (.bool false) ∧ ∃ x : Later w', w'' = x.out) (ca2 : ∀ w', Calls Try.prog 86 #[.agg #[.int .i64 x0, .int .i64 y0], .agg #[.int .i64 x3, .int .i64 y3], .int .i64 2, .int .i64 3] w' fun e w'' => e = .returned (.agg #[.int .i64 P2, .int .i64 Q2]) ∧ ∃ x : Later w', w'' = x.out) (cd2 : ∀ w', Calls Try.prog 87 #[.int .i64 x2, .int .i64 P2, .int .i64 t] w' fun e w'' => e = .returned (.bool true) ∧ ∃ x : Later w', w'' = x.out) :
    Calls Try.prog 74 #[.agg #[.int .i64 x0, .int .i64 y0, .int .i64 x1, .int .i64 y1, .int .i64 x2, .int .i64 y2, .int .i64 x3, .int .i64 y3, .int .i64 4], .int .i64 t] w fun e w' => e = .returned (.bool false) ∧ ∃ x : Later w, w' = x.out := by
  have Hca1 := Lib.hid ca1; clear ca1
  have Hcd1 := Lib.hid cd1; clear cd1
  have Hce1 := Lib.hid ce1; clear ce1
  have Hca2 := Lib.hid ca2; clear ca2
  have Hcd2 := Lib.hid cd2; clear cd2
  go_enter Try.func74, Try.ntmps74
  go_wp2
  refine wp_loop_rounds 4 ?_
  rw [rounds_succ]
  go_wp2
  refine wp_region_later_al1 14 6 (.cells #[.int .i64 0, .int .i64 0] 23) (by kernel_rfl) (by kernel_rfl) ⟨_, _, rfl, rfl, rfl, rfl, allocPt⟩ (by simp) (by kernel_rfl) (noInit_of (by kernel_rfl)) (fun y => ?_)
  simp only [List.take_succ_cons, List.take_zero, List.drop_succ_cons, List.drop_zero]
  repeat (go_big_quiet_step ((first | (go_at_call 86; with_reducible exact Later.call _ (Hca1.out _)))))
  refine wpQuiet_nil ?_
  intro g x hg hx
  have hgw : w.heap.size ≤ g := Nat.le_trans (by first | (simp [go_sem]; done) | (simp [go_sem]; exact Or.inl (by omega))) hg
  have hgn0 : w.heap.size < g := Nat.lt_of_lt_of_le (by simp [go_sem]) hg
  have hgm0 : (w.heap.size = g) = False := eq_false (Nat.ne_of_lt hgn0)
  have hgo0 : (g = w.heap.size) = False := eq_false (Nat.ne_of_gt hgn0)
  have hb1 : Blk x.out g 23 #[.int .i64 0, .int .i64 0] := hx
  obtain ⟨bc, bf, bl⟩ := hb1.all
  go_wp2_with (fail)
  refine wp_region_later (by kernel_rfl) (by kernel_rfl) ?_
  repeat (go_big_quiet_step ((first | (go_at_call 87; with_reducible exact Later.call _ (Hcd1.out _)) | (go_at_call 87; with_reducible exact Later.call _ (Hce1.out _)))))
  refine wpQuiet_nil ?_
  intro x
  go_wp2_with (fail)
  rw [rounds_succ]
  go_wp2
  refine wp_region_later_al1 14 6 (.cells #[.int .i64 0, .int .i64 0] 23) (by kernel_rfl) (by kernel_rfl) ⟨_, _, rfl, rfl, rfl, rfl, allocPt⟩ (by simp) (by kernel_rfl) (noInit_of (by kernel_rfl)) (fun y => ?_)
  simp only [List.take_succ_cons, List.take_zero, List.drop_succ_cons, List.drop_zero]
  repeat (go_big_quiet_step ((first | (go_at_call 86; with_reducible exact Later.call _ (Hca2.out _)))))
  refine wpQuiet_nil ?_
  intro g x hg hx
  have hgw : w.heap.size ≤ g := Nat.le_trans (by first | (simp [go_sem]; done) | (simp [go_sem]; exact Or.inl (by omega))) hg
  have hgn0 : w.heap.size < g := Nat.lt_of_lt_of_le (by simp [go_sem]) hg
  have hgm0 : (w.heap.size = g) = False := eq_false (Nat.ne_of_lt hgn0)
  have hgo0 : (g = w.heap.size) = False := eq_false (Nat.ne_of_gt hgn0)
  have hb2 : Blk x.out g 23 #[.int .i64 0, .int .i64 0] := hx
  obtain ⟨bc, bf, bl⟩ := hb2.all
  go_wp2_with (fail)
  refine wp_region_later (by kernel_rfl) (by kernel_rfl) ?_
  repeat (go_big_quiet_step ((first | (go_at_call 87; with_reducible exact Later.call _ (Hcd2.out _)))))
  refine wpQuiet_nil ?_
  intro x
  go_wp2_with (fail)
  exact bodyPost_ret (v := .bool false) (by simp [results, Try.results74, go_sem, *]) rfl ⟨rfl, (Later.mk_of (by repeat (first | (with_reducible assumption) | (with_reducible exact Below.refl _ _) | (with_reducible refine Later.after ?_ _) | (with_reducible refine Later.newer ?_ _) | (with_reducible refine Below.drew ?_) | (with_reducible refine Below.setCell ?_ (by first | exact Nat.le_refl _ | exact Nat.le_add_right _ _ | omega | (simp [go_sem]; done) | (simp [go_sem]; omega)) _))))⟩


set_option maxRecDepth 100000 in
set_option maxHeartbeats 2000000 in
theorem rflat_4n21 (x0 y0 x1 y1 x2 y2 x3 y3 t P1 Q1 P2 Q2 : Int) (w : World)
    (ca1 : ∀ w', Calls Try.prog 86 #[.agg #[.int .i64 x0, .int .i64 y0], .agg #[.int .i64 x3, .int .i64 y3], .int .i64 1, .int .i64 3] w' fun e w'' => e = .returned (.agg #[.int .i64 P1, .int .i64 Q1]) ∧ ∃ x : Later w', w'' = x.out) (cd1 : ∀ w', Calls Try.prog 87 #[.int .i64 x1, .int .i64 P1, .int .i64 t] w' fun e w'' => e = .returned (.bool false) ∧ ∃ x : Later w', w'' = x.out) (ce1 : ∀ w', Calls Try.prog 87 #[.int .i64 y1, .int .i64 Q1, .int .i64 t] w' fun e w'' => e = .returned (.bool false) ∧ ∃ x : Later w', w'' = x.out) (ca2 : ∀ w', Calls Try.prog 86 #[.agg #[.int .i64 x0, .int .i64 y0], .agg #[.int .i64 x3, .int .i64 y3], .int .i64 2, .int .i64 3] w' fun e w'' => e = .returned (.agg #[.int .i64 P2, .int .i64 Q2]) ∧ ∃ x : Later w', w'' = x.out) (cd2 : ∀ w', Calls Try.prog 87 #[.int .i64 x2, .int .i64 P2, .int .i64 t] w' fun e w'' => e = .returned (.bool false) ∧ ∃ x : Later w', w'' = x.out) (ce2 : ∀ w', Calls Try.prog 87 #[.int .i64 y2, .int .i64 Q2, .int .i64 t] w' fun e w'' => e = .returned (.bool true) ∧ ∃ x : Later w', w'' = x.out) :
    Calls Try.prog 74 #[.agg #[.int .i64 x0, .int .i64 y0, .int .i64 x1, .int .i64 y1, .int .i64 x2, .int .i64 y2, .int .i64 x3, .int .i64 y3, .int .i64 4], .int .i64 t] w fun e w' => e = .returned (.bool false) ∧ ∃ x : Later w, w' = x.out := by
  have Hca1 := Lib.hid ca1; clear ca1
  have Hcd1 := Lib.hid cd1; clear cd1
  have Hce1 := Lib.hid ce1; clear ce1
  have Hca2 := Lib.hid ca2; clear ca2
  have Hcd2 := Lib.hid cd2; clear cd2
  have Hce2 := Lib.hid ce2; clear ce2
  go_enter Try.func74, Try.ntmps74
  go_wp2
  refine wp_loop_rounds 4 ?_
  rw [rounds_succ]
  go_wp2
  refine wp_region_later_al1 14 6 (.cells #[.int .i64 0, .int .i64 0] 23) (by kernel_rfl) (by kernel_rfl) ⟨_, _, rfl, rfl, rfl, rfl, allocPt⟩ (by simp) (by kernel_rfl) (noInit_of (by kernel_rfl)) (fun y => ?_)
  simp only [List.take_succ_cons, List.take_zero, List.drop_succ_cons, List.drop_zero]
  repeat (go_big_quiet_step ((first | (go_at_call 86; with_reducible exact Later.call _ (Hca1.out _)))))
  refine wpQuiet_nil ?_
  intro g x hg hx
  have hgw : w.heap.size ≤ g := Nat.le_trans (by first | (simp [go_sem]; done) | (simp [go_sem]; exact Or.inl (by omega))) hg
  have hgn0 : w.heap.size < g := Nat.lt_of_lt_of_le (by simp [go_sem]) hg
  have hgm0 : (w.heap.size = g) = False := eq_false (Nat.ne_of_lt hgn0)
  have hgo0 : (g = w.heap.size) = False := eq_false (Nat.ne_of_gt hgn0)
  have hb1 : Blk x.out g 23 #[.int .i64 0, .int .i64 0] := hx
  obtain ⟨bc, bf, bl⟩ := hb1.all
  go_wp2_with (fail)
  refine wp_region_later (by kernel_rfl) (by kernel_rfl) ?_
  repeat (go_big_quiet_step ((first | (go_at_call 87; with_reducible exact Later.call _ (Hcd1.out _)) | (go_at_call 87; with_reducible exact Later.call _ (Hce1.out _)))))
  refine wpQuiet_nil ?_
  intro x
  go_wp2_with (fail)
  rw [rounds_succ]
  go_wp2
  refine wp_region_later_al1 14 6 (.cells #[.int .i64 0, .int .i64 0] 23) (by kernel_rfl) (by kernel_rfl) ⟨_, _, rfl, rfl, rfl, rfl, allocPt⟩ (by simp) (by kernel_rfl) (noInit_of (by kernel_rfl)) (fun y => ?_)
  simp only [List.take_succ_cons, List.take_zero, List.drop_succ_cons, List.drop_zero]
  repeat (go_big_quiet_step ((first | (go_at_call 86; with_reducible exact Later.call _ (Hca2.out _)))))
  refine wpQuiet_nil ?_
  intro g x hg hx
  have hgw : w.heap.size ≤ g := Nat.le_trans (by first | (simp [go_sem]; done) | (simp [go_sem]; exact Or.inl (by omega))) hg
  have hgn0 : w.heap.size < g := Nat.lt_of_lt_of_le (by simp [go_sem]) hg
  have hgm0 : (w.heap.size = g) = False := eq_false (Nat.ne_of_lt hgn0)
  have hgo0 : (g = w.heap.size) = False := eq_false (Nat.ne_of_gt hgn0)
  have hb2 : Blk x.out g 23 #[.int .i64 0, .int .i64 0] := hx
  obtain ⟨bc, bf, bl⟩ := hb2.all
  go_wp2_with (fail)
  refine wp_region_later (by kernel_rfl) (by kernel_rfl) ?_
  repeat (go_big_quiet_step ((first | (go_at_call 87; with_reducible exact Later.call _ (Hcd2.out _)) | (go_at_call 87; with_reducible exact Later.call _ (Hce2.out _)))))
  refine wpQuiet_nil ?_
  intro x
  go_wp2_with (fail)
  exact bodyPost_ret (v := .bool false) (by simp [results, Try.results74, go_sem, *]) rfl ⟨rfl, (Later.mk_of (by repeat (first | (with_reducible assumption) | (with_reducible exact Below.refl _ _) | (with_reducible refine Later.after ?_ _) | (with_reducible refine Later.newer ?_ _) | (with_reducible refine Below.drew ?_) | (with_reducible refine Below.setCell ?_ (by first | exact Nat.le_refl _ | exact Nat.le_add_right _ _ | omega | (simp [go_sem]; done) | (simp [go_sem]; omega)) _))))⟩


theorem rflat_E3 (s : En) (g : GoodE s) (h : nn s = 3) (h8 : s 8 = 3) (t : Int) (t0 : 0 ≤ t) (w : World) : Calls Try.prog 74 #[.agg #[.int .i64 (s 0), .int .i64 (s 1), .int .i64 (s 2), .int .i64 (s 3), .int .i64 (s 4), .int .i64 (s 5), .int .i64 (s 6), .int .i64 (s 7), .int .i64 (s 8)], .int .i64 t] w fun e w' => e = .returned (.bool (fltB s t)) ∧ ∃ x : Later w, w' = x.out := by
  have g0 := g.bd 0 (by omega)
  have g1 := g.bd 1 (by omega)
  have g2 := g.bd 2 (by omega)
  have g3 := g.bd 3 (by omega)
  have g4 := g.bd 4 (by omega)
  have g5 := g.bd 5 (by omega)
  have g6 := g.bd 6 (by omega)
  have g7 := g.bd 7 (by omega)
  have o1 : (-4294967296 ≤ (s 0 + nrst ((s 4 - s 0) * 1) 2) - s 2 ∧ (s 0 + nrst ((s 4 - s 0) * 1) 2) - s 2 ≤ 4294967296 ∧ -2147483648 ≤ (s 0 + nrst ((s 4 - s 0) * 1) 2) ∧ (s 0 + nrst ((s 4 - s 0) * 1) 2) ≤ 2147483648) := by simpa [offX, h, h8] using off_bd s g 0 1 (by omega) (by omega)
  have q1 : (-4294967296 ≤ (s 1 + nrst ((s 5 - s 1) * 1) 2) - s 3 ∧ (s 1 + nrst ((s 5 - s 1) * 1) 2) - s 3 ≤ 4294967296 ∧ -2147483648 ≤ (s 1 + nrst ((s 5 - s 1) * 1) 2) ∧ (s 1 + nrst ((s 5 - s 1) * 1) 2) ≤ 2147483648) := by simpa [offX, h, h8] using off_bd s g 1 1 (by omega) (by omega)
  have a1 := fun v => along_r (s 0) (s 1) (s 4) (s 5) 1 2 v (by omega) (by omega) (by omega) (by omega) (by omega) (by omega) (by omega) (by omega) (by omega) (by omega) (by omega) (by omega)
  have d1 := fun v => roff_c (s 2) (s 0 + nrst ((s 4 - s 0) * 1) 2) t v o1.1 o1.2.1 t0
  have e1 := fun v => roff_c (s 3) (s 1 + nrst ((s 5 - s 1) * 1) 2) t v q1.1 q1.2.1 t0
  have ef : fltB s t = (wB ((s 0 + nrst ((s 4 - s 0) * 1) 2) - s 2) t && wB ((s 1 + nrst ((s 5 - s 1) * 1) 2) - s 3) t) := by simp [fltB, offX, h, h8]
  rw [ef, h8]
  cases k10 : wB ((s 0 + nrst ((s 4 - s 0) * 1) 2) - s 2) t
  · rw [k10] at d1
    simpa using rflat_3n10 (s 0) (s 1) (s 2) (s 3) (s 4) (s 5) (s 6) (s 7) t (s 0 + nrst ((s 4 - s 0) * 1) 2) (s 1 + nrst ((s 5 - s 1) * 1) 2) w a1 d1
  rw [k10] at d1
  cases k11 : wB ((s 1 + nrst ((s 5 - s 1) * 1) 2) - s 3) t
  · rw [k11] at e1
    simpa using rflat_3n11 (s 0) (s 1) (s 2) (s 3) (s 4) (s 5) (s 6) (s 7) t (s 0 + nrst ((s 4 - s 0) * 1) 2) (s 1 + nrst ((s 5 - s 1) * 1) 2) w a1 d1 e1
  rw [k11] at e1
  simpa using rflat_3y (s 0) (s 1) (s 2) (s 3) (s 4) (s 5) (s 6) (s 7) t (s 0 + nrst ((s 4 - s 0) * 1) 2) (s 1 + nrst ((s 5 - s 1) * 1) 2) w a1 d1 e1


theorem rflat_E4 (s : En) (g : GoodE s) (h : nn s = 4) (h8 : s 8 = 4) (t : Int) (t0 : 0 ≤ t) (w : World) : Calls Try.prog 74 #[.agg #[.int .i64 (s 0), .int .i64 (s 1), .int .i64 (s 2), .int .i64 (s 3), .int .i64 (s 4), .int .i64 (s 5), .int .i64 (s 6), .int .i64 (s 7), .int .i64 (s 8)], .int .i64 t] w fun e w' => e = .returned (.bool (fltB s t)) ∧ ∃ x : Later w, w' = x.out := by
  have g0 := g.bd 0 (by omega)
  have g1 := g.bd 1 (by omega)
  have g2 := g.bd 2 (by omega)
  have g3 := g.bd 3 (by omega)
  have g4 := g.bd 4 (by omega)
  have g5 := g.bd 5 (by omega)
  have g6 := g.bd 6 (by omega)
  have g7 := g.bd 7 (by omega)
  have o1 : (-4294967296 ≤ (s 0 + nrst ((s 6 - s 0) * 1) 3) - s 2 ∧ (s 0 + nrst ((s 6 - s 0) * 1) 3) - s 2 ≤ 4294967296 ∧ -2147483648 ≤ (s 0 + nrst ((s 6 - s 0) * 1) 3) ∧ (s 0 + nrst ((s 6 - s 0) * 1) 3) ≤ 2147483648) := by simpa [offX, h, h8] using off_bd s g 0 1 (by omega) (by omega)
  have q1 : (-4294967296 ≤ (s 1 + nrst ((s 7 - s 1) * 1) 3) - s 3 ∧ (s 1 + nrst ((s 7 - s 1) * 1) 3) - s 3 ≤ 4294967296 ∧ -2147483648 ≤ (s 1 + nrst ((s 7 - s 1) * 1) 3) ∧ (s 1 + nrst ((s 7 - s 1) * 1) 3) ≤ 2147483648) := by simpa [offX, h, h8] using off_bd s g 1 1 (by omega) (by omega)
  have a1 := fun v => along_r (s 0) (s 1) (s 6) (s 7) 1 3 v (by omega) (by omega) (by omega) (by omega) (by omega) (by omega) (by omega) (by omega) (by omega) (by omega) (by omega) (by omega)
  have d1 := fun v => roff_c (s 2) (s 0 + nrst ((s 6 - s 0) * 1) 3) t v o1.1 o1.2.1 t0
  have e1 := fun v => roff_c (s 3) (s 1 + nrst ((s 7 - s 1) * 1) 3) t v q1.1 q1.2.1 t0
  have o2 : (-4294967296 ≤ (s 0 + nrst ((s 6 - s 0) * 2) 3) - s 4 ∧ (s 0 + nrst ((s 6 - s 0) * 2) 3) - s 4 ≤ 4294967296 ∧ -2147483648 ≤ (s 0 + nrst ((s 6 - s 0) * 2) 3) ∧ (s 0 + nrst ((s 6 - s 0) * 2) 3) ≤ 2147483648) := by simpa [offX, h, h8] using off_bd s g 0 2 (by omega) (by omega)
  have q2 : (-4294967296 ≤ (s 1 + nrst ((s 7 - s 1) * 2) 3) - s 5 ∧ (s 1 + nrst ((s 7 - s 1) * 2) 3) - s 5 ≤ 4294967296 ∧ -2147483648 ≤ (s 1 + nrst ((s 7 - s 1) * 2) 3) ∧ (s 1 + nrst ((s 7 - s 1) * 2) 3) ≤ 2147483648) := by simpa [offX, h, h8] using off_bd s g 1 2 (by omega) (by omega)
  have a2 := fun v => along_r (s 0) (s 1) (s 6) (s 7) 2 3 v (by omega) (by omega) (by omega) (by omega) (by omega) (by omega) (by omega) (by omega) (by omega) (by omega) (by omega) (by omega)
  have d2 := fun v => roff_c (s 4) (s 0 + nrst ((s 6 - s 0) * 2) 3) t v o2.1 o2.2.1 t0
  have e2 := fun v => roff_c (s 5) (s 1 + nrst ((s 7 - s 1) * 2) 3) t v q2.1 q2.2.1 t0
  have ef : fltB s t = (wB ((s 0 + nrst ((s 6 - s 0) * 1) 3) - s 2) t && wB ((s 1 + nrst ((s 7 - s 1) * 1) 3) - s 3) t && wB ((s 0 + nrst ((s 6 - s 0) * 2) 3) - s 4) t && wB ((s 1 + nrst ((s 7 - s 1) * 2) 3) - s 5) t) := by simp [fltB, offX, h, h8]
  rw [ef, h8]
  cases k10 : wB ((s 0 + nrst ((s 6 - s 0) * 1) 3) - s 2) t
  · rw [k10] at d1
    simpa using rflat_4n10 (s 0) (s 1) (s 2) (s 3) (s 4) (s 5) (s 6) (s 7) t (s 0 + nrst ((s 6 - s 0) * 1) 3) (s 1 + nrst ((s 7 - s 1) * 1) 3) w a1 d1
  rw [k10] at d1
  cases k11 : wB ((s 1 + nrst ((s 7 - s 1) * 1) 3) - s 3) t
  · rw [k11] at e1
    simpa using rflat_4n11 (s 0) (s 1) (s 2) (s 3) (s 4) (s 5) (s 6) (s 7) t (s 0 + nrst ((s 6 - s 0) * 1) 3) (s 1 + nrst ((s 7 - s 1) * 1) 3) w a1 d1 e1
  rw [k11] at e1
  cases k20 : wB ((s 0 + nrst ((s 6 - s 0) * 2) 3) - s 4) t
  · rw [k20] at d2
    simpa using rflat_4n20 (s 0) (s 1) (s 2) (s 3) (s 4) (s 5) (s 6) (s 7) t (s 0 + nrst ((s 6 - s 0) * 1) 3) (s 1 + nrst ((s 7 - s 1) * 1) 3) (s 0 + nrst ((s 6 - s 0) * 2) 3) (s 1 + nrst ((s 7 - s 1) * 2) 3) w a1 d1 e1 a2 d2
  rw [k20] at d2
  cases k21 : wB ((s 1 + nrst ((s 7 - s 1) * 2) 3) - s 5) t
  · rw [k21] at e2
    simpa using rflat_4n21 (s 0) (s 1) (s 2) (s 3) (s 4) (s 5) (s 6) (s 7) t (s 0 + nrst ((s 6 - s 0) * 1) 3) (s 1 + nrst ((s 7 - s 1) * 1) 3) (s 0 + nrst ((s 6 - s 0) * 2) 3) (s 1 + nrst ((s 7 - s 1) * 2) 3) w a1 d1 e1 a2 d2 e2
  rw [k21] at e2
  simpa using rflat_4y (s 0) (s 1) (s 2) (s 3) (s 4) (s 5) (s 6) (s 7) t (s 0 + nrst ((s 6 - s 0) * 1) 3) (s 1 + nrst ((s 7 - s 1) * 1) 3) (s 0 + nrst ((s 6 - s 0) * 2) 3) (s 1 + nrst ((s 7 - s 1) * 2) 3) w a1 d1 e1 a2 d2 e2


theorem rflat_E (s : En) (g : GoodE s) (t : Int) (t0 : 0 ≤ t) (w : World) : Calls Try.prog 74 #[.agg #[.int .i64 (s 0), .int .i64 (s 1), .int .i64 (s 2), .int .i64 (s 3), .int .i64 (s 4), .int .i64 (s 5), .int .i64 (s 6), .int .i64 (s 7), .int .i64 (s 8)], .int .i64 t] w fun e w' => e = .returned (.bool (fltB s t)) ∧ ∃ x : Later w, w' = x.out := by
  rcases nn_of g with ⟨h, h8⟩ | ⟨h, h8⟩ | ⟨h, h8⟩
  · have ef : fltB s t = true := by simp [fltB, h]
    rw [ef, h8]
    exact rflat_2 (s 0) (s 1) (s 2) (s 3) (s 4) (s 5) (s 6) (s 7) t w
  · exact rflat_E3 s g h h8 t t0 w
  · exact rflat_E4 s g h h8 t t0 w
end Go.Proofs.Ytcdnekhpeghkiaa
