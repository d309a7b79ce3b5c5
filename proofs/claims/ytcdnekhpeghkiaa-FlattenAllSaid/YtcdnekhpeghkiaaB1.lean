/-
  The middle of two points; the last point of a segment.
-/
import Derived.Test.YtcdnekhpeghkiaaKB
import Derived.Test.YtcdnekhpeghkiaaKC
namespace Go.Proofs.Ytcdnekhpeghkiaa
set_option linter.unusedVariables false
open Go.RowKit


set_option maxRecDepth 100000 in
set_option maxHeartbeats 400000 in
theorem mid_c (p q z u : Int) (w : World) (p0 : -2147483648 ≤ p) (p9 : p ≤ 2147483648) (q0 : -2147483648 ≤ q) (q9 : q ≤ 2147483648) (z0 : -2147483648 ≤ z) (z9 : z ≤ 2147483648) (u0 : -2147483648 ≤ u) (u9 : u ≤ 2147483648) :
    Calls Try.prog 73 #[.agg #[.int .i64 p, .int .i64 q], .agg #[.int .i64 z, .int .i64 u]] w fun e w' => e = .returned (.agg #[.int .i64 ((p + z) / 2), .int .i64 ((q + u) / 2)]) ∧ ∃ x : Later w, w' = x.out := by
  go_enter Try.func73, Try.ntmps73
  go_wp2_with (fail)
  exact bodyPost_ret (v := .agg #[.int .i64 ((p + z) / 2), .int .i64 ((q + u) / 2)]) (by simp [results, Try.results73, go_sem, *]) rfl ⟨rfl, (Later.mk_of (by repeat (first | (with_reducible assumption) | (with_reducible exact Below.refl _ _) | (with_reducible refine Later.after ?_ _) | (with_reducible refine Later.newer ?_ _) | (with_reducible refine Below.drew ?_) | (with_reducible refine Below.setCell ?_ (by first | exact Nat.le_refl _ | exact Nat.le_add_right _ _ | omega | (simp [go_sem]; done) | (simp [go_sem]; omega)) _))))⟩


set_option maxRecDepth 100000 in
set_option maxHeartbeats 400000 in
theorem rows_c (x0 y0 x1 y1 x2 y2 x3 y3 n : Int) (k : Nat) (lb : Array Value) (w : World) :
    Calls Try.prog 72 #[.agg #[.int .i64 x0, .int .i64 y0, .int .i64 x1, .int .i64 y1, .int .i64 x2, .int .i64 y2, .int .i64 x3, .int .i64 y3, .int .i64 n], .func (.func k) #[] lb] w fun e w' => e = .returned (.func (.func 85) #[] #[.pointer (some ⟨w.heap.size, 0, none⟩), .pointer (some ⟨w.heap.size + 1, 0, none⟩)]) ∧
      (w.alloc (.cells #[.int .i64 x0, .int .i64 y0, .int .i64 x1, .int .i64 y1, .int .i64 x2, .int .i64 y2, .int .i64 x3, .int .i64 y3, .int .i64 n] 26)).alloc (.cells #[.func (.func k) #[] lb] 47) = w' := by
  go_enter Try.func72, Try.ntmps72
  go_wp2
  go_ret
  exact ⟨rfl, rfl⟩


set_option maxRecDepth 100000 in
set_option maxHeartbeats 400000 in
theorem points_2 (x0 y0 x1 y1 x2 y2 x3 y3 : Int) (w : World) (b : Nat) (hb : Blk w b 26 #[.int .i64 x0, .int .i64 y0, .int .i64 x1, .int .i64 y1, .int .i64 x2, .int .i64 y2, .int .i64 x3, .int .i64 y3, .int .i64 2]) :
    Calls Try.prog 47 #[.pointer (some ⟨b, 0, none⟩)] w fun e w' => e = .returned (.slice (some ⟨b, 0, none⟩) 2 4) ∧ ∃ x : Later w, w' = x.out := by
  obtain ⟨hc, hf, hl⟩ := hb.all
  clear hb
  have m1 : min (2 : Int) 4 = 2 := by decide
  have m2 : max (2 : Int) 2 = 2 := by decide
  go_enter Try.func47, Try.ntmps47
  go_wp2
  refine wp_region_later (by kernel_rfl) (by kernel_rfl) ?_
  repeat (go_big_quiet_step ((first | fail)))
  refine wpQuiet_nil ?_
  intro x
  go_wp2
  exact bodyPost_ret (v := .slice (some ⟨b, 0, none⟩) 2 4) (by simp [results, Try.results47, go_sem, *]) rfl ⟨rfl, (Later.mk_of (by repeat (first | (with_reducible assumption) | (with_reducible exact Below.refl _ _) | (with_reducible refine Later.after ?_ _) | (with_reducible refine Later.newer ?_ _) | (with_reducible refine Below.drew ?_) | (with_reducible refine Below.setCell ?_ (by first | exact Nat.le_refl _ | exact Nat.le_add_right _ _ | omega | (simp [go_sem]; done) | (simp [go_sem]; omega)) _))))⟩


set_option maxRecDepth 100000 in
set_option maxHeartbeats 400000 in
theorem end_2 (x0 y0 x1 y1 x2 y2 x3 y3 : Int) (w : World) :
    Calls Try.prog 26 #[.agg #[.int .i64 x0, .int .i64 y0, .int .i64 x1, .int .i64 y1, .int .i64 x2, .int .i64 y2, .int .i64 x3, .int .i64 y3, .int .i64 2]] w fun e w' => e = .returned (.agg #[.int .i64 x1, .int .i64 y1]) ∧ ∃ x : Later w, w' = x.out := by
  have c := fun (v : World) (b : Nat) hb => points_2 x0 y0 x1 y1 x2 y2 x3 y3 v b hb
  have Hc := Lib.hid c; clear c
  go_enter Try.func26, Try.ntmps26
  go_wp2_with (first | (go_at_call 47; (with_reducible refine (Hc.out _ _ (Blk.alloc (Blk.new _ _ _) _)).mono ?_); rintro e _ ⟨rfl, x, rfl⟩))
  exact bodyPost_ret (v := .agg #[.int .i64 x1, .int .i64 y1]) (by simp [results, Try.results26, go_sem, *]) rfl ⟨rfl, (Later.mk_of (by repeat (first | (with_reducible assumption) | (with_reducible exact Below.refl _ _) | (with_reducible refine Later.after ?_ _) | (with_reducible refine Later.newer ?_ _) | (with_reducible refine Below.drew ?_) | (with_reducible refine Below.setCell ?_ (by first | exact Nat.le_refl _ | exact Nat.le_add_right _ _ | omega | (simp [go_sem]; done) | (simp [go_sem]; omega)) _))))⟩


set_option maxRecDepth 100000 in
set_option maxHeartbeats 400000 in
theorem points_3 (x0 y0 x1 y1 x2 y2 x3 y3 : Int) (w : World) (b : Nat) (hb : Blk w b 26 #[.int .i64 x0, .int .i64 y0, .int .i64 x1, .int .i64 y1, .int .i64 x2, .int .i64 y2, .int .i64 x3, .int .i64 y3, .int .i64 3]) :
    Calls Try.prog 47 #[.pointer (some ⟨b, 0, none⟩)] w fun e w' => e = .returned (.slice (some ⟨b, 0, none⟩) 3 4) ∧ ∃ x : Later w, w' = x.out := by
  obtain ⟨hc, hf, hl⟩ := hb.all
  clear hb
  have m1 : min (3 : Int) 4 = 3 := by decide
  have m2 : max (2 : Int) 3 = 3 := by decide
  go_enter Try.func47, Try.ntmps47
  go_wp2
  refine wp_region_later (by kernel_rfl) (by kernel_rfl) ?_
  repeat (go_big_quiet_step ((first | fail)))
  refine wpQuiet_nil ?_
  intro x
  go_wp2
  exact bodyPost_ret (v := .slice (some ⟨b, 0, none⟩) 3 4) (by simp [results, Try.results47, go_sem, *]) rfl ⟨rfl, (Later.mk_of (by repeat (first | (with_reducible assumption) | (with_reducible exact Below.refl _ _) | (with_reducible refine Later.after ?_ _) | (with_reducible refine Later.newer ?_ _) | (with_reducible refine Below.drew ?_) | (with_reducible refine Below.setCell ?_ (by first | exact Nat.le_refl _ | exact Nat.le_add_right _ _ | omega | (simp [go_sem]; done) | (simp [go_sem]; omega)) _))))⟩


set_option maxRecDepth 100000 in
set_option maxHeartbeats 400000 in
theorem end_3 (x0 y0 x1 y1 x2 y2 x3 y3 : Int) (w : World) :
    Calls Try.prog 26 #[.agg #[.int .i64 x0, .int .i64 y0, .int .i64 x1, .int .i64 y1, .int .i64 x2, .int .i64 y2, .int .i64 x3, .int .i64 y3, .int .i64 3]] w fun e w' => e = .returned (.agg #[.int .i64 x2, .int .i64 y2]) ∧ ∃ x : Later w, w' = x.out := by
  have c := fun (v : World) (b : Nat) hb => points_3 x0 y0 x1 y1 x2 y2 x3 y3 v b hb
  have Hc := Lib.hid c; clear c
  go_enter Try.func26, Try.ntmps26
  go_wp2_with (first | (go_at_call 47; (with_reducible refine (Hc.out _ _ (Blk.alloc (Blk.new _ _ _) _)).mono ?_); rintro e _ ⟨rfl, x, rfl⟩))
  exact bodyPost_ret (v := .agg #[.int .i64 x2, .int .i64 y2]) (by simp [results, Try.results26, go_sem, *]) rfl ⟨rfl, (Later.mk_of (by repeat (first | (with_reducible assumption) | (with_reducible exact Below.refl _ _) | (with_reducible refine Later.after ?_ _) | (with_reducible refine Later.newer ?_ _) | (with_reducible refine Below.drew ?_) | (with_reducible refine Below.setCell ?_ (by first | exact Nat.le_refl _ | exact Nat.le_add_right _ _ | omega | (simp [go_sem]; done) | (simp [go_sem]; omega)) _))))⟩


set_option maxRecDepth 100000 in
set_option maxHeartbeats 400000 in
theorem points_4 (x0 y0 x1 y1 x2 y2 x3 y3 : Int) (w : World) (b : Nat) (hb : Blk w b 26 #[.int .i64 x0, .int .i64 y0, .int .i64 x1, .int .i64 y1, .int .i64 x2, .int .i64 y2, .int .i64 x3, .int .i64 y3, .int .i64 4]) :
    Calls Try.prog 47 #[.pointer (some ⟨b, 0, none⟩)] w fun e w' => e = .returned (.slice (some ⟨b, 0, none⟩) 4 4) ∧ ∃ x : Later w, w' = x.out := by
  obtain ⟨hc, hf, hl⟩ := hb.all
  clear hb
  have m1 : min (4 : Int) 4 = 4 := by decide
  have m2 : max (2 : Int) 4 = 4 := by decide
  go_enter Try.func47, Try.ntmps47
  go_wp2
  refine wp_region_later (by kernel_rfl) (by kernel_rfl) ?_
  repeat (go_big_quiet_step ((first | fail)))
  refine wpQuiet_nil ?_
  intro x
  go_wp2
  exact bodyPost_ret (v := .slice (some ⟨b, 0, none⟩) 4 4) (by simp [results, Try.results47, go_sem, *]) rfl ⟨rfl, (Later.mk_of (by repeat (first | (with_reducible assumption) | (with_reducible exact Below.refl _ _) | (with_reducible refine Later.after ?_ _) | (with_reducible refine Later.newer ?_ _) | (with_reducible refine Below.drew ?_) | (with_reducible refine Below.setCell ?_ (by first | exact Nat.le_refl _ | exact Nat.le_add_right _ _ | omega | (simp [go_sem]; done) | (simp [go_sem]; omega)) _))))⟩


set_option maxRecDepth 100000 in
set_option maxHeartbeats 400000 in
theorem end_4 (x0 y0 x1 y1 x2 y2 x3 y3 : Int) (w : World) :
    Calls Try.prog 26 #[.agg #[.int .i64 x0, .int .i64 y0, .int .i64 x1, .int .i64 y1, .int .i64 x2, .int .i64 y2, .int .i64 x3, .int .i64 y3, .int .i64 4]] w fun e w' => e = .returned (.agg #[.int .i64 x3, .int .i64 y3]) ∧ ∃ x : Later w, w' = x.out := by
  have c := fun (v : World) (b : Nat) hb => points_4 x0 y0 x1 y1 x2 y2 x3 y3 v b hb
  have Hc := Lib.hid c; clear c
  go_enter Try.func26, Try.ntmps26
  go_wp2_with (first | (go_at_call 47; (with_reducible refine (Hc.out _ _ (Blk.alloc (Blk.new _ _ _) _)).mono ?_); rintro e _ ⟨rfl, x, rfl⟩))
  exact bodyPost_ret (v := .agg #[.int .i64 x3, .int .i64 y3]) (by simp [results, Try.results26, go_sem, *]) rfl ⟨rfl, (Later.mk_of (by repeat (first | (with_reducible assumption) | (with_reducible exact Below.refl _ _) | (with_reducible refine Later.after ?_ _) | (with_reducible refine Later.newer ?_ _) | (with_reducible refine Below.drew ?_) | (with_reducible refine Below.setCell ?_ (by first | exact Nat.le_refl _ | exact Nat.le_add_right _ _ | omega | (simp [go_sem]; done) | (simp [go_sem]; omega)) _))))⟩

end Go.Proofs.Ytcdnekhpeghkiaa
