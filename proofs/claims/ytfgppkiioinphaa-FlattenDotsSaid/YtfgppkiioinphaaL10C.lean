/-
  Lines, and curves of which next to nothing is asked: walked.
-/
import Derived.Test.YtfgppkiioinphaaS1
namespace Go.Proofs.Ytfgppkiioinphaa
set_option linter.unusedVariables false
open Go.RowKit

def sg2 (a b c d : Int) : En := fun i => match i with | 0 => a | 1 => b | 2 => c | 3 => d | 8 => 2 | _ => 0
def sg3 (a b c d e f : Int) : En := fun i => match i with | 0 => a | 1 => b | 2 => c | 3 => d | 4 => e | 5 => f | 8 => 3 | _ => 0
def hfB (a b : Int) : Bool := nrB (2 * a) && nrB (2 * b)


set_option maxRecDepth 100000 in
set_option maxHeartbeats 400000 in
theorem half_n (a b p q : Int) (w : World)
    (ea : wrap64 (2 * a) = p) (c1 : ∀ w', Calls Try.prog 18 #[.int .i64 p] w' fun e w'' => e = .returned (.bool false) ∧ ∃ x : Later w', w'' = x.out) :
    Calls Try.prog 17 #[.agg #[.int .i64 a, .int .i64 b]] w fun e w' => e = .returned (.bool false) ∧ ∃ x : Later w, w' = x.out := by
  have Hc1 := Lib.hid c1; clear c1
  go_enter Try.func17, Try.ntmps17
  go_wp2_with (first | (go_at_call 18; (with_reducible refine (Hc1.out _).mono ?_); rintro e _ ⟨rfl, x, rfl⟩))
  exact bodyPost_ret (v := .bool false) (by simp [results, Try.results17, go_sem, *]) rfl ⟨rfl, (Later.mk_of (by repeat (first | (with_reducible assumption) | (with_reducible exact Below.refl _ _) | (with_reducible refine Later.after ?_ _) | (with_reducible refine Later.newer ?_ _) | (with_reducible refine Below.drew ?_) | (with_reducible refine Below.setCell ?_ (by first | exact Nat.le_refl _ | exact Nat.le_add_right _ _ | omega | (simp [go_sem]; done) | (simp [go_sem]; omega)) _))))⟩


set_option maxRecDepth 100000 in
set_option maxHeartbeats 400000 in
theorem half_y (a b p q : Int) (r : Bool) (w : World)
    (ea : wrap64 (2 * a) = p) (eb : wrap64 (2 * b) = q) (c1 : ∀ w', Calls Try.prog 18 #[.int .i64 p] w' fun e w'' => e = .returned (.bool true) ∧ ∃ x : Later w', w'' = x.out) (c2 : ∀ w', Calls Try.prog 18 #[.int .i64 q] w' fun e w'' => e = .returned (.bool r) ∧ ∃ x : Later w', w'' = x.out) :
    Calls Try.prog 17 #[.agg #[.int .i64 a, .int .i64 b]] w fun e w' => e = .returned (.bool r) ∧ ∃ x : Later w, w' = x.out := by
  have Hc1 := Lib.hid c1; clear c1
  have Hc2 := Lib.hid c2; clear c2
  go_enter Try.func17, Try.ntmps17
  go_wp2_with (first | (go_at_call 18; (with_reducible refine (Hc1.out _).mono ?_); rintro e _ ⟨rfl, x, rfl⟩) | (go_at_call 18; (with_reducible refine (Hc2.out _).mono ?_); rintro e _ ⟨rfl, x, rfl⟩))
  exact bodyPost_ret (v := .bool r) (by simp [results, Try.results17, go_sem, *]) rfl ⟨rfl, (Later.mk_of (by repeat (first | (with_reducible assumption) | (with_reducible exact Below.refl _ _) | (with_reducible refine Later.after ?_ _) | (with_reducible refine Later.newer ?_ _) | (with_reducible refine Below.drew ?_) | (with_reducible refine Below.setCell ?_ (by first | exact Nat.le_refl _ | exact Nat.le_add_right _ _ | omega | (simp [go_sem]; done) | (simp [go_sem]; omega)) _))))⟩


theorem half_c (a b : Int) (w : World) (a0 : -4611686018427387904 ≤ a) (a9 : a ≤ 4611686018427387903) (b0 : -4611686018427387904 ≤ b) (b9 : b ≤ 4611686018427387903) : Calls Try.prog 17 #[.agg #[.int .i64 a, .int .i64 b]] w fun e w' => e = .returned (.bool (hfB a b)) ∧ ∃ x : Later w, w' = x.out := by
  have c1 := fun v => nr_c (2 * a) v
  have c2 := fun v => nr_c (2 * b) v
  unfold hfB
  have ea := w64_in (2 * a) (by unfold R64; omega)
  have eb := w64_in (2 * b) (by unfold R64; omega)
  cases h : nrB (2 * a)
  · rw [h] at c1
    exact half_n a b (2 * a) (2 * b) w ea c1
  · rw [h] at c1
    simpa using half_y a b (2 * a) (2 * b) _ w ea eb c1 c2


set_option maxRecDepth 100000 in
set_option maxHeartbeats 400000 in
theorem rsharp_c (p q z u D : Int) (w : World)
    (c1 : ∀ w', Calls Try.prog 30 #[.agg #[.int .i64 p, .int .i64 q], .agg #[.int .i64 z, .int .i64 u]] w' fun e w'' => e = .returned (.int .i64 D) ∧ ∃ x : Later w', w'' = x.out) :
    Calls Try.prog 16 #[.agg #[.int .i64 p, .int .i64 q], .agg #[.int .i64 z, .int .i64 u]] w fun e w' => e = .returned (.bool (decide (D < 0))) ∧ ∃ x : Later w, w' = x.out := by
  have Hc1 := Lib.hid c1; clear c1
  go_enter Try.func16, Try.ntmps16
  go_wp2_with (first | (go_at_call 30; (with_reducible refine (Hc1.out _).mono ?_); rintro e _ ⟨rfl, x, rfl⟩))
  exact bodyPost_ret (v := .bool (decide (D < 0))) (by simp [results, Try.results16, go_sem, *]) rfl ⟨rfl, (Later.mk_of (by repeat (first | (with_reducible assumption) | (with_reducible exact Below.refl _ _) | (with_reducible refine Later.after ?_ _) | (with_reducible refine Later.newer ?_ _) | (with_reducible refine Below.drew ?_) | (with_reducible refine Below.setCell ?_ (by first | exact Nat.le_refl _ | exact Nat.le_add_right _ _ | omega | (simp [go_sem]; done) | (simp [go_sem]; omega)) _))))⟩


set_option maxRecDepth 100000 in
set_option maxHeartbeats 1000000 in
theorem lines_no1 (a b c d e f : Int) (w : World) (cg : ∀ v, Calls Try.prog 10 #[.agg #[.int .i64 a, .int .i64 b, .int .i64 c, .int .i64 d, .int .i64 0, .int .i64 0, .int .i64 0, .int .i64 0, .int .i64 2]] v fun e w' => e = .returned (.bool false) ∧ ∃ x : Later v, w' = x.out) : Calls Try.prog 5 #[.agg #[.int .i64 a, .int .i64 b], .agg #[.int .i64 c, .int .i64 d], .agg #[.int .i64 e, .int .i64 f]] w fun e w' => e = .returned (.bool true) ∧ ∃ x : Later w, w' = x.out := by
  have Hg := Lib.hid cg
  clear cg
  go_enter Try.func5, Try.ntmps5
  go_wp2_with (first | (go_at_call 10; (with_reducible refine (Hg.out _).mono ?_); rintro e _ ⟨rfl, x, rfl⟩) | (go_at_call 11; (with_reducible refine (shown_10 _).mono ?_); rintro e _ ⟨rfl, x, rfl⟩))
  exact bodyPost_ret (v := .bool true) (by simp [results, Try.results5, go_sem, *]) rfl ⟨rfl, (Later.mk_of (by repeat (first | (with_reducible assumption) | (with_reducible exact Below.refl _ _) | (with_reducible refine Later.after ?_ _) | (with_reducible refine Later.newer ?_ _) | (with_reducible refine Below.drew ?_) | (with_reducible refine Below.setCell ?_ (by first | exact Nat.le_refl _ | exact Nat.le_add_right _ _ | omega | (simp [go_sem]; done) | (simp [go_sem]; omega)) _))))⟩

set_option maxRecDepth 100000 in
set_option maxHeartbeats 1000000 in
theorem lines_no2 (a b c d e f : Int) (w : World) (cg : ∀ v, Calls Try.prog 10 #[.agg #[.int .i64 a, .int .i64 b, .int .i64 c, .int .i64 d, .int .i64 0, .int .i64 0, .int .i64 0, .int .i64 0, .int .i64 2]] v fun e w' => e = .returned (.bool true) ∧ ∃ x : Later v, w' = x.out) (ct : ∀ v, Calls Try.prog 10 #[.agg #[.int .i64 a, .int .i64 b, .int .i64 c, .int .i64 d, .int .i64 e, .int .i64 f, .int .i64 0, .int .i64 0, .int .i64 3]] v fun e w' => e = .returned (.bool false) ∧ ∃ x : Later v, w' = x.out) : Calls Try.prog 5 #[.agg #[.int .i64 a, .int .i64 b], .agg #[.int .i64 c, .int .i64 d], .agg #[.int .i64 e, .int .i64 f]] w fun e w' => e = .returned (.bool true) ∧ ∃ x : Later w, w' = x.out := by
  have Hg := Lib.hid cg
  have Ht := Lib.hid ct
  clear cg ct
  go_enter Try.func5, Try.ntmps5
  go_wp2_with (first | (go_at_call 10; (with_reducible refine (Hg.out _).mono ?_); rintro e _ ⟨rfl, x, rfl⟩) | (go_at_call 10; (with_reducible refine (Ht.out _).mono ?_); rintro e _ ⟨rfl, x, rfl⟩) | (go_at_call 11; (with_reducible refine (shown_10 _).mono ?_); rintro e _ ⟨rfl, x, rfl⟩))
  exact bodyPost_ret (v := .bool true) (by simp [results, Try.results5, go_sem, *]) rfl ⟨rfl, (Later.mk_of (by repeat (first | (with_reducible assumption) | (with_reducible exact Below.refl _ _) | (with_reducible refine Later.after ?_ _) | (with_reducible refine Later.newer ?_ _) | (with_reducible refine Below.drew ?_) | (with_reducible refine Below.setCell ?_ (by first | exact Nat.le_refl _ | exact Nat.le_add_right _ _ | omega | (simp [go_sem]; done) | (simp [go_sem]; omega)) _))))⟩


set_option maxRecDepth 100000 in
set_option maxHeartbeats 4000000 in
theorem lines_sharp (a b c d e f : Int) (w : World) (u v p q : Int) (sh : Bool) (l1 l2 : List (Int × Int)) (M1 M2 m1 m2 : Nat) (e1 : wrap64 (c - a) = u) (e2 : wrap64 (d - b) = v) (e3 : wrap64 (e - c) = p) (e4 : wrap64 (f - d) = q)
    (hm1 : M1 = m1 + 1) (hm2 : M2 = m2 + 1) (m12 : M1 ≤ M2) (m9 : M2 ≤ 1024) (q1 : l1[m1]? = some (e, f)) (q2 : l2[m2]? = some (e, f))
    (cg : ∀ v, Calls Try.prog 10 #[.agg #[.int .i64 a, .int .i64 b, .int .i64 c, .int .i64 d, .int .i64 0, .int .i64 0, .int .i64 0, .int .i64 0, .int .i64 2]] v fun e w' => e = .returned (.bool true) ∧ ∃ x : Later v, w' = x.out) (ct : ∀ v, Calls Try.prog 10 #[.agg #[.int .i64 a, .int .i64 b, .int .i64 c, .int .i64 d, .int .i64 e, .int .i64 f, .int .i64 0, .int .i64 0, .int .i64 3]] v fun e w' => e = .returned (.bool true) ∧ ∃ x : Later v, w' = x.out)
    (p1 : ∀ v, Calls Try.prog 13 #[.agg #[.int .i64 a, .int .i64 b, .int .i64 c, .int .i64 d, .int .i64 0, .int .i64 0, .int .i64 0, .int .i64 0, .int .i64 2], .int .i64 0] v (SliceRet v 23 2 1 [.int .i64 c, .int .i64 d]))
    (p2 : ∀ v, Calls Try.prog 13 #[.agg #[.int .i64 a, .int .i64 b, .int .i64 c, .int .i64 d, .int .i64 e, .int .i64 f, .int .i64 0, .int .i64 0, .int .i64 3], .int .i64 268435456] v (SliceRet v 23 2 M1 (fl l1)))
    (p3 : ∀ v, Calls Try.prog 13 #[.agg #[.int .i64 a, .int .i64 b, .int .i64 c, .int .i64 d, .int .i64 e, .int .i64 f, .int .i64 0, .int .i64 0, .int .i64 3], .int .i64 0] v (SliceRet v 23 2 M2 (fl l2)))
    (cs : ∀ w', Calls Try.prog 16 #[.agg #[.int .i64 u, .int .i64 v], .agg #[.int .i64 p, .int .i64 q]] w' fun e w'' => e = .returned (.bool sh) ∧ ∃ x : Later w', w'' = x.out)
    (es : sh = true) : Calls Try.prog 5 #[.agg #[.int .i64 a, .int .i64 b], .agg #[.int .i64 c, .int .i64 d], .agg #[.int .i64 e, .int .i64 f]] w fun e w' => e = .returned (.bool true) ∧ ∃ x : Later w, w' = x.out := by
  have Q1 := Lib.hid q1
  have Q2 := Lib.hid q2
  clear q1 q2
  have Hcg := Lib.hid cg; clear cg
  have Hct := Lib.hid ct; clear ct
  have Hp1 := Lib.hid p1; clear p1
  have Hp2 := Lib.hid p2; clear p2
  have Hp3 := Lib.hid p3; clear p3
  have Hcs := Lib.hid cs; clear cs
  have f1 : IntKind.i64.wrap ((M1 : Int) - 1) = (m1 : Int) := by rw [IntWalk.i64_in _ (by omega)]; omega
  have f2 : wrap64 ((M1 : Int) - 1) = (m1 : Int) := by unfold wrap64; omega
  have f3 : (M1 : Int) - 1 = (m1 : Int) := by omega
  have f4 : IntKind.i64.wrap ((M2 : Int) - 1) = (m2 : Int) := by rw [IntWalk.i64_in _ (by omega)]; omega
  have f5 : wrap64 ((M2 : Int) - 1) = (m2 : Int) := by unfold wrap64; omega
  have f6 : (M2 : Int) - 1 = (m2 : Int) := by omega
  have k1 : decide (M1 ≤ M2) = true := by simp [m12]
  have k2 : m1 < M1 := by omega
  have k3 : m2 < M2 := by omega
  have k4 : decide (m1 < M1) = true := by simp; omega
  have k5 : decide (m2 < M2) = true := by simp; omega
  have r0 : (0 : Int) ≤ m1 := by omega
  have r1 : (0 : Int) ≤ m2 := by omega
  have r2 : (M1 : Int) ≤ 1024 := by omega
  have r3 : (M2 : Int) ≤ 1024 := by omega
  subst es
  have Hm1 := Lib.hid hm1
  have Hm2 := Lib.hid hm2
  clear hm1 hm2
  go_enter Try.func5, Try.ntmps5
  go_wp2_with (first | (go_at_call 10; (with_reducible refine (Hcg.out _).mono ?_); rintro e _ ⟨rfl, x, rfl⟩) | (go_at_call 10; (with_reducible refine (Hct.out _).mono ?_); rintro e _ ⟨rfl, x, rfl⟩) | (go_at_call 11; (with_reducible refine (shown_10 _).mono ?_); rintro e _ ⟨rfl, x, rfl⟩) | (go_at_call 13; (with_reducible refine (Hp1.out _).mono ?_); intro _ _ hs; obtain ⟨g1, cap1, x1, rfl, rfl, hg1, hl1, hc1⟩ := hs.opens (by omega); have HC1 := Lib.hid hc1; clear hc1 hs hg1) | (go_at_call 13; (with_reducible refine (Hp2.out _).mono ?_); intro _ _ hs; obtain ⟨g2, cap2, x2, rfl, rfl, hg2, hl2, hc2⟩ := hs.opens (by omega); have HC2 := Lib.hid hc2; clear hc2 hs hg2) | (go_at_call 13; (with_reducible refine (Hp3.out _).mono ?_); intro _ _ hs; obtain ⟨g3, cap3, x3, rfl, rfl, hg3, hl3, hc3⟩ := hs.opens (by omega); have HC3 := Lib.hid hc3; clear hc3 hs hg3) | (go_at_call 16; (with_reducible refine (Hcs.out _).mono ?_); rintro e _ ⟨rfl, x, rfl⟩))
  have c0 := HC1.out 0 (by omega)
  have c1 := HC1.out 1 (by omega)
  simp at c0 c1
  have c2 := HC2.out (m1 * 2) (by have := Hm1.out; omega)
  have c3 := HC2.out (m1 * 2 + 1) (by have := Hm1.out; omega)
  rw [(fl_x l1 m1 _ Q1.out).1] at c2
  rw [(fl_x l1 m1 _ Q1.out).2] at c3
  have c4 := HC3.out (m2 * 2) (by have := Hm2.out; omega)
  have c5 := HC3.out (m2 * 2 + 1) (by have := Hm2.out; omega)
  rw [(fl_x l2 m2 _ Q2.out).1] at c4
  rw [(fl_x l2 m2 _ Q2.out).2] at c5
  refine wp_region_later (by kernel_rfl) (by kernel_rfl) ?_
  repeat (go_big_quiet_step ((first | fail)))
  refine wpQuiet_nil ?_
  intro x
  go_wp2_with (fail)
  refine wp_region_later (by kernel_rfl) (by kernel_rfl) ?_
  repeat (go_big_quiet_step ((first | fail)))
  refine wpQuiet_nil ?_
  intro x
  go_wp2_with (fail)
  exact bodyPost_ret (v := .bool true) (by simp [results, Try.results5, go_sem, *]) rfl ⟨rfl, (Later.mk_of (by repeat (first | (with_reducible assumption) | (with_reducible exact Below.refl _ _) | (with_reducible refine Later.after ?_ _) | (with_reducible refine Later.newer ?_ _) | (with_reducible refine Below.drew ?_) | (with_reducible refine Below.setCell ?_ (by first | exact Nat.le_refl _ | exact Nat.le_add_right _ _ | omega | (simp [go_sem]; done) | (simp [go_sem]; omega)) _))))⟩


set_option maxRecDepth 100000 in
set_option maxHeartbeats 4000000 in
theorem lines_one (a b c d e f : Int) (w : World) (u v p q : Int) (sh : Bool) (l1 l2 : List (Int × Int)) (M1 M2 m1 m2 : Nat) (e1 : wrap64 (c - a) = u) (e2 : wrap64 (d - b) = v) (e3 : wrap64 (e - c) = p) (e4 : wrap64 (f - d) = q)
    (hm1 : M1 = m1 + 1) (hm2 : M2 = m2 + 1) (m12 : M1 ≤ M2) (m9 : M2 ≤ 1024) (q1 : l1[m1]? = some (e, f)) (q2 : l2[m2]? = some (e, f))
    (cg : ∀ v, Calls Try.prog 10 #[.agg #[.int .i64 a, .int .i64 b, .int .i64 c, .int .i64 d, .int .i64 0, .int .i64 0, .int .i64 0, .int .i64 0, .int .i64 2]] v fun e w' => e = .returned (.bool true) ∧ ∃ x : Later v, w' = x.out) (ct : ∀ v, Calls Try.prog 10 #[.agg #[.int .i64 a, .int .i64 b, .int .i64 c, .int .i64 d, .int .i64 e, .int .i64 f, .int .i64 0, .int .i64 0, .int .i64 3]] v fun e w' => e = .returned (.bool true) ∧ ∃ x : Later v, w' = x.out)
    (p1 : ∀ v, Calls Try.prog 13 #[.agg #[.int .i64 a, .int .i64 b, .int .i64 c, .int .i64 d, .int .i64 0, .int .i64 0, .int .i64 0, .int .i64 0, .int .i64 2], .int .i64 0] v (SliceRet v 23 2 1 [.int .i64 c, .int .i64 d]))
    (p2 : ∀ v, Calls Try.prog 13 #[.agg #[.int .i64 a, .int .i64 b, .int .i64 c, .int .i64 d, .int .i64 e, .int .i64 f, .int .i64 0, .int .i64 0, .int .i64 3], .int .i64 268435456] v (SliceRet v 23 2 M1 (fl l1)))
    (p3 : ∀ v, Calls Try.prog 13 #[.agg #[.int .i64 a, .int .i64 b, .int .i64 c, .int .i64 d, .int .i64 e, .int .i64 f, .int .i64 0, .int .i64 0, .int .i64 3], .int .i64 0] v (SliceRet v 23 2 M2 (fl l2)))
    (cs : ∀ w', Calls Try.prog 16 #[.agg #[.int .i64 u, .int .i64 v], .agg #[.int .i64 p, .int .i64 q]] w' fun e w'' => e = .returned (.bool sh) ∧ ∃ x : Later w', w'' = x.out)
    (es : sh = false) (hM : M1 = 1) : Calls Try.prog 5 #[.agg #[.int .i64 a, .int .i64 b], .agg #[.int .i64 c, .int .i64 d], .agg #[.int .i64 e, .int .i64 f]] w fun e w' => e = .returned (.bool true) ∧ ∃ x : Later w, w' = x.out := by
  have Q1 := Lib.hid q1
  have Q2 := Lib.hid q2
  clear q1 q2
  have Hcg := Lib.hid cg; clear cg
  have Hct := Lib.hid ct; clear ct
  have Hp1 := Lib.hid p1; clear p1
  have Hp2 := Lib.hid p2; clear p2
  have Hp3 := Lib.hid p3; clear p3
  have Hcs := Lib.hid cs; clear cs
  have f1 : IntKind.i64.wrap ((M1 : Int) - 1) = (m1 : Int) := by rw [IntWalk.i64_in _ (by omega)]; omega
  have f2 : wrap64 ((M1 : Int) - 1) = (m1 : Int) := by unfold wrap64; omega
  have f3 : (M1 : Int) - 1 = (m1 : Int) := by omega
  have f4 : IntKind.i64.wrap ((M2 : Int) - 1) = (m2 : Int) := by rw [IntWalk.i64_in _ (by omega)]; omega
  have f5 : wrap64 ((M2 : Int) - 1) = (m2 : Int) := by unfold wrap64; omega
  have f6 : (M2 : Int) - 1 = (m2 : Int) := by omega
  have k1 : decide (M1 ≤ M2) = true := by simp [m12]
  have k2 : m1 < M1 := by omega
  have k3 : m2 < M2 := by omega
  have k4 : decide (m1 < M1) = true := by simp; omega
  have k5 : decide (m2 < M2) = true := by simp; omega
  have r0 : (0 : Int) ≤ m1 := by omega
  have r1 : (0 : Int) ≤ m2 := by omega
  have r2 : (M1 : Int) ≤ 1024 := by omega
  have r3 : (M2 : Int) ≤ 1024 := by omega
  subst es
  have g1 : (M1 == 1) = true := by simp [hM]
  have g2 : ((M1 : Int) == 1) = true := by simp [hM]
  have HhM := Lib.hid hM
  clear hM
  have Hm1 := Lib.hid hm1
  have Hm2 := Lib.hid hm2
  clear hm1 hm2
  go_enter Try.func5, Try.ntmps5
  go_wp2_with (first | (go_at_call 10; (with_reducible refine (Hcg.out _).mono ?_); rintro e _ ⟨rfl, x, rfl⟩) | (go_at_call 10; (with_reducible refine (Hct.out _).mono ?_); rintro e _ ⟨rfl, x, rfl⟩) | (go_at_call 11; (with_reducible refine (shown_10 _).mono ?_); rintro e _ ⟨rfl, x, rfl⟩) | (go_at_call 13; (with_reducible refine (Hp1.out _).mono ?_); intro _ _ hs; obtain ⟨g1, cap1, x1, rfl, rfl, hg1, hl1, hc1⟩ := hs.opens (by omega); have HC1 := Lib.hid hc1; clear hc1 hs hg1) | (go_at_call 13; (with_reducible refine (Hp2.out _).mono ?_); intro _ _ hs; obtain ⟨g2, cap2, x2, rfl, rfl, hg2, hl2, hc2⟩ := hs.opens (by omega); have HC2 := Lib.hid hc2; clear hc2 hs hg2) | (go_at_call 13; (with_reducible refine (Hp3.out _).mono ?_); intro _ _ hs; obtain ⟨g3, cap3, x3, rfl, rfl, hg3, hl3, hc3⟩ := hs.opens (by omega); have HC3 := Lib.hid hc3; clear hc3 hs hg3) | (go_at_call 16; (with_reducible refine (Hcs.out _).mono ?_); rintro e _ ⟨rfl, x, rfl⟩))
  have c0 := HC1.out 0 (by omega)
  have c1 := HC1.out 1 (by omega)
  simp at c0 c1
  have c2 := HC2.out (m1 * 2) (by have := Hm1.out; omega)
  have c3 := HC2.out (m1 * 2 + 1) (by have := Hm1.out; omega)
  rw [(fl_x l1 m1 _ Q1.out).1] at c2
  rw [(fl_x l1 m1 _ Q1.out).2] at c3
  have c4 := HC3.out (m2 * 2) (by have := Hm2.out; omega)
  have c5 := HC3.out (m2 * 2 + 1) (by have := Hm2.out; omega)
  rw [(fl_x l2 m2 _ Q2.out).1] at c4
  rw [(fl_x l2 m2 _ Q2.out).2] at c5
  refine wp_region_later (by kernel_rfl) (by kernel_rfl) ?_
  repeat (go_big_quiet_step ((first | fail)))
  refine wpQuiet_nil ?_
  intro x
  go_wp2_with (fail)
  refine wp_region_later (by kernel_rfl) (by kernel_rfl) ?_
  repeat (go_big_quiet_step ((first | fail)))
  refine wpQuiet_nil ?_
  intro x
  go_wp2_with (fail)
  exact bodyPost_ret (v := .bool true) (by simp [results, Try.results5, go_sem, *]) rfl ⟨rfl, (Later.mk_of (by repeat (first | (with_reducible assumption) | (with_reducible exact Below.refl _ _) | (with_reducible refine Later.after ?_ _) | (with_reducible refine Later.newer ?_ _) | (with_reducible refine Below.drew ?_) | (with_reducible refine Below.setCell ?_ (by first | exact Nat.le_refl _ | exact Nat.le_add_right _ _ | omega | (simp [go_sem]; done) | (simp [go_sem]; omega)) _))))⟩


set_option maxRecDepth 100000 in
set_option maxHeartbeats 4000000 in
theorem lines_h1 (a b c d e f : Int) (w : World) (u v p q : Int) (sh : Bool) (l1 l2 : List (Int × Int)) (M1 M2 m1 m2 : Nat) (e1 : wrap64 (c - a) = u) (e2 : wrap64 (d - b) = v) (e3 : wrap64 (e - c) = p) (e4 : wrap64 (f - d) = q)
    (hm1 : M1 = m1 + 1) (hm2 : M2 = m2 + 1) (m12 : M1 ≤ M2) (m9 : M2 ≤ 1024) (q1 : l1[m1]? = some (e, f)) (q2 : l2[m2]? = some (e, f))
    (cg : ∀ v, Calls Try.prog 10 #[.agg #[.int .i64 a, .int .i64 b, .int .i64 c, .int .i64 d, .int .i64 0, .int .i64 0, .int .i64 0, .int .i64 0, .int .i64 2]] v fun e w' => e = .returned (.bool true) ∧ ∃ x : Later v, w' = x.out) (ct : ∀ v, Calls Try.prog 10 #[.agg #[.int .i64 a, .int .i64 b, .int .i64 c, .int .i64 d, .int .i64 e, .int .i64 f, .int .i64 0, .int .i64 0, .int .i64 3]] v fun e w' => e = .returned (.bool true) ∧ ∃ x : Later v, w' = x.out)
    (p1 : ∀ v, Calls Try.prog 13 #[.agg #[.int .i64 a, .int .i64 b, .int .i64 c, .int .i64 d, .int .i64 0, .int .i64 0, .int .i64 0, .int .i64 0, .int .i64 2], .int .i64 0] v (SliceRet v 23 2 1 [.int .i64 c, .int .i64 d]))
    (p2 : ∀ v, Calls Try.prog 13 #[.agg #[.int .i64 a, .int .i64 b, .int .i64 c, .int .i64 d, .int .i64 e, .int .i64 f, .int .i64 0, .int .i64 0, .int .i64 3], .int .i64 268435456] v (SliceRet v 23 2 M1 (fl l1)))
    (p3 : ∀ v, Calls Try.prog 13 #[.agg #[.int .i64 a, .int .i64 b, .int .i64 c, .int .i64 d, .int .i64 e, .int .i64 f, .int .i64 0, .int .i64 0, .int .i64 3], .int .i64 0] v (SliceRet v 23 2 M2 (fl l2)))
    (cs : ∀ w', Calls Try.prog 16 #[.agg #[.int .i64 u, .int .i64 v], .agg #[.int .i64 p, .int .i64 q]] w' fun e w'' => e = .returned (.bool sh) ∧ ∃ x : Later w', w'' = x.out)
    (es : sh = false) (hM : M1 ≠ 1) (z1 : ∀ w', Calls Try.prog 17 #[.agg #[.int .i64 a, .int .i64 b]] w' fun e w'' => e = .returned (.bool false) ∧ ∃ x : Later w', w'' = x.out) : Calls Try.prog 5 #[.agg #[.int .i64 a, .int .i64 b], .agg #[.int .i64 c, .int .i64 d], .agg #[.int .i64 e, .int .i64 f]] w fun e w' => e = .returned (.bool true) ∧ ∃ x : Later w, w' = x.out := by
  have Q1 := Lib.hid q1
  have Q2 := Lib.hid q2
  clear q1 q2
  have Hcg := Lib.hid cg; clear cg
  have Hct := Lib.hid ct; clear ct
  have Hp1 := Lib.hid p1; clear p1
  have Hp2 := Lib.hid p2; clear p2
  have Hp3 := Lib.hid p3; clear p3
  have Hcs := Lib.hid cs; clear cs
  have Hz1 := Lib.hid z1; clear z1
  have f1 : IntKind.i64.wrap ((M1 : Int) - 1) = (m1 : Int) := by rw [IntWalk.i64_in _ (by omega)]; omega
  have f2 : wrap64 ((M1 : Int) - 1) = (m1 : Int) := by unfold wrap64; omega
  have f3 : (M1 : Int) - 1 = (m1 : Int) := by omega
  have f4 : IntKind.i64.wrap ((M2 : Int) - 1) = (m2 : Int) := by rw [IntWalk.i64_in _ (by omega)]; omega
  have f5 : wrap64 ((M2 : Int) - 1) = (m2 : Int) := by unfold wrap64; omega
  have f6 : (M2 : Int) - 1 = (m2 : Int) := by omega
  have k1 : decide (M1 ≤ M2) = true := by simp [m12]
  have k2 : m1 < M1 := by omega
  have k3 : m2 < M2 := by omega
  have k4 : decide (m1 < M1) = true := by simp; omega
  have k5 : decide (m2 < M2) = true := by simp; omega
  have r0 : (0 : Int) ≤ m1 := by omega
  have r1 : (0 : Int) ≤ m2 := by omega
  have r2 : (M1 : Int) ≤ 1024 := by omega
  have r3 : (M2 : Int) ≤ 1024 := by omega
  subst es
  have g1 : (M1 == 1) = false := by simp [hM]
  have g2 : ((M1 : Int) == 1) = false := by simp; omega
  have HhM := Lib.hid hM
  clear hM
  have Hm1 := Lib.hid hm1
  have Hm2 := Lib.hid hm2
  clear hm1 hm2
  go_enter Try.func5, Try.ntmps5
  go_wp2_with (first | (go_at_call 10; (with_reducible refine (Hcg.out _).mono ?_); rintro e _ ⟨rfl, x, rfl⟩) | (go_at_call 10; (with_reducible refine (Hct.out _).mono ?_); rintro e _ ⟨rfl, x, rfl⟩) | (go_at_call 11; (with_reducible refine (shown_10 _).mono ?_); rintro e _ ⟨rfl, x, rfl⟩) | (go_at_call 13; (with_reducible refine (Hp1.out _).mono ?_); intro _ _ hs; obtain ⟨g1, cap1, x1, rfl, rfl, hg1, hl1, hc1⟩ := hs.opens (by omega); have HC1 := Lib.hid hc1; clear hc1 hs hg1) | (go_at_call 13; (with_reducible refine (Hp2.out _).mono ?_); intro _ _ hs; obtain ⟨g2, cap2, x2, rfl, rfl, hg2, hl2, hc2⟩ := hs.opens (by omega); have HC2 := Lib.hid hc2; clear hc2 hs hg2) | (go_at_call 13; (with_reducible refine (Hp3.out _).mono ?_); intro _ _ hs; obtain ⟨g3, cap3, x3, rfl, rfl, hg3, hl3, hc3⟩ := hs.opens (by omega); have HC3 := Lib.hid hc3; clear hc3 hs hg3) | (go_at_call 16; (with_reducible refine (Hcs.out _).mono ?_); rintro e _ ⟨rfl, x, rfl⟩))
  have c0 := HC1.out 0 (by omega)
  have c1 := HC1.out 1 (by omega)
  simp at c0 c1
  have c2 := HC2.out (m1 * 2) (by have := Hm1.out; omega)
  have c3 := HC2.out (m1 * 2 + 1) (by have := Hm1.out; omega)
  rw [(fl_x l1 m1 _ Q1.out).1] at c2
  rw [(fl_x l1 m1 _ Q1.out).2] at c3
  have c4 := HC3.out (m2 * 2) (by have := Hm2.out; omega)
  have c5 := HC3.out (m2 * 2 + 1) (by have := Hm2.out; omega)
  rw [(fl_x l2 m2 _ Q2.out).1] at c4
  rw [(fl_x l2 m2 _ Q2.out).2] at c5
  refine wp_region_later (by kernel_rfl) (by kernel_rfl) ?_
  repeat (go_big_quiet_step ((first | fail)))
  refine wpQuiet_nil ?_
  intro x
  go_wp2_with (fail)
  refine wp_region_later (by kernel_rfl) (by kernel_rfl) ?_
  repeat (go_big_quiet_step ((first | (go_at_call 17; with_reducible exact Later.call _ (Hz1.out _)))))
  refine wpQuiet_nil ?_
  intro x
  go_wp2_with (fail)
  exact bodyPost_ret (v := .bool true) (by simp [results, Try.results5, go_sem, *]) rfl ⟨rfl, (Later.mk_of (by repeat (first | (with_reducible assumption) | (with_reducible exact Below.refl _ _) | (with_reducible refine Later.after ?_ _) | (with_reducible refine Later.newer ?_ _) | (with_reducible refine Below.drew ?_) | (with_reducible refine Below.setCell ?_ (by first | exact Nat.le_refl _ | exact Nat.le_add_right _ _ | omega | (simp [go_sem]; done) | (simp [go_sem]; omega)) _))))⟩


set_option maxRecDepth 100000 in
set_option maxHeartbeats 4000000 in
theorem lines_h2 (a b c d e f : Int) (w : World) (u v p q : Int) (sh : Bool) (l1 l2 : List (Int × Int)) (M1 M2 m1 m2 : Nat) (e1 : wrap64 (c - a) = u) (e2 : wrap64 (d - b) = v) (e3 : wrap64 (e - c) = p) (e4 : wrap64 (f - d) = q)
    (hm1 : M1 = m1 + 1) (hm2 : M2 = m2 + 1) (m12 : M1 ≤ M2) (m9 : M2 ≤ 1024) (q1 : l1[m1]? = some (e, f)) (q2 : l2[m2]? = some (e, f))
    (cg : ∀ v, Calls Try.prog 10 #[.agg #[.int .i64 a, .int .i64 b, .int .i64 c, .int .i64 d, .int .i64 0, .int .i64 0, .int .i64 0, .int .i64 0, .int .i64 2]] v fun e w' => e = .returned (.bool true) ∧ ∃ x : Later v, w' = x.out) (ct : ∀ v, Calls Try.prog 10 #[.agg #[.int .i64 a, .int .i64 b, .int .i64 c, .int .i64 d, .int .i64 e, .int .i64 f, .int .i64 0, .int .i64 0, .int .i64 3]] v fun e w' => e = .returned (.bool true) ∧ ∃ x : Later v, w' = x.out)
    (p1 : ∀ v, Calls Try.prog 13 #[.agg #[.int .i64 a, .int .i64 b, .int .i64 c, .int .i64 d, .int .i64 0, .int .i64 0, .int .i64 0, .int .i64 0, .int .i64 2], .int .i64 0] v (SliceRet v 23 2 1 [.int .i64 c, .int .i64 d]))
    (p2 : ∀ v, Calls Try.prog 13 #[.agg #[.int .i64 a, .int .i64 b, .int .i64 c, .int .i64 d, .int .i64 e, .int .i64 f, .int .i64 0, .int .i64 0, .int .i64 3], .int .i64 268435456] v (SliceRet v 23 2 M1 (fl l1)))
    (p3 : ∀ v, Calls Try.prog 13 #[.agg #[.int .i64 a, .int .i64 b, .int .i64 c, .int .i64 d, .int .i64 e, .int .i64 f, .int .i64 0, .int .i64 0, .int .i64 3], .int .i64 0] v (SliceRet v 23 2 M2 (fl l2)))
    (cs : ∀ w', Calls Try.prog 16 #[.agg #[.int .i64 u, .int .i64 v], .agg #[.int .i64 p, .int .i64 q]] w' fun e w'' => e = .returned (.bool sh) ∧ ∃ x : Later w', w'' = x.out)
    (es : sh = false) (hM : M1 ≠ 1) (z1 : ∀ w', Calls Try.prog 17 #[.agg #[.int .i64 a, .int .i64 b]] w' fun e w'' => e = .returned (.bool true) ∧ ∃ x : Later w', w'' = x.out) (z2 : ∀ w', Calls Try.prog 17 #[.agg #[.int .i64 c, .int .i64 d]] w' fun e w'' => e = .returned (.bool false) ∧ ∃ x : Later w', w'' = x.out) : Calls Try.prog 5 #[.agg #[.int .i64 a, .int .i64 b], .agg #[.int .i64 c, .int .i64 d], .agg #[.int .i64 e, .int .i64 f]] w fun e w' => e = .returned (.bool true) ∧ ∃ x : Later w, w' = x.out := by
  have Q1 := Lib.hid q1
  have Q2 := Lib.hid q2
  clear q1 q2
  have Hcg := Lib.hid cg; clear cg
  have Hct := Lib.hid ct; clear ct
  have Hp1 := Lib.hid p1; clear p1
  have Hp2 := Lib.hid p2; clear p2
  have Hp3 := Lib.hid p3; clear p3
  have Hcs := Lib.hid cs; clear cs
  have Hz1 := Lib.hid z1; clear z1
  have Hz2 := Lib.hid z2; clear z2
  have f1 : IntKind.i64.wrap ((M1 : Int) - 1) = (m1 : Int) := by rw [IntWalk.i64_in _ (by omega)]; omega
  have f2 : wrap64 ((M1 : Int) - 1) = (m1 : Int) := by unfold wrap64; omega
  have f3 : (M1 : Int) - 1 = (m1 : Int) := by omega
  have f4 : IntKind.i64.wrap ((M2 : Int) - 1) = (m2 : Int) := by rw [IntWalk.i64_in _ (by omega)]; omega
  have f5 : wrap64 ((M2 : Int) - 1) = (m2 : Int) := by unfold wrap64; omega
  have f6 : (M2 : Int) - 1 = (m2 : Int) := by omega
  have k1 : decide (M1 ≤ M2) = true := by simp [m12]
  have k2 : m1 < M1 := by omega
  have k3 : m2 < M2 := by omega
  have k4 : decide (m1 < M1) = true := by simp; omega
  have k5 : decide (m2 < M2) = true := by simp; omega
  have r0 : (0 : Int) ≤ m1 := by omega
  have r1 : (0 : Int) ≤ m2 := by omega
  have r2 : (M1 : Int) ≤ 1024 := by omega
  have r3 : (M2 : Int) ≤ 1024 := by omega
  subst es
  have g1 : (M1 == 1) = false := by simp [hM]
  have g2 : ((M1 : Int) == 1) = false := by simp; omega
  have HhM := Lib.hid hM
  clear hM
  have Hm1 := Lib.hid hm1
  have Hm2 := Lib.hid hm2
  clear hm1 hm2
  go_enter Try.func5, Try.ntmps5
  go_wp2_with (first | (go_at_call 10; (with_reducible refine (Hcg.out _).mono ?_); rintro e _ ⟨rfl, x, rfl⟩) | (go_at_call 10; (with_reducible refine (Hct.out _).mono ?_); rintro e _ ⟨rfl, x, rfl⟩) | (go_at_call 11; (with_reducible refine (shown_10 _).mono ?_); rintro e _ ⟨rfl, x, rfl⟩) | (go_at_call 13; (with_reducible refine (Hp1.out _).mono ?_); intro _ _ hs; obtain ⟨g1, cap1, x1, rfl, rfl, hg1, hl1, hc1⟩ := hs.opens (by omega); have HC1 := Lib.hid hc1; clear hc1 hs hg1) | (go_at_call 13; (with_reducible refine (Hp2.out _).mono ?_); intro _ _ hs; obtain ⟨g2, cap2, x2, rfl, rfl, hg2, hl2, hc2⟩ := hs.opens (by omega); have HC2 := Lib.hid hc2; clear hc2 hs hg2) | (go_at_call 13; (with_reducible refine (Hp3.out _).mono ?_); intro _ _ hs; obtain ⟨g3, cap3, x3, rfl, rfl, hg3, hl3, hc3⟩ := hs.opens (by omega); have HC3 := Lib.hid hc3; clear hc3 hs hg3) | (go_at_call 16; (with_reducible refine (Hcs.out _).mono ?_); rintro e _ ⟨rfl, x, rfl⟩))
  have c0 := HC1.out 0 (by omega)
  have c1 := HC1.out 1 (by omega)
  simp at c0 c1
  have c2 := HC2.out (m1 * 2) (by have := Hm1.out; omega)
  have c3 := HC2.out (m1 * 2 + 1) (by have := Hm1.out; omega)
  rw [(fl_x l1 m1 _ Q1.out).1] at c2
  rw [(fl_x l1 m1 _ Q1.out).2] at c3
  have c4 := HC3.out (m2 * 2) (by have := Hm2.out; omega)
  have c5 := HC3.out (m2 * 2 + 1) (by have := Hm2.out; omega)
  rw [(fl_x l2 m2 _ Q2.out).1] at c4
  rw [(fl_x l2 m2 _ Q2.out).2] at c5
  refine wp_region_later (by kernel_rfl) (by kernel_rfl) ?_
  repeat (go_big_quiet_step ((first | fail)))
  refine wpQuiet_nil ?_
  intro x
  go_wp2_with (fail)
  refine wp_region_later (by kernel_rfl) (by kernel_rfl) ?_
  repeat (go_big_quiet_step ((first | (go_at_call 17; with_reducible exact Later.call _ (Hz1.out _)) | (go_at_call 17; with_reducible exact Later.call _ (Hz2.out _)))))
  refine wpQuiet_nil ?_
  intro x
  go_wp2_with (fail)
  exact bodyPost_ret (v := .bool true) (by simp [results, Try.results5, go_sem, *]) rfl ⟨rfl, (Later.mk_of (by repeat (first | (with_reducible assumption) | (with_reducible exact Below.refl _ _) | (with_reducible refine Later.after ?_ _) | (with_reducible refine Later.newer ?_ _) | (with_reducible refine Below.drew ?_) | (with_reducible refine Below.setCell ?_ (by first | exact Nat.le_refl _ | exact Nat.le_add_right _ _ | omega | (simp [go_sem]; done) | (simp [go_sem]; omega)) _))))⟩


set_option maxRecDepth 100000 in
set_option maxHeartbeats 4000000 in
theorem lines_h3 (a b c d e f : Int) (w : World) (u v p q : Int) (sh : Bool) (l1 l2 : List (Int × Int)) (M1 M2 m1 m2 : Nat) (e1 : wrap64 (c - a) = u) (e2 : wrap64 (d - b) = v) (e3 : wrap64 (e - c) = p) (e4 : wrap64 (f - d) = q)
    (hm1 : M1 = m1 + 1) (hm2 : M2 = m2 + 1) (m12 : M1 ≤ M2) (m9 : M2 ≤ 1024) (q1 : l1[m1]? = some (e, f)) (q2 : l2[m2]? = some (e, f))
    (cg : ∀ v, Calls Try.prog 10 #[.agg #[.int .i64 a, .int .i64 b, .int .i64 c, .int .i64 d, .int .i64 0, .int .i64 0, .int .i64 0, .int .i64 0, .int .i64 2]] v fun e w' => e = .returned (.bool true) ∧ ∃ x : Later v, w' = x.out) (ct : ∀ v, Calls Try.prog 10 #[.agg #[.int .i64 a, .int .i64 b, .int .i64 c, .int .i64 d, .int .i64 e, .int .i64 f, .int .i64 0, .int .i64 0, .int .i64 3]] v fun e w' => e = .returned (.bool true) ∧ ∃ x : Later v, w' = x.out)
    (p1 : ∀ v, Calls Try.prog 13 #[.agg #[.int .i64 a, .int .i64 b, .int .i64 c, .int .i64 d, .int .i64 0, .int .i64 0, .int .i64 0, .int .i64 0, .int .i64 2], .int .i64 0] v (SliceRet v 23 2 1 [.int .i64 c, .int .i64 d]))
    (p2 : ∀ v, Calls Try.prog 13 #[.agg #[.int .i64 a, .int .i64 b, .int .i64 c, .int .i64 d, .int .i64 e, .int .i64 f, .int .i64 0, .int .i64 0, .int .i64 3], .int .i64 268435456] v (SliceRet v 23 2 M1 (fl l1)))
    (p3 : ∀ v, Calls Try.prog 13 #[.agg #[.int .i64 a, .int .i64 b, .int .i64 c, .int .i64 d, .int .i64 e, .int .i64 f, .int .i64 0, .int .i64 0, .int .i64 3], .int .i64 0] v (SliceRet v 23 2 M2 (fl l2)))
    (cs : ∀ w', Calls Try.prog 16 #[.agg #[.int .i64 u, .int .i64 v], .agg #[.int .i64 p, .int .i64 q]] w' fun e w'' => e = .returned (.bool sh) ∧ ∃ x : Later w', w'' = x.out)
    (es : sh = false) (hM : M1 ≠ 1) (z1 : ∀ w', Calls Try.prog 17 #[.agg #[.int .i64 a, .int .i64 b]] w' fun e w'' => e = .returned (.bool true) ∧ ∃ x : Later w', w'' = x.out) (z2 : ∀ w', Calls Try.prog 17 #[.agg #[.int .i64 c, .int .i64 d]] w' fun e w'' => e = .returned (.bool true) ∧ ∃ x : Later w', w'' = x.out) (z3 : ∀ w', Calls Try.prog 17 #[.agg #[.int .i64 e, .int .i64 f]] w' fun e w'' => e = .returned (.bool false) ∧ ∃ x : Later w', w'' = x.out) : Calls Try.prog 5 #[.agg #[.int .i64 a, .int .i64 b], .agg #[.int .i64 c, .int .i64 d], .agg #[.int .i64 e, .int .i64 f]] w fun e w' => e = .returned (.bool true) ∧ ∃ x : Later w, w' = x.out := by
  have Q1 := Lib.hid q1
  have Q2 := Lib.hid q2
  clear q1 q2
  have Hcg := Lib.hid cg; clear cg
  have Hct := Lib.hid ct; clear ct
  have Hp1 := Lib.hid p1; clear p1
  have Hp2 := Lib.hid p2; clear p2
  have Hp3 := Lib.hid p3; clear p3
  have Hcs := Lib.hid cs; clear cs
  have Hz1 := Lib.hid z1; clear z1
  have Hz2 := Lib.hid z2; clear z2
  have Hz3 := Lib.hid z3; clear z3
  have f1 : IntKind.i64.wrap ((M1 : Int) - 1) = (m1 : Int) := by rw [IntWalk.i64_in _ (by omega)]; omega
  have f2 : wrap64 ((M1 : Int) - 1) = (m1 : Int) := by unfold wrap64; omega
  have f3 : (M1 : Int) - 1 = (m1 : Int) := by omega
  have f4 : IntKind.i64.wrap ((M2 : Int) - 1) = (m2 : Int) := by rw [IntWalk.i64_in _ (by omega)]; omega
  have f5 : wrap64 ((M2 : Int) - 1) = (m2 : Int) := by unfold wrap64; omega
  have f6 : (M2 : Int) - 1 = (m2 : Int) := by omega
  have k1 : decide (M1 ≤ M2) = true := by simp [m12]
  have k2 : m1 < M1 := by omega
  have k3 : m2 < M2 := by omega
  have k4 : decide (m1 < M1) = true := by simp; omega
  have k5 : decide (m2 < M2) = true := by simp; omega
  have r0 : (0 : Int) ≤ m1 := by omega
  have r1 : (0 : Int) ≤ m2 := by omega
  have r2 : (M1 : Int) ≤ 1024 := by omega
  have r3 : (M2 : Int) ≤ 1024 := by omega
  subst es
  have g1 : (M1 == 1) = false := by simp [hM]
  have g2 : ((M1 : Int) == 1) = false := by simp; omega
  have HhM := Lib.hid hM
  clear hM
  have Hm1 := Lib.hid hm1
  have Hm2 := Lib.hid hm2
  clear hm1 hm2
  go_enter Try.func5, Try.ntmps5
  go_wp2_with (first | (go_at_call 10; (with_reducible refine (Hcg.out _).mono ?_); rintro e _ ⟨rfl, x, rfl⟩) | (go_at_call 10; (with_reducible refine (Hct.out _).mono ?_); rintro e _ ⟨rfl, x, rfl⟩) | (go_at_call 11; (with_reducible refine (shown_10 _).mono ?_); rintro e _ ⟨rfl, x, rfl⟩) | (go_at_call 13; (with_reducible refine (Hp1.out _).mono ?_); intro _ _ hs; obtain ⟨g1, cap1, x1, rfl, rfl, hg1, hl1, hc1⟩ := hs.opens (by omega); have HC1 := Lib.hid hc1; clear hc1 hs hg1) | (go_at_call 13; (with_reducible refine (Hp2.out _).mono ?_); intro _ _ hs; obtain ⟨g2, cap2, x2, rfl, rfl, hg2, hl2, hc2⟩ := hs.opens (by omega); have HC2 := Lib.hid hc2; clear hc2 hs hg2) | (go_at_call 13; (with_reducible refine (Hp3.out _).mono ?_); intro _ _ hs; obtain ⟨g3, cap3, x3, rfl, rfl, hg3, hl3, hc3⟩ := hs.opens (by omega); have HC3 := Lib.hid hc3; clear hc3 hs hg3) | (go_at_call 16; (with_reducible refine (Hcs.out _).mono ?_); rintro e _ ⟨rfl, x, rfl⟩))
  have c0 := HC1.out 0 (by omega)
  have c1 := HC1.out 1 (by omega)
  simp at c0 c1
  have c2 := HC2.out (m1 * 2) (by have := Hm1.out; omega)
  have c3 := HC2.out (m1 * 2 + 1) (by have := Hm1.out; omega)
  rw [(fl_x l1 m1 _ Q1.out).1] at c2
  rw [(fl_x l1 m1 _ Q1.out).2] at c3
  have c4 := HC3.out (m2 * 2) (by have := Hm2.out; omega)
  have c5 := HC3.out (m2 * 2 + 1) (by have := Hm2.out; omega)
  rw [(fl_x l2 m2 _ Q2.out).1] at c4
  rw [(fl_x l2 m2 _ Q2.out).2] at c5
  refine wp_region_later (by kernel_rfl) (by kernel_rfl) ?_
  repeat (go_big_quiet_step ((first | fail)))
  refine wpQuiet_nil ?_
  intro x
  go_wp2_with (fail)
  refine wp_region_later (by kernel_rfl) (by kernel_rfl) ?_
  repeat (go_big_quiet_step ((first | (go_at_call 17; with_reducible exact Later.call _ (Hz1.out _)) | (go_at_call 17; with_reducible exact Later.call _ (Hz2.out _)) | (go_at_call 17; with_reducible exact Later.call _ (Hz3.out _)))))
  refine wpQuiet_nil ?_
  intro x
  go_wp2_with (fail)
  exact bodyPost_ret (v := .bool true) (by simp [results, Try.results5, go_sem, *]) rfl ⟨rfl, (Later.mk_of (by repeat (first | (with_reducible assumption) | (with_reducible exact Below.refl _ _) | (with_reducible refine Later.after ?_ _) | (with_reducible refine Later.newer ?_ _) | (with_reducible refine Below.drew ?_) | (with_reducible refine Below.setCell ?_ (by first | exact Nat.le_refl _ | exact Nat.le_add_right _ _ | omega | (simp [go_sem]; done) | (simp [go_sem]; omega)) _))))⟩


theorem lines_walk (a b c d e f : Int) (w : World) : Calls Try.prog 5 #[.agg #[.int .i64 a, .int .i64 b], .agg #[.int .i64 c, .int .i64 d], .agg #[.int .i64 e, .int .i64 f]] w fun e w' => e = .returned (.bool true) ∧ ∃ x : Later w, w' = x.out := by
  have cg : ∀ v, Calls Try.prog 10 #[.agg #[.int .i64 a, .int .i64 b, .int .i64 c, .int .i64 d, .int .i64 0, .int .i64 0, .int .i64 0, .int .i64 0, .int .i64 2]] v fun r w' => r = .returned (.bool (goodB (sg2 a b c d))) ∧ ∃ x : Later v, w' = x.out := fun v => gd_c (sg2 a b c d) v
  have ct : ∀ v, Calls Try.prog 10 #[.agg #[.int .i64 a, .int .i64 b, .int .i64 c, .int .i64 d, .int .i64 e, .int .i64 f, .int .i64 0, .int .i64 0, .int .i64 3]] v fun r w' => r = .returned (.bool (goodB (sg3 a b c d e f))) ∧ ∃ x : Later v, w' = x.out := fun v => gd_c (sg3 a b c d e f) v
  cases h1 : goodB (sg2 a b c d)
  · rw [h1] at cg
    exact lines_no1 a b c d e f w cg
  cases h2 : goodB (sg3 a b c d e f)
  · rw [h1] at cg
    rw [h2] at ct
    exact lines_no2 a b c d e f w cg ct
  rw [h1] at cg
  rw [h2] at ct
  have G1 := goodB_good _ h1 rfl
  have G2 := goodB_good _ h2 rfl
  have B0 : -268435456 ≤ a ∧ a ≤ 268435456 := G2.bd 0 (by omega)
  have B1 : -268435456 ≤ b ∧ b ≤ 268435456 := G2.bd 1 (by omega)
  have B2 : -268435456 ≤ c ∧ c ≤ 268435456 := G2.bd 2 (by omega)
  have B3 : -268435456 ≤ d ∧ d ≤ 268435456 := G2.bd 3 (by omega)
  have B4 : -268435456 ≤ e ∧ e ≤ 268435456 := G2.bd 4 (by omega)
  have B5 : -268435456 ≤ f ∧ f ≤ 268435456 := G2.bd 5 (by omega)
  have p1 : ∀ v, Calls Try.prog 13 #[.agg #[.int .i64 a, .int .i64 b, .int .i64 c, .int .i64 d, .int .i64 0, .int .i64 0, .int .i64 0, .int .i64 0, .int .i64 2], .int .i64 0] v (SliceRet v 23 2 1 [.int .i64 c, .int .i64 d]) := fun v => by
    have := points_E (sg2 a b c d) G1 rfl 0 (by omega) (by omega) v
    rw [flat_line 0 _ rfl] at this
    exact this
  have p2 : ∀ v, Calls Try.prog 13 #[.agg #[.int .i64 a, .int .i64 b, .int .i64 c, .int .i64 d, .int .i64 e, .int .i64 f, .int .i64 0, .int .i64 0, .int .i64 3], .int .i64 268435456] v (SliceRet v 23 2 _ (fl _)) := fun v => points_E (sg3 a b c d e f) G2 rfl 268435456 (by omega) (by omega) v
  have p3 : ∀ v, Calls Try.prog 13 #[.agg #[.int .i64 a, .int .i64 b, .int .i64 c, .int .i64 d, .int .i64 e, .int .i64 f, .int .i64 0, .int .i64 0, .int .i64 3], .int .i64 0] v (SliceRet v 23 2 _ (fl _)) := fun v => points_E (sg3 a b c d e f) G2 rfl 0 (by omega) (by omega) v
  have L1 := flat_len 268435456 _ G2
  have L2 := flat_len 0 _ G2
  have L12 := (flat_sub 0 268435456 (by omega) _ G2).length_le
  obtain ⟨m1, hm1⟩ : ∃ m, ((flat 268435456).all (sg3 a b c d e f)).length = m + 1 := ⟨_, (Nat.succ_pred_eq_of_pos L1.1).symm⟩
  obtain ⟨m2, hm2⟩ : ∃ m, ((flat 0).all (sg3 a b c d e f)).length = m + 1 := ⟨_, (Nat.succ_pred_eq_of_pos L2.1).symm⟩
  have q1 : ((flat 268435456).all (sg3 a b c d e f))[m1]? = some (e, f) := by
    have := flat_last 268435456 _ G2
    rw [List.getLast?_eq_getElem?, hm1] at this
    exact this
  have q2 : ((flat 0).all (sg3 a b c d e f))[m2]? = some (e, f) := by
    have := flat_last 0 _ G2
    rw [List.getLast?_eq_getElem?, hm2] at this
    exact this
  have M1b := mul_bd29 (c - a) (e - c) (by omega) (by omega) (by omega) (by omega)
  have M2b := mul_bd29 (d - b) (f - d) (by omega) (by omega) (by omega) (by omega)
  have cd := fun v => ptDot_r (c - a) (d - b) (e - c) (f - d) v
  rw [w64_in ((c - a) * (e - c) + (d - b) * (f - d)) (by unfold R64; omega)] at cd
  have cs := fun v => rsharp_c (c - a) (d - b) (e - c) (f - d) _ v cd
  have e1 := w64_in (c - a) (by unfold R64; omega)
  have e2 := w64_in (d - b) (by unfold R64; omega)
  have e3 := w64_in (e - c) (by unfold R64; omega)
  have e4 := w64_in (f - d) (by unfold R64; omega)
  have z1 := fun v => half_c a b v (by omega) (by omega) (by omega) (by omega)
  have z2 := fun v => half_c c d v (by omega) (by omega) (by omega) (by omega)
  have z3 := fun v => half_c e f v (by omega) (by omega) (by omega) (by omega)
  have esh : shpB (sg3 a b c d e f) = decide ((c - a) * (e - c) + (d - b) * (f - d) < 0) := rfl
  cases hs : decide ((c - a) * (e - c) + (d - b) * (f - d) < 0)
  rotate_left
  · rw [hs] at cs
    exact lines_sharp a b c d e f w _ _ _ _ _ _ _ _ _ m1 m2 e1 e2 e3 e4 hm1 hm2 L12 L2.2 q1 q2 cg ct p1 p2 p3 cs rfl
  rw [hs] at cs esh
  by_cases hM : ((flat 268435456).all (sg3 a b c d e f)).length = 1
  · exact lines_one a b c d e f w _ _ _ _ _ _ _ _ _ m1 m2 e1 e2 e3 e4 hm1 hm2 L12 L2.2 q1 q2 cg ct p1 p2 p3 cs rfl hM
  cases k1 : hfB a b
  · rw [k1] at z1
    exact lines_h1 a b c d e f w _ _ _ _ _ _ _ _ _ m1 m2 e1 e2 e3 e4 hm1 hm2 L12 L2.2 q1 q2 cg ct p1 p2 p3 cs rfl hM z1
  rw [k1] at z1
  cases k2 : hfB c d
  · rw [k2] at z2
    exact lines_h2 a b c d e f w _ _ _ _ _ _ _ _ _ m1 m2 e1 e2 e3 e4 hm1 hm2 L12 L2.2 q1 q2 cg ct p1 p2 p3 cs rfl hM z1 z2
  rw [k2] at z2
  cases k3 : hfB e f
  · rw [k3] at z3
    exact lines_h3 a b c d e f w _ _ _ _ _ _ _ _ _ m1 m2 e1 e2 e3 e4 hm1 hm2 L12 L2.2 q1 q2 cg ct p1 p2 p3 cs rfl hM z1 z2 z3
  exfalso
  unfold hfB at k1 k2 k3
  simp only [Bool.and_eq_true, nrB_iff] at k1 k2 k3
  have := flat_rough (sg3 a b c d e f) rfl esh (fun i hi => by
    have : i = 0 ∨ i = 1 ∨ i = 2 ∨ i = 3 ∨ i = 4 ∨ i = 5 := by omega
    rcases this with rfl | rfl | rfl | rfl | rfl | rfl <;> simp only [sg3] <;> omega)
  rw [this] at hM
  exact hM rfl
end Go.Proofs.Ytfgppkiioinphaa
