/-
  The statement of VectorLens, for every input: its walk, and the row round it.
-/
import Derived.Test.YtdlemjecocmbgaaV4
import Derived.Test.YtdlemjecocmbgaaRow
import Derived.ProofKit
import Derived.OpenShut
namespace Go.Proofs.Ytdlemjecocmbgaa.vectorLens
open Go.ChangeShapes Go.WideShapes Go.ChangeAt Go.RowKit Go.Joins
set_option linter.unusedVariables false

theorem cells23 : Try.prog.cellsOf 23 = 2 := by kernel_rfl

set_option maxRecDepth 100000 in
set_option maxHeartbeats 600000 in
theorem walk_far (p q : Int) (w : World)
    (c1 : ∀ w', Calls Try.prog 10 #[.agg #[.int .i64 p, .int .i64 q]] w' fun e w'' => e = .returned (.bool false) ∧ ∃ x : Later w', w'' = x.out) :
    Calls Try.prog 3 #[.agg #[.int .i64 p, .int .i64 q]] w fun e w' => e = .returned (.bool true) ∧ ∃ x : Later w, w' = x.out := by
  have Hc1 := Lib.hid c1; clear c1
  go_enter Try.func3, Try.ntmps3
  go_wp2_with (first | (go_at_call 10; (with_reducible refine (Hc1.out _).mono ?_); rintro e _ ⟨rfl, x, rfl⟩) | (go_at_call 11; (with_reducible refine (shown_4 _).mono ?_); rintro e _ ⟨rfl, x, rfl⟩))
  go_ret
  exact ⟨rfl, (Later.mk_of (by repeat (first | (with_reducible assumption) | (with_reducible exact Below.refl _ _) | (with_reducible refine Later.after ?_ _) | (with_reducible refine Later.newer ?_ _) | (with_reducible refine Below.drew ?_) | (with_reducible refine Below.setCell ?_ (by first | exact Nat.le_refl _ | exact Nat.le_add_right _ _ | omega | (simp [go_sem]; done) | (simp [go_sem]; omega)) _))))⟩
set_option maxRecDepth 100000 in
set_option maxHeartbeats 1000000 in
theorem walk_at (p q n d p' q' X Y n2 m m2 s : Int) (w : World)
    (e1 : wrap64 (-p) = p') (e2 : wrap64 (-q) = q') (e3 : max p p' = X) (e4 : max q q' = Y) (e5 : wrap64 (n * n) = n2) (e6 : wrap64 (n + 1) = m) (e7 : wrap64 (m * m) = m2) (e8 : wrap64 (X + Y) = s)
    (g1 : n2 ≤ d) (g2 : d < m2) (g3 : n ≤ s) (g4 : X ≤ n) (g5 : Y ≤ n)
    (c1 : ∀ w', Calls Try.prog 10 #[.agg #[.int .i64 p, .int .i64 q]] w' fun e w'' => e = .returned (.bool true) ∧ ∃ x : Later w', w'' = x.out)
    (c2 : ∀ w', Calls Try.prog 12 #[.agg #[.int .i64 p, .int .i64 q]] w' fun e w'' => e = .returned (.int .i64 n) ∧ ∃ x : Later w', w'' = x.out)
    (c3 : ∀ w', Calls Try.prog 13 #[.agg #[.int .i64 p, .int .i64 q], .agg #[.int .i64 p, .int .i64 q]] w' fun e w'' => e = .returned (.int .i64 d) ∧ ∃ x : Later w', w'' = x.out)
    (c4 : ∀ w', Calls Try.prog 14 #[.agg #[.int .i64 p, .int .i64 q]] w' fun e w'' => e = .returned (.agg #[.int .i64 (p'), .int .i64 (q')]) ∧ ∃ x : Later w', w'' = x.out)
    (c5 : ∀ w', Calls Try.prog 12 #[.agg #[.int .i64 (p'), .int .i64 (q')]] w' fun e w'' => e = .returned (.int .i64 n) ∧ ∃ x : Later w', w'' = x.out) :
    Calls Try.prog 3 #[.agg #[.int .i64 p, .int .i64 q]] w fun e w' => e = .returned (.bool true) ∧ ∃ x : Later w, w' = x.out := by
  have Hc1 := Lib.hid c1; clear c1
  have Hc2 := Lib.hid c2; clear c2
  have Hc3 := Lib.hid c3; clear c3
  have Hc4 := Lib.hid c4; clear c4
  have Hc5 := Lib.hid c5; clear c5
  go_enter Try.func3, Try.ntmps3
  go_wp2_with (first | (go_at_call 10; (with_reducible refine (Hc1.out _).mono ?_); rintro e _ ⟨rfl, x, rfl⟩) | (go_at_call 12; (with_reducible refine (Hc2.out _).mono ?_); rintro e _ ⟨rfl, x, rfl⟩) | (go_at_call 13; (with_reducible refine (Hc3.out _).mono ?_); rintro e _ ⟨rfl, x, rfl⟩) | (go_at_call 14; (with_reducible refine (Hc4.out _).mono ?_); rintro e _ ⟨rfl, x, rfl⟩) | (go_at_call 12; (with_reducible refine (Hc5.out _).mono ?_); rintro e _ ⟨rfl, x, rfl⟩) | (go_at_call 11; (with_reducible refine (shown_4 _).mono ?_); rintro e _ ⟨rfl, x, rfl⟩))
  go_ret
  exact ⟨rfl, (Later.mk_of (by repeat (first | (with_reducible assumption) | (with_reducible exact Below.refl _ _) | (with_reducible refine Later.after ?_ _) | (with_reducible refine Later.newer ?_ _) | (with_reducible refine Below.drew ?_) | (with_reducible refine Below.setCell ?_ (by first | exact Nat.le_refl _ | exact Nat.le_add_right _ _ | omega | (simp [go_sem]; done) | (simp [go_sem]; omega)) _))))⟩
theorem walk (a0 b0 : Int) (w0 : (Lit.int .i64 a0).wf = true) (u0 : (Lit.int .i64 b0).wf = true) (w : World) :
    Calls Try.prog 3 #[.agg #[.int .i64 a0, .int .i64 b0]] w fun e w' => e = .returned (.bool true) ∧ ∃ x : Later w, w' = x.out := by
  have hn := fun v => ptNear_r a0 b0 v
  by_cases h : (btw a0 && btw b0) = true
  · rw [h] at hn
    simp only [Bool.and_eq_true, btw_iff] at h
    obtain ⟨⟨h1, h2⟩, h3, h4⟩ := h
    have s1 := near_sq a0 h1 h2
    have s2 := near_sq b0 h3 h4
    have i0 := isq_is (a0 * a0 + b0 * b0) (by omega)
    generalize isq (a0 * a0 + b0 * b0) = r at *
    have lt := root_near i0 (by omega)
    have r0 := i0.r0
    have rl := i0.le
    have rt := i0.lt
    have r2 := sq_add r 1
    have f1 : wrap64 (-a0) = -a0 := w64_in _ (by unfold R64; omega)
    have f2 : wrap64 (-b0) = -b0 := w64_in _ (by unfold R64; omega)
    have f3 := fun v => ptNeg_c a0 b0 v
    rw [f1, f2] at f3
    have f4 := fun v => ptDot_c a0 b0 a0 b0 v
    rw [w64_in (a0 * a0 + b0 * b0) (by unfold R64; omega)] at f4
    have k1 := root_mono i0 (x := max a0 (-a0)) (by omega) (by rcases Int.le_total a0 (-a0) with k | k; · rw [Int.max_eq_right k, Int.neg_mul_neg]; omega
                                                               · rw [Int.max_eq_left k]; omega)
    have k2 := root_mono i0 (x := max b0 (-b0)) (by omega) (by rcases Int.le_total b0 (-b0) with k | k; · rw [Int.max_eq_right k, Int.neg_mul_neg]; omega
                                                               · rw [Int.max_eq_left k]; omega)
    have k3 : r ≤ max a0 (-a0) + max b0 (-b0) := by
      refine Int.le_of_lt_add_one (root_lt i0 _ (by omega) ?_)
      have e1 : max a0 (-a0) * max a0 (-a0) = a0 * a0 := by
        rcases Int.le_total a0 (-a0) with k | k
        · rw [Int.max_eq_right k, Int.neg_mul_neg]
        · rw [Int.max_eq_left k]
      have e2 : max b0 (-b0) * max b0 (-b0) = b0 * b0 := by
        rcases Int.le_total b0 (-b0) with k | k
        · rw [Int.max_eq_right k, Int.neg_mul_neg]
        · rw [Int.max_eq_left k]
      have x0 : 0 ≤ max a0 (-a0) := by omega
      have y0 : 0 ≤ max b0 (-b0) := by omega
      generalize max a0 (-a0) = X at *
      generalize max b0 (-b0) = Y at *
      have q1 := sq_add (X + Y) 1
      have q2 := sq_add X Y
      have q3 := Int.mul_nonneg x0 y0
      omega
    exact walk_at a0 b0 r _ _ _ _ _ _ _ _ _ w f1 f2 rfl rfl (w64_in _ (by unfold R64; omega)) (w64_in _ (by unfold R64; omega)) (w64_in _ (by unfold R64; omega)) (w64_in _ (by unfold R64; omega)) rl rt k3 k1 k2
      hn (fun v => ptLen_c a0 b0 r v h1 h2 h3 h4 i0) f4 f3 (fun v => ptLen_c (-a0) (-b0) r v (by omega) (by omega) (by omega) (by omega) (by rw [Int.neg_mul_neg, Int.neg_mul_neg]; exact i0))
  · rw [Bool.not_eq_true] at h
    rw [h] at hn
    exact walk_far a0 b0 w hn


set_option maxRecDepth 100000 in
theorem lifted (os : Os) (started : os.Started) (H : Type) (enc : TypeId × Value → H) :
    ReturnsInHanded {} Try.checked os 3 .any (Rows.vectorLensSpec.pre6 enc Try.prog Try.f3 Rows.vectorLensRow.domain false) (Rows.vectorLensSpec.post enc Try.prog Try.f3 false true false false) := by
  refine returnsInHanded_of_change (C := Try.checked) own started (by kernel_rfl) Try.func3
    (ChangeSpec.witness6 (enc := enc) (C := Try.checked) false ⟨#[], #[.agg #[.int .i64 0, .int .i64 0]], []⟩ 8 (by kernel_rfl) (by kernel_rfl) (by kernel_rfl) (by kernel_rfl)) ?_
  intro W base args ds gs before hval0 hW hcnd _
  have hval : ∀ (j : Nat) t v, Try.f3.params[j]? = some t → args[j]? = some v → Value.okWide Try.prog W .any base t v := hval0
  have hW' := hW
  obtain ⟨p, q, hA0, hV, rfl, hfz, hnd⟩ := hW
  have hA : DataW.TrodAll enc Try.prog W 0 (fun _ => true) true Try.f3.params.toList args.toList ds p := hA0
  rw [Try.params3] at hA hval
  obtain ⟨v0, vs0, d0, ds0, p0, q0, hargs, rfl, rfl, h0, r0⟩ := trodAll_cons hA
  obtain ⟨rfl, rfl, rfl⟩ := trodAll_nil r0
  obtain rfl : args = #[v0] := by cases args; simp_all
  obtain ⟨rfl, rfl⟩ := trodVars_none hV
  obtain ⟨a0, b0, rfl, rfl, rfl, w0, u0⟩ := open_two Try.underlying23 (by kernel_rfl) cells23 Try.underlying3 Try.underlying3 (hval 0 23 v0 rfl rfl) h0
  clear hA0 hval0
  simp only [List.append_nil] at hW'
  refine (walk a0 b0 w0 u0 W).mono fun e W' ⟨he, hg⟩ => ?_
  subst he
  exact ⟨_, rfl, post_later (pa := []) hW' (fun _ _ _ => (trodAll_cons_mk (shut_bool Try.underlying4 _) trodAll_mk0)) (fun sp _ => (trodAll_cons_mk (shut_two Try.underlying23 (by kernel_rfl) cells23 Try.underlying3 Try.underlying3 w0 u0) trodAll_mk0)) (fun _ _ => rfl) rfl
    hg (ok_one (by kernel_rfl) rfl (okWide_bool_mk Try.underlying4 _))⟩

theorem over : Rows.vectorLensRow.holds Try.pinned (OpenSpec.ofChange Rows.vectorLensSpec) :=
  OpenClaim.holds_of_wide 3 Try.f3 rfl rfl rfl rfl rfl rfl rfl ⟨rfl, rfl, rfl, rfl, rfl⟩ rfl rfl rfl rfl rfl (by kernel_rfl) Try.func3 (by kernel_rfl)
    (of_decide_eq_true (by kernel_rfl)) (by unfold Func.isWrapper; first | (rw [if_pos (by decide +kernel)]; kernel_rfl) | (rw [if_neg (by decide +kernel)]; exact ⟨rfl, rfl⟩))
    (fun os started H enc _ => lifted os started H enc)

theorem proved : Rows.VectorLensSaid :=
  over
#print axioms proved
end Go.Proofs.Ytdlemjecocmbgaa.vectorLens

