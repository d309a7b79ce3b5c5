/-
  The statement of WideMul, for every input: its walk, and the row round it.
-/
import Derived.Test.YtfaiepalmkobeaaW8
import Derived.Test.YtfaiepalmkobeaaRow
import Derived.ProofKit
import Derived.OpenShut
namespace Go.Proofs.Ytfaiepalmkobeaa.wideMul
open Go.ChangeShapes Go.WideShapes Go.ChangeAt Go.RowKit Go.Joins
set_option linter.unusedVariables false

set_option maxRecDepth 100000 in
set_option maxHeartbeats 2000000 in
theorem mul_walk (x y c p1 p2 s1 s2 g1 g2 t1 t2 u1 u2 : Int) (w : World) (hx0 : -2147483648 ≤ x) (hx1 : x ≤ 2147483647) (hy0 : -2147483648 ≤ y) (hy1 : y ≤ 2147483647)
    (h1 : ∀ w', Calls Try.prog 23 #[.int .i64 x, .int .i64 c] w' fun e w'' => e = .returned (.agg #[.int .i64 p1, .int .u64 p2]) ∧ ∃ x : Later w', w'' = x.out) (h2 : ∀ w', Calls Try.prog 23 #[.int .i64 c, .int .i64 x] w' fun e w'' => e = .returned (.agg #[.int .i64 p1, .int .u64 p2]) ∧ ∃ x : Later w', w'' = x.out) (h3 : ∀ w', Calls Try.prog 23 #[.int .i64 y, .int .i64 c] w' fun e w'' => e = .returned (.agg #[.int .i64 s1, .int .u64 s2]) ∧ ∃ x : Later w', w'' = x.out) (h4 : ∀ w', Calls Try.prog 24 #[.agg #[.int .i64 p1, .int .u64 p2], .agg #[.int .i64 s1, .int .u64 s2]] w' fun e w'' => e = .returned (.agg #[.int .i64 g1, .int .u64 g2]) ∧ ∃ x : Later w', w'' = x.out)
    (h5 : ∀ w', Calls Try.prog 23 #[.int .i64 (x + y), .int .i64 c] w' fun e w'' => e = .returned (.agg #[.int .i64 g1, .int .u64 g2]) ∧ ∃ x : Later w', w'' = x.out) (h6 : ∀ w', Calls Try.prog 23 #[.int .i64 (-x), .int .i64 c] w' fun e w'' => e = .returned (.agg #[.int .i64 t1, .int .u64 t2]) ∧ ∃ x : Later w', w'' = x.out) (h7 : ∀ w', Calls Try.prog 24 #[.agg #[.int .i64 p1, .int .u64 p2], .agg #[.int .i64 t1, .int .u64 t2]] w' fun e w'' => e = .returned (.agg #[.int .i64 0, .int .u64 0]) ∧ ∃ x : Later w', w'' = x.out) (h8 : ∀ w', Calls Try.prog 23 #[.int .i64 x, .int .i64 1] w' fun e w'' => e = .returned (.agg #[.int .i64 u1, .int .u64 u2]) ∧ ∃ x : Later w', w'' = x.out) (h9 : ∀ w', Calls Try.prog 21 #[.int .i64 x] w' fun e w'' => e = .returned (.agg #[.int .i64 u1, .int .u64 u2]) ∧ ∃ x : Later w', w'' = x.out) :
    Calls Try.prog 8 #[.int .i32 x, .int .i32 y, .int .i64 c] w fun e w' => e = .returned (.bool true) ∧ ∃ x : Later w, w' = x.out := by
  have Hh1 := Lib.hid h1; clear h1
  have Hh2 := Lib.hid h2; clear h2
  have Hh3 := Lib.hid h3; clear h3
  have Hh4 := Lib.hid h4; clear h4
  have Hh5 := Lib.hid h5; clear h5
  have Hh6 := Lib.hid h6; clear h6
  have Hh7 := Lib.hid h7; clear h7
  have Hh8 := Lib.hid h8; clear h8
  have Hh9 := Lib.hid h9; clear h9
  go_enter Try.func8, Try.ntmps8
  go_wp2_with (first | (go_at_call 23; (with_reducible refine (Hh1.out _).mono ?_); rintro e _ ⟨rfl, x, rfl⟩) | (go_at_call 23; (with_reducible refine (Hh2.out _).mono ?_); rintro e _ ⟨rfl, x, rfl⟩) | (go_at_call 23; (with_reducible refine (Hh3.out _).mono ?_); rintro e _ ⟨rfl, x, rfl⟩) | (go_at_call 24; (with_reducible refine (Hh4.out _).mono ?_); rintro e _ ⟨rfl, x, rfl⟩) | (go_at_call 23; (with_reducible refine (Hh5.out _).mono ?_); rintro e _ ⟨rfl, x, rfl⟩) | (go_at_call 23; (with_reducible refine (Hh6.out _).mono ?_); rintro e _ ⟨rfl, x, rfl⟩) | (go_at_call 24; (with_reducible refine (Hh7.out _).mono ?_); rintro e _ ⟨rfl, x, rfl⟩) | (go_at_call 23; (with_reducible refine (Hh8.out _).mono ?_); rintro e _ ⟨rfl, x, rfl⟩) | (go_at_call 21; (with_reducible refine (Hh9.out _).mono ?_); rintro e _ ⟨rfl, x, rfl⟩) | (go_at_call 19; (with_reducible refine (shown_c _).mono ?_); rintro e _ ⟨rfl, x, rfl⟩))
  go_ret
  exact ⟨rfl, (Later.mk_of (by repeat (first | (with_reducible assumption) | (with_reducible exact Below.refl _ _) | (with_reducible refine Later.after ?_ _) | (with_reducible refine Later.newer ?_ _) | (with_reducible refine Below.drew ?_) | (with_reducible refine Below.setCell ?_ (by first | exact Nat.le_refl _ | exact Nat.le_add_right _ _ | omega | (simp [go_sem]; done) | (simp [go_sem]; omega)) _))))⟩

theorem walk (a0 a1 a2 : Int) (w0 : (Lit.int .i32 a0).wf = true) (w1 : (Lit.int .i32 a1).wf = true) (w2 : (Lit.int .i64 a2).wf = true) (w : World) :
    Calls Try.prog 8 #[.int .i32 a0, .int .i32 a1, .int .i64 a2] w fun e w' => e = .returned (.bool true) ∧ ∃ x : Later w, w' = x.out := by
  have b0 := bounds_i32 w0
  have b1 := bounds_i32 w1
  have rc := R64_of w2
  have h2 := fun v => mul_c a2 a0 v rc (by unfold R64; omega)
  rw [Int.mul_comm a2 a0] at h2
  have h5 := fun v => mul_c (a0 + a1) a2 v (by unfold R64; omega) rc
  rw [Int.add_mul] at h5
  have h6 := fun v => mul_c (-a0) a2 v (by unfold R64; omega) rc
  rw [Int.neg_mul] at h6
  have h7 := fun v => add_c (a0 * a2) (-(a0 * a2)) v
  rw [show a0 * a2 + -(a0 * a2) = 0 by omega, W_zero.1, W_zero.2] at h7
  have h8 := fun v => mul_c a0 1 v (by unfold R64; omega) (by unfold R64; omega)
  rw [Int.mul_one] at h8
  exact mul_walk a0 a1 a2 _ _ _ _ _ _ _ _ _ _ w b0.1 b0.2 b1.1 b1.2 (fun v => mul_c a0 a2 v (by unfold R64; omega) rc) h2 (fun v => mul_c a1 a2 v (by unfold R64; omega) rc) (fun v => add_c _ _ v) h5 h6 h7 h8 (fun v => of_c a0 v (by unfold R64; omega))


set_option maxRecDepth 100000 in
theorem lifted (os : Os) (started : os.Started) (H : Type) (enc : TypeId × Value → H) :
    ReturnsInHanded {} Try.checked os 8 .any (Rows.wideMulSpec.pre6 enc Try.prog Try.f8 Rows.wideMulRow.domain false) (Rows.wideMulSpec.post enc Try.prog Try.f8 false true false false) := by
  refine returnsInHanded_of_change (C := Try.checked) own started (by kernel_rfl) Try.func8
    (ChangeSpec.witness6 (enc := enc) (C := Try.checked) false ⟨#[], #[.int .i32 0, .int .i32 0, .int .i64 0], []⟩ 8 (by kernel_rfl) (by kernel_rfl) (by kernel_rfl) (by kernel_rfl)) ?_
  intro W base args ds gs before hval0 hW hcnd _
  have hval : ∀ (j : Nat) t v, Try.f8.params[j]? = some t → args[j]? = some v → Value.okWide Try.prog W .any base t v := hval0
  have hW' := hW
  obtain ⟨p, q, hA0, hV, rfl, hfz, hnd⟩ := hW
  have hA : DataW.TrodAll enc Try.prog W 0 (fun _ => true) true Try.f8.params.toList args.toList ds p := hA0
  rw [Try.params8] at hA hval
  obtain ⟨v0, vs0, d0, ds0, p0, q0, hargs, rfl, rfl, h0, r0⟩ := trodAll_cons hA
  obtain ⟨v1, vs1, d1, ds1, p1, q1, rfl, rfl, rfl, h1, r1⟩ := trodAll_cons r0
  obtain ⟨v2, vs2, d2, ds2, p2, q2, rfl, rfl, rfl, h2, r2⟩ := trodAll_cons r1
  obtain ⟨rfl, rfl, rfl⟩ := trodAll_nil r2
  obtain rfl : args = #[v0, v1, v2] := by cases args; simp_all
  obtain ⟨rfl, rfl⟩ := trodVars_none hV
  obtain ⟨a0, rfl, rfl, rfl, w0⟩ := open_int Try.underlying21 (hval 0 21 v0 rfl rfl) h0
  obtain ⟨a1, rfl, rfl, rfl, w1⟩ := open_int Try.underlying21 (hval 1 21 v1 rfl rfl) h1
  obtain ⟨a2, rfl, rfl, rfl, w2⟩ := open_int Try.underlying2 (hval 2 2 v2 rfl rfl) h2
  clear hA0 hval0
  simp only [List.append_nil] at hW'
  refine (walk a0 a1 a2 w0 w1 w2 W).mono fun e W' ⟨he, hg⟩ => ?_
  subst he
  exact ⟨_, rfl, post_later (pa := []) hW' (fun _ _ _ => (trodAll_cons_mk (shut_bool Try.underlying4 _) trodAll_mk0)) (fun sp _ => (trodAll_cons_mk (shut_int Try.underlying21 w0) (trodAll_cons_mk (shut_int Try.underlying21 w1) (trodAll_cons_mk (shut_int Try.underlying2 w2) trodAll_mk0)))) (fun _ _ => rfl) rfl
    hg (ok_one (by kernel_rfl) rfl (okWide_bool_mk Try.underlying4 _))⟩

theorem over : Rows.wideMulRow.holds Try.pinned (OpenSpec.ofChange Rows.wideMulSpec) :=
  OpenClaim.holds_of_wide 8 Try.f8 rfl rfl rfl rfl rfl rfl rfl ⟨rfl, rfl, rfl, rfl, rfl⟩ rfl rfl rfl rfl rfl (by kernel_rfl) Try.func8 (by kernel_rfl)
    (of_decide_eq_true (by kernel_rfl)) (by unfold Func.isWrapper; first | (rw [if_pos (by decide +kernel)]; kernel_rfl) | (rw [if_neg (by decide +kernel)]; exact ⟨rfl, rfl⟩))
    (fun os started H enc _ => lifted os started H enc)

theorem proved : Rows.WideMulSaid :=
  over
#print axioms proved
end Go.Proofs.Ytfaiepalmkobeaa.wideMul

