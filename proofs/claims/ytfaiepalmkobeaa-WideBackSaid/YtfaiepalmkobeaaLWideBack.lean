/-
  The statement of WideBack, for every input: its walk, and the row round it.
-/
import Derived.Test.YtfaiepalmkobeaaW8
import Derived.Test.YtfaiepalmkobeaaRow
import Derived.ProofKit
import Derived.OpenShut
namespace Go.Proofs.Ytfaiepalmkobeaa.wideBack
open Go.ChangeShapes Go.WideShapes Go.ChangeAt Go.RowKit Go.Joins
set_option linter.unusedVariables false

set_option maxRecDepth 100000 in
set_option maxHeartbeats 2000000 in
theorem back_no (m n add : Int) (w : World) (hn : n ≤ 0) :
    Calls Try.prog 6 #[.int .i64 m, .int .i64 n, .int .u64 add] w fun e w' => e = .returned (.bool true) ∧ ∃ x : Later w, w' = x.out := by
  go_enter Try.func6, Try.ntmps6
  go_wp2_with (first | (go_at_call 19; (with_reducible refine (shown_c _).mono ?_); rintro e _ ⟨rfl, x, rfl⟩))
  go_ret
  exact ⟨rfl, (Later.mk_of (by repeat (first | (with_reducible assumption) | (with_reducible exact Below.refl _ _) | (with_reducible refine Later.after ?_ _) | (with_reducible refine Later.newer ?_ _) | (with_reducible refine Below.drew ?_) | (with_reducible refine Below.setCell ?_ (by first | exact Nat.le_refl _ | exact Nat.le_add_right _ _ | omega | (simp [go_sem]; done) | (simp [go_sem]; omega)) _))))⟩

set_option maxRecDepth 100000 in
set_option maxHeartbeats 2000000 in
theorem back_yes (m n add r mh ml rh rl sh sl qh ql : Int) (w : World) (hn : 0 < n) (hn1 : n ≤ 9223372036854775807) (ha0 : 0 ≤ add) (e1 : add % n = r) (r0 : 0 ≤ r) (r1 : r < n)
    (h1 : ∀ w', Calls Try.prog 23 #[.int .i64 m, .int .i64 n] w' fun e w'' => e = .returned (.agg #[.int .i64 mh, .int .u64 ml]) ∧ ∃ x : Later w', w'' = x.out) (h2 : ∀ w', Calls Try.prog 21 #[.int .i64 r] w' fun e w'' => e = .returned (.agg #[.int .i64 rh, .int .u64 rl]) ∧ ∃ x : Later w', w'' = x.out) (h3 : ∀ w', Calls Try.prog 24 #[.agg #[.int .i64 mh, .int .u64 ml], .agg #[.int .i64 rh, .int .u64 rl]] w' fun e w'' => e = .returned (.agg #[.int .i64 sh, .int .u64 sl]) ∧ ∃ x : Later w', w'' = x.out)
    (h4 : ∀ w', Calls Try.prog 15 #[.agg #[.int .i64 sh, .int .u64 sl], .int .i64 n] w' fun e w'' => e = .returned (.tuple #[.agg #[.int .i64 qh, .int .u64 ql], .int .i64 r, .int .i64 0]) ∧ ∃ x : Later w', w'' = x.out) (h5 : ∀ w', Calls Try.prog 17 #[.agg #[.int .i64 qh, .int .u64 ql]] w' fun e w'' => e = .returned (.tuple #[.int .i64 m, .bool true]) ∧ ∃ x : Later w', w'' = x.out) :
    Calls Try.prog 6 #[.int .i64 m, .int .i64 n, .int .u64 add] w fun e w' => e = .returned (.bool true) ∧ ∃ x : Later w, w' = x.out := by
  have Hh1 := Lib.hid h1; clear h1
  have Hh2 := Lib.hid h2; clear h2
  have Hh3 := Lib.hid h3; clear h3
  have Hh4 := Lib.hid h4; clear h4
  have Hh5 := Lib.hid h5; clear h5
  have dn : decide (n ≤ 0) = false := by simp; omega
  go_enter Try.func6, Try.ntmps6
  go_wp2_with (first | (go_at_call 19; (with_reducible refine (shown_c _).mono ?_); rintro e _ ⟨rfl, x, rfl⟩) | (go_at_call 23; (with_reducible refine (Hh1.out _).mono ?_); rintro e _ ⟨rfl, x, rfl⟩) | (go_at_call 21; (with_reducible refine (Hh2.out _).mono ?_); rintro e _ ⟨rfl, x, rfl⟩) | (go_at_call 24; (with_reducible refine (Hh3.out _).mono ?_); rintro e _ ⟨rfl, x, rfl⟩) | (go_at_call 15; (with_reducible refine (Hh4.out _).mono ?_); rintro e _ ⟨rfl, x, rfl⟩) | (go_at_call 17; (with_reducible refine (Hh5.out _).mono ?_); rintro e _ ⟨rfl, x, rfl⟩))
  go_ret
  exact ⟨rfl, (Later.mk_of (by repeat (first | (with_reducible assumption) | (with_reducible exact Below.refl _ _) | (with_reducible refine Later.after ?_ _) | (with_reducible refine Later.newer ?_ _) | (with_reducible refine Below.drew ?_) | (with_reducible refine Below.setCell ?_ (by first | exact Nat.le_refl _ | exact Nat.le_add_right _ _ | omega | (simp [go_sem]; done) | (simp [go_sem]; omega)) _))))⟩

theorem walk (a0 a1 a2 : Int) (w0 : (Lit.int .i64 a0).wf = true) (w1 : (Lit.int .i64 a1).wf = true) (w2 : (Lit.int .u64 a2).wf = true) (w : World) :
    Calls Try.prog 6 #[.int .i64 a0, .int .i64 a1, .int .u64 a2] w fun e w' => e = .returned (.bool true) ∧ ∃ x : Later w, w' = x.out := by
  have b0 := bounds_i64 w0
  have b1 := bounds_i64 w1
  have b2 := bounds_u64 w2
  by_cases h : a1 ≤ 0
  · exact back_no a0 a1 a2 w h
  · have r0 := Int.emod_nonneg a2 (show a1 ≠ 0 by omega)
    have r1 := Int.emod_lt_of_pos a2 (show 0 < a1 by omega)
    have p1 : a0 * a1 ≤ 9223372036854775807 * a1 := Int.mul_le_mul_of_nonneg_right b0.2 (by omega)
    have p2 : -9223372036854775808 * a1 ≤ a0 * a1 := Int.mul_le_mul_of_nonneg_right b0.1 (by omega)
    have hr : R128 (a0 * a1 + a2 % a1) := by unfold R128; omega
    have hd := fun v => div_c (a0 * a1 + a2 % a1) a1 v hr (by omega) b1.2
    rw [show (a0 * a1 + a2 % a1) / a1 = a0 by rw [Int.add_comm, Int.add_mul_ediv_right _ _ (by omega), Int.ediv_eq_zero_of_lt r0 r1]; omega,
      show (a0 * a1 + a2 % a1) % a1 = a2 % a1 by rw [Int.add_comm, Int.add_mul_emod_self_right, Int.emod_eq_of_lt r0 r1]] at hd
    exact back_yes a0 a1 a2 _ _ _ _ _ _ _ _ _ w (by omega) b1.2 b2.1 rfl r0 r1 (fun v => mul_c a0 a1 v (R64_of w0) (R64_of w1)) (fun v => of_c (a2 % a1) v (by unfold R64; omega)) (fun v => add_c _ _ v) hd (fun v => narrow_yes a0 v (R64_of w0))


set_option maxRecDepth 100000 in
theorem lifted (os : Os) (started : os.Started) (H : Type) (enc : TypeId × Value → H) :
    ReturnsInHanded {} Try.checked os 6 .any (Rows.wideBackSpec.pre6 enc Try.prog Try.f6 Rows.wideBackRow.domain false) (Rows.wideBackSpec.post enc Try.prog Try.f6 false true false false) := by
  refine returnsInHanded_of_change (C := Try.checked) own started (by kernel_rfl) Try.func6
    (ChangeSpec.witness6 (enc := enc) (C := Try.checked) false ⟨#[], #[.int .i64 0, .int .i64 0, .int .u64 0], []⟩ 8 (by kernel_rfl) (by kernel_rfl) (by kernel_rfl) (by kernel_rfl)) ?_
  intro W base args ds gs before hval0 hW hcnd _
  have hval : ∀ (j : Nat) t v, Try.f6.params[j]? = some t → args[j]? = some v → Value.okWide Try.prog W .any base t v := hval0
  have hW' := hW
  obtain ⟨p, q, hA0, hV, rfl, hfz, hnd⟩ := hW
  have hA : DataW.TrodAll enc Try.prog W 0 (fun _ => true) true Try.f6.params.toList args.toList ds p := hA0
  rw [Try.params6] at hA hval
  obtain ⟨v0, vs0, d0, ds0, p0, q0, hargs, rfl, rfl, h0, r0⟩ := trodAll_cons hA
  obtain ⟨v1, vs1, d1, ds1, p1, q1, rfl, rfl, rfl, h1, r1⟩ := trodAll_cons r0
  obtain ⟨v2, vs2, d2, ds2, p2, q2, rfl, rfl, rfl, h2, r2⟩ := trodAll_cons r1
  obtain ⟨rfl, rfl, rfl⟩ := trodAll_nil r2
  obtain rfl : args = #[v0, v1, v2] := by cases args; simp_all
  obtain ⟨rfl, rfl⟩ := trodVars_none hV
  obtain ⟨a0, rfl, rfl, rfl, w0⟩ := open_int Try.underlying2 (hval 0 2 v0 rfl rfl) h0
  obtain ⟨a1, rfl, rfl, rfl, w1⟩ := open_int Try.underlying2 (hval 1 2 v1 rfl rfl) h1
  obtain ⟨a2, rfl, rfl, rfl, w2⟩ := open_int Try.underlying22 (hval 2 22 v2 rfl rfl) h2
  clear hA0 hval0
  simp only [List.append_nil] at hW'
  refine (walk a0 a1 a2 w0 w1 w2 W).mono fun e W' ⟨he, hg⟩ => ?_
  subst he
  exact ⟨_, rfl, post_later (pa := []) hW' (fun _ _ _ => (trodAll_cons_mk (shut_bool Try.underlying4 _) trodAll_mk0)) (fun sp _ => (trodAll_cons_mk (shut_int Try.underlying2 w0) (trodAll_cons_mk (shut_int Try.underlying2 w1) (trodAll_cons_mk (shut_int Try.underlying22 w2) trodAll_mk0)))) (fun _ _ => rfl) rfl
    hg (ok_one (by kernel_rfl) rfl (okWide_bool_mk Try.underlying4 _))⟩

theorem over : Rows.wideBackRow.holds Try.pinned (OpenSpec.ofChange Rows.wideBackSpec) :=
  OpenClaim.holds_of_wide 6 Try.f6 rfl rfl rfl rfl rfl rfl rfl ⟨rfl, rfl, rfl, rfl, rfl⟩ rfl rfl rfl rfl rfl (by kernel_rfl) Try.func6 (by kernel_rfl)
    (of_decide_eq_true (by kernel_rfl)) (by unfold Func.isWrapper; first | (rw [if_pos (by decide +kernel)]; kernel_rfl) | (rw [if_neg (by decide +kernel)]; exact ⟨rfl, rfl⟩))
    (fun os started H enc _ => lifted os started H enc)

theorem proved : Rows.WideBackSaid :=
  over
#print axioms proved
end Go.Proofs.Ytfaiepalmkobeaa.wideBack

