/-
  The statement of RootNear, for every input: its walk, and the row round it.
-/
import Derived.Test.YtfaiepalmkobeaaR4
import Derived.Test.YtfaiepalmkobeaaRow
import Derived.ProofKit
import Derived.OpenShut
namespace Go.Proofs.Ytfaiepalmkobeaa.rootNear
open Go.ChangeShapes Go.WideShapes Go.ChangeAt Go.RowKit Go.Joins
set_option linter.unusedVariables false


set_option maxRecDepth 100000 in
set_option maxHeartbeats 600000 in
theorem walk_at (n r : Int) (w : World)
    (c1 : ∀ w', Calls Try.prog 32 #[.int .u64 n] w' fun e w'' => e = .returned (.int .u64 r) ∧ ∃ x : Later w', w'' = x.out)
    (c2 : ∀ w', Calls Try.prog 34 #[.agg #[.int .i64 0, .int .u64 n]] w' fun e w'' => e = .returned (.int .u64 r) ∧ ∃ x : Later w', w'' = x.out) (h : r ≤ 4294967295) (h1 : IntKind.u64.wrap (r * r) ≤ n) (h2 : (r == 4294967295) = true ∨ (r == 4294967295) = false ∧ n < IntKind.u64.wrap (IntKind.u64.wrap (r + 1) * IntKind.u64.wrap (r + 1))) :
    Calls Try.prog 10 #[.int .u64 n] w fun e w' => e = .returned (.bool true) ∧ ∃ x : Later w, w' = x.out := by
  have Hc1 := Lib.hid c1; clear c1
  have Hc2 := Lib.hid c2; clear c2
  rcases h2 with h2 | ⟨h2, h3⟩
  all_goals
    go_enter Try.func10, Try.ntmps10
    go_wp2_with (first | (go_at_call 32; (with_reducible refine (Hc1.out _).mono ?_); rintro e _ ⟨rfl, x, rfl⟩) | (go_at_call 34; (with_reducible refine (Hc2.out _).mono ?_); rintro e _ ⟨rfl, x, rfl⟩) | (go_at_call 38; (with_reducible refine (shown_2 _).mono ?_); rintro e _ ⟨rfl, x, rfl⟩))
    go_ret
    exact ⟨rfl, (Later.mk_of (by repeat (first | (with_reducible assumption) | (with_reducible exact Below.refl _ _) | (with_reducible refine Later.after ?_ _) | (with_reducible refine Later.newer ?_ _) | (with_reducible refine Below.drew ?_) | (with_reducible refine Below.setCell ?_ (by first | exact Nat.le_refl _ | exact Nat.le_add_right _ _ | omega | (simp [go_sem]; done) | (simp [go_sem]; omega)) _))))⟩
theorem walk (a0 : Int) (w0 : (Lit.int .u64 a0).wf = true) (w : World) :
    Calls Try.prog 10 #[.int .u64 a0] w fun e w' => e = .returned (.bool true) ∧ ∃ x : Later w, w' = x.out := by
  have b0 := bounds_u64 w0
  have i0 := isq_is a0 (by omega)
  have lt := root_lt i0 4294967296 (by omega) (by omega)
  generalize isq a0 = r at *
  have r0 := i0.r0
  have rl := i0.le
  have rt := i0.lt
  have e1 : IntKind.u64.wrap (r * r) = r * r := IntWalk.u64_in _ (by have := Int.mul_nonneg r0 r0; omega)
  have e2 : IntKind.u64.wrap (r + 1) = r + 1 := IntWalk.u64_in _ (by omega)
  have h := fun v => long_c a0 r v (by unfold R128; omega) (by omega) i0
  rw [show hiW a0 = 0 by unfold hiW; omega, show loW a0 = a0 by unfold loW; omega] at h
  refine walk_at a0 r w (fun v => sqrt_c _ _ v (by omega) (by omega) i0) h (by omega) (by rw [e1]; exact rl) ?_
  by_cases k : r = 4294967295
  · exact .inl (by simp [k])
  · refine .inr ⟨by simp [k], ?_⟩
    have := Int.mul_le_mul (show r + 1 ≤ 4294967295 by omega) (show r + 1 ≤ 4294967295 by omega) (by omega) (by omega)
    rw [e2, IntWalk.u64_in _ (by omega)]
    exact rt


set_option maxRecDepth 100000 in
theorem lifted (os : Os) (started : os.Started) (H : Type) (enc : TypeId × Value → H) :
    ReturnsInHanded {} Try.checked os 10 .any (Rows.rootNearSpec.pre6 enc Try.prog Try.f10 Rows.rootNearRow.domain false) (Rows.rootNearSpec.post enc Try.prog Try.f10 false true false false) := by
  refine returnsInHanded_of_change (C := Try.checked) own started (by kernel_rfl) Try.func10
    (ChangeSpec.witness6 (enc := enc) (C := Try.checked) false ⟨#[], #[.int .u64 0], []⟩ 8 (by kernel_rfl) (by kernel_rfl) (by kernel_rfl) (by kernel_rfl)) ?_
  intro W base args ds gs before hval0 hW hcnd _
  have hval : ∀ (j : Nat) t v, Try.f10.params[j]? = some t → args[j]? = some v → Value.okWide Try.prog W .any base t v := hval0
  have hW' := hW
  obtain ⟨p, q, hA0, hV, rfl, hfz, hnd⟩ := hW
  have hA : DataW.TrodAll enc Try.prog W 0 (fun _ => true) true Try.f10.params.toList args.toList ds p := hA0
  rw [Try.params10] at hA hval
  obtain ⟨v0, vs0, d0, ds0, p0, q0, hargs, rfl, rfl, h0, r0⟩ := trodAll_cons hA
  obtain ⟨rfl, rfl, rfl⟩ := trodAll_nil r0
  obtain rfl : args = #[v0] := by cases args; simp_all
  obtain ⟨rfl, rfl⟩ := trodVars_none hV
  obtain ⟨a0, rfl, rfl, rfl, w0⟩ := open_int Try.underlying22 (hval 0 22 v0 rfl rfl) h0
  clear hA0 hval0
  simp only [List.append_nil] at hW'
  refine (walk a0 w0 W).mono fun e W' ⟨he, hg⟩ => ?_
  subst he
  exact ⟨_, rfl, post_later (pa := []) hW' (fun _ _ _ => (trodAll_cons_mk (shut_bool Try.underlying4 _) trodAll_mk0)) (fun sp _ => (trodAll_cons_mk (shut_int Try.underlying22 w0) trodAll_mk0)) (fun _ _ => rfl) rfl
    hg (ok_one (by kernel_rfl) rfl (okWide_bool_mk Try.underlying4 _))⟩

theorem over : Rows.rootNearRow.holds Try.pinned (OpenSpec.ofChange Rows.rootNearSpec) :=
  OpenClaim.holds_of_wide 10 Try.f10 rfl rfl rfl rfl rfl rfl rfl ⟨rfl, rfl, rfl, rfl, rfl⟩ rfl rfl rfl rfl rfl (by kernel_rfl) Try.func10 (by kernel_rfl)
    (of_decide_eq_true (by kernel_rfl)) (by unfold Func.isWrapper; first | (rw [if_pos (by decide +kernel)]; kernel_rfl) | (rw [if_neg (by decide +kernel)]; exact ⟨rfl, rfl⟩))
    (fun os started H enc _ => lifted os started H enc)

theorem proved : Rows.RootNearSaid :=
  over
#print axioms proved
end Go.Proofs.Ytfaiepalmkobeaa.rootNear

