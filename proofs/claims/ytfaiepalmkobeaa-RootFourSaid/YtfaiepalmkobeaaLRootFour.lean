/-
  The statement of RootFour, for every input: its walk, and the row round it.
-/
import Derived.Test.YtfaiepalmkobeaaR4
import Derived.Test.YtfaiepalmkobeaaRow
import Derived.ProofKit
import Derived.OpenShut
namespace Go.Proofs.Ytfaiepalmkobeaa.rootFour
open Go.ChangeShapes Go.WideShapes Go.ChangeAt Go.RowKit Go.Joins
set_option linter.unusedVariables false


set_option maxRecDepth 100000 in
set_option maxHeartbeats 600000 in
theorem walk_big (n : Int) (w : World) (h : 4611686018427387903 < n) :
    Calls Try.prog 13 #[.int .u64 n] w fun e w' => e = .returned (.bool true) ∧ ∃ x : Later w, w' = x.out := by
  go_enter Try.func13, Try.ntmps13
  go_wp2_with (first | (go_at_call 38; (with_reducible refine (shown_2 _).mono ?_); rintro e _ ⟨rfl, x, rfl⟩))
  go_ret
  exact ⟨rfl, (Later.mk_of (by repeat (first | (with_reducible assumption) | (with_reducible exact Below.refl _ _) | (with_reducible refine Later.after ?_ _) | (with_reducible refine Later.newer ?_ _) | (with_reducible refine Below.drew ?_) | (with_reducible refine Below.setCell ?_ (by first | exact Nat.le_refl _ | exact Nat.le_add_right _ _ | omega | (simp [go_sem]; done) | (simp [go_sem]; omega)) _))))⟩
set_option maxRecDepth 100000 in
set_option maxHeartbeats 600000 in
theorem walk_at (n n4 s s2 s3 t : Int) (w : World) (h : n ≤ 4611686018427387903) (e1 : IntKind.u64.wrap (4 * n) = n4) (e2 : IntKind.u64.wrap (2 * s) = s2) (e3 : IntKind.u64.wrap (s2 + 1) = s3)
    (c1 : ∀ w', Calls Try.prog 32 #[.int .u64 n] w' fun e w'' => e = .returned (.int .u64 s) ∧ ∃ x : Later w', w'' = x.out)
    (c2 : ∀ w', Calls Try.prog 32 #[.int .u64 n4] w' fun e w'' => e = .returned (.int .u64 t) ∧ ∃ x : Later w', w'' = x.out) (h2 : (t == s2) = true ∨ (t == s2) = false ∧ (t == s3) = true) :
    Calls Try.prog 13 #[.int .u64 n] w fun e w' => e = .returned (.bool true) ∧ ∃ x : Later w, w' = x.out := by
  have Hc1 := Lib.hid c1; clear c1
  have Hc2 := Lib.hid c2; clear c2
  rcases h2 with h2 | ⟨h2, h3⟩
  all_goals
    go_enter Try.func13, Try.ntmps13
    go_wp2_with (first | (go_at_call 32; (with_reducible refine (Hc1.out _).mono ?_); rintro e _ ⟨rfl, x, rfl⟩) | (go_at_call 32; (with_reducible refine (Hc2.out _).mono ?_); rintro e _ ⟨rfl, x, rfl⟩) | (go_at_call 38; (with_reducible refine (shown_2 _).mono ?_); rintro e _ ⟨rfl, x, rfl⟩))
    go_ret
    exact ⟨rfl, (Later.mk_of (by repeat (first | (with_reducible assumption) | (with_reducible exact Below.refl _ _) | (with_reducible refine Later.after ?_ _) | (with_reducible refine Later.newer ?_ _) | (with_reducible refine Below.drew ?_) | (with_reducible refine Below.setCell ?_ (by first | exact Nat.le_refl _ | exact Nat.le_add_right _ _ | omega | (simp [go_sem]; done) | (simp [go_sem]; omega)) _))))⟩
theorem walk (a0 : Int) (w0 : (Lit.int .u64 a0).wf = true) (w : World) :
    Calls Try.prog 13 #[.int .u64 a0] w fun e w' => e = .returned (.bool true) ∧ ∃ x : Later w, w' = x.out := by
  have b0 := bounds_u64 w0
  rcases Int.lt_or_le 4611686018427387903 a0 with h | h
  · exact walk_big a0 w h
  · have i0 := isq_is a0 (by omega)
    have i1 := isq_is (4 * a0) (by omega)
    have lt := root_lt i0 4294967296 (by omega) (by omega)
    generalize isq a0 = r at *
    generalize isq (4 * a0) = t at *
    have r0 := i0.r0
    have rl := i0.le
    have rt := i0.lt
    have k1 := root_mono i1 (x := 2 * r) (by omega) (by rw [show 2 * r * (2 * r) = 4 * (r * r) by rw [Int.mul_assoc, Int.mul_left_comm r]; omega]; omega)
    have k2 := root_lt i1 (2 * r + 2) (by omega) (by rw [show (2 * r + 2) * (2 * r + 2) = 4 * ((r + 1) * (r + 1)) by rw [show 2 * r + 2 = 2 * (r + 1) by omega, Int.mul_assoc, Int.mul_left_comm (r + 1)]; omega]; omega)
    refine walk_at a0 _ r _ _ t w h (IntWalk.u64_in _ (by omega)) (IntWalk.u64_in _ (by omega)) (IntWalk.u64_in _ (by omega)) (fun v => sqrt_c _ _ v (by omega) (by omega) i0) (fun v => sqrt_c _ _ v (by omega) (by omega) i1) ?_
    by_cases k : t = 2 * r
    · exact .inl (by simp [k])
    · exact .inr ⟨by simp [k], by simp; omega⟩


set_option maxRecDepth 100000 in
theorem lifted (os : Os) (started : os.Started) (H : Type) (enc : TypeId × Value → H) :
    ReturnsInHanded {} Try.checked os 13 .any (Rows.rootFourSpec.pre6 enc Try.prog Try.f13 Rows.rootFourRow.domain false) (Rows.rootFourSpec.post enc Try.prog Try.f13 false true false false) := by
  refine returnsInHanded_of_change (C := Try.checked) own started (by kernel_rfl) Try.func13
    (ChangeSpec.witness6 (enc := enc) (C := Try.checked) false ⟨#[], #[.int .u64 0], []⟩ 8 (by kernel_rfl) (by kernel_rfl) (by kernel_rfl) (by kernel_rfl)) ?_
  intro W base args ds gs before hval0 hW hcnd _
  have hval : ∀ (j : Nat) t v, Try.f13.params[j]? = some t → args[j]? = some v → Value.okWide Try.prog W .any base t v := hval0
  have hW' := hW
  obtain ⟨p, q, hA0, hV, rfl, hfz, hnd⟩ := hW
  have hA : DataW.TrodAll enc Try.prog W 0 (fun _ => true) true Try.f13.params.toList args.toList ds p := hA0
  rw [Try.params13] at hA hval
  obtain ⟨v0, vs0, d0, ds0, p0, q0, hargs, rfl, rfl, h0, r0⟩ := trodAll_cons hA
  obtain ⟨rfl, rfl, rfl⟩ := trodAll_nil r0
  obtain rfl : args = #[v0] := by cases args; simp_all
  obtain ⟨rfl, rfl⟩ := trodVars_none hV
  obtain ⟨a0, rfl, rfl, rfl, w0⟩ := open_int Try.underlying22 (hval 0 22 v0 rfl rfl) h0
  clear hA0 hval0
  simp only [List.append_nil] at hW'
  refine (walk a0 w0 W).mono fun e W' ⟨he, hg⟩ => ?_
  subst he
  exact ⟨_, rfl, post_later (pa := []) hW' (fun _ _ _ => (trodAll_cons_mk (shut_bool Try.underlying4 _) trodAll_mk0)) (fun sp _ => (trodAll_cons_mk (shut_int Try.underlying22 w0) trodAll_mk0)) (fun _ _ => rfl) rfl
    hg (ok_one (by kernel_rfl) rfl (okWide_bool_mk Try.underlying4 _))⟩

theorem over : Rows.rootFourRow.holds Try.pinned (OpenSpec.ofChange Rows.rootFourSpec) :=
  OpenClaim.holds_of_wide 13 Try.f13 rfl rfl rfl rfl rfl rfl rfl ⟨rfl, rfl, rfl, rfl, rfl⟩ rfl rfl rfl rfl rfl (by kernel_rfl) Try.func13 (by kernel_rfl)
    (of_decide_eq_true (by kernel_rfl)) (by unfold Func.isWrapper; first | (rw [if_pos (by decide +kernel)]; kernel_rfl) | (rw [if_neg (by decide +kernel)]; exact ⟨rfl, rfl⟩))
    (fun os started H enc _ => lifted os started H enc)

theorem proved : Rows.RootFourSaid :=
  over
#print axioms proved
end Go.Proofs.Ytfaiepalmkobeaa.rootFour

