/-
  The statement of RootSquares, for every input: its walk, and the row round it.
-/
import Derived.Test.YtfaiepalmkobeaaR4
import Derived.Test.YtfaiepalmkobeaaRow
import Derived.ProofKit
import Derived.OpenShut
namespace Go.Proofs.Ytfaiepalmkobeaa.rootSquares
open Go.ChangeShapes Go.WideShapes Go.ChangeAt Go.RowKit Go.Joins
set_option linter.unusedVariables false


set_option maxRecDepth 100000 in
set_option maxHeartbeats 600000 in
theorem walk_at (x y n n2 n3 d m : Int) (q : Bool) (w : World) (e1 : IntKind.u64.wrap x = x) (e2 : IntKind.u64.wrap (x * x) = n) (e3 : IntKind.u64.wrap (2 * x) = n2) (e4 : IntKind.u64.wrap (n2 + 1) = n3) (e5 : y % n3 = d) (e6 : IntKind.u64.wrap (n + d) = m)
    (n30 : 0 < n3) (y0 : 0 ≤ y) (eq : (m == n) = q)
    (c1 : ∀ w', Calls Try.prog 32 #[.int .u64 n] w' fun e w'' => e = .returned (.int .u64 x) ∧ ∃ x : Later w', w'' = x.out)
    (c2 : ∀ w', Calls Try.prog 32 #[.int .u64 m] w' fun e w'' => e = .returned (.int .u64 x) ∧ ∃ x : Later w', w'' = x.out) 
    (c3 : ∀ w', Calls Try.prog 36 #[.int .u64 n] w' fun e w'' => e = .returned (.bool true) ∧ ∃ x : Later w', w'' = x.out)
    (c4 : ∀ w', Calls Try.prog 36 #[.int .u64 m] w' fun e w'' => e = .returned (.bool q) ∧ ∃ x : Later w', w'' = x.out) :
    Calls Try.prog 11 #[.int .u32 x, .int .u64 y] w fun e w' => e = .returned (.bool true) ∧ ∃ x : Later w, w' = x.out := by
  have Hc1 := Lib.hid c1; clear c1
  have Hc2 := Lib.hid c2; clear c2
  have Hc3 := Lib.hid c3; clear c3
  have Hc4 := Lib.hid c4; clear c4
  go_enter Try.func11, Try.ntmps11
  go_wp2_with (first | (go_at_call 32; (with_reducible refine (Hc1.out _).mono ?_); rintro e _ ⟨rfl, x, rfl⟩) | (go_at_call 32; (with_reducible refine (Hc2.out _).mono ?_); rintro e _ ⟨rfl, x, rfl⟩) | (go_at_call 36; (with_reducible refine (Hc3.out _).mono ?_); rintro e _ ⟨rfl, x, rfl⟩) | (go_at_call 36; (with_reducible refine (Hc4.out _).mono ?_); rintro e _ ⟨rfl, x, rfl⟩) | (go_at_call 38; (with_reducible refine (shown_2 _).mono ?_); rintro e _ ⟨rfl, x, rfl⟩))
  go_ret
  exact ⟨rfl, (Later.mk_of (by repeat (first | (with_reducible assumption) | (with_reducible exact Below.refl _ _) | (with_reducible refine Later.after ?_ _) | (with_reducible refine Later.newer ?_ _) | (with_reducible refine Below.drew ?_) | (with_reducible refine Below.setCell ?_ (by first | exact Nat.le_refl _ | exact Nat.le_add_right _ _ | omega | (simp [go_sem]; done) | (simp [go_sem]; omega)) _))))⟩
theorem walk (a0 a1 : Int) (w0 : (Lit.int .u32 a0).wf = true) (w1 : (Lit.int .u64 a1).wf = true) (w : World) :
    Calls Try.prog 11 #[.int .u32 a0, .int .u64 a1] w fun e w' => e = .returned (.bool true) ∧ ∃ x : Later w, w' = x.out := by
  have b0 := bounds_u32 w0
  have b1 := bounds_u64 w1
  have d0 := Int.emod_nonneg a1 (show 2 * a0 + 1 ≠ 0 by omega)
  have d1 := Int.emod_lt_of_pos a1 (show 0 < 2 * a0 + 1 by omega)
  have sq := sq_add a0 1
  have p0 := Int.mul_nonneg b0.1 b0.1
  have p1 := Int.mul_le_mul b0.2 b0.2 b0.1 (by omega)
  have i0 : IsRoot (a0 * a0) a0 := ⟨by omega, by omega, by omega⟩
  have i1 : IsRoot (a0 * a0 + a1 % (2 * a0 + 1)) a0 := ⟨by omega, by omega, by omega⟩
  have s0 := fun v => square_c _ _ v (by omega) (by omega) i0
  have s1 := fun v => square_c _ _ v (by omega) (by omega) i1
  rw [show (a0 * a0 == a0 * a0) = true by simp] at s0
  exact walk_at a0 a1 _ _ _ _ _ _ w (IntWalk.u64_in _ (by omega)) (IntWalk.u64_in _ (by omega)) (IntWalk.u64_in _ (by omega)) (IntWalk.u64_in _ (by omega)) rfl (IntWalk.u64_in _ (by omega)) (by omega) (by omega) Bool.beq_comm
    (fun v => sqrt_c _ _ v (by omega) (by omega) i0) (fun v => sqrt_c _ _ v (by omega) (by omega) i1) s0 s1


set_option maxRecDepth 100000 in
theorem lifted (os : Os) (started : os.Started) (H : Type) (enc : TypeId × Value → H) :
    ReturnsInHanded {} Try.checked os 11 .any (Rows.rootSquaresSpec.pre6 enc Try.prog Try.f11 Rows.rootSquaresRow.domain false) (Rows.rootSquaresSpec.post enc Try.prog Try.f11 false true false false) := by
  refine returnsInHanded_of_change (C := Try.checked) own started (by kernel_rfl) Try.func11
    (ChangeSpec.witness6 (enc := enc) (C := Try.checked) false ⟨#[], #[.int .u32 0, .int .u64 0], []⟩ 8 (by kernel_rfl) (by kernel_rfl) (by kernel_rfl) (by kernel_rfl)) ?_
  intro W base args ds gs before hval0 hW hcnd _
  have hval : ∀ (j : Nat) t v, Try.f11.params[j]? = some t → args[j]? = some v → Value.okWide Try.prog W .any base t v := hval0
  have hW' := hW
  obtain ⟨p, q, hA0, hV, rfl, hfz, hnd⟩ := hW
  have hA : DataW.TrodAll enc Try.prog W 0 (fun _ => true) true Try.f11.params.toList args.toList ds p := hA0
  rw [Try.params11] at hA hval
  obtain ⟨v0, vs0, d0, ds0, p0, q0, hargs, rfl, rfl, h0, r0⟩ := trodAll_cons hA
  obtain ⟨v1, vs1, d1, ds1, p1, q1, rfl, rfl, rfl, h1, r1⟩ := trodAll_cons r0
  obtain ⟨rfl, rfl, rfl⟩ := trodAll_nil r1
  obtain rfl : args = #[v0, v1] := by cases args; simp_all
  obtain ⟨rfl, rfl⟩ := trodVars_none hV
  obtain ⟨a0, rfl, rfl, rfl, w0⟩ := open_int Try.underlying55 (hval 0 55 v0 rfl rfl) h0
  obtain ⟨a1, rfl, rfl, rfl, w1⟩ := open_int Try.underlying22 (hval 1 22 v1 rfl rfl) h1
  clear hA0 hval0
  simp only [List.append_nil] at hW'
  refine (walk a0 a1 w0 w1 W).mono fun e W' ⟨he, hg⟩ => ?_
  subst he
  exact ⟨_, rfl, post_later (pa := []) hW' (fun _ _ _ => (trodAll_cons_mk (shut_bool Try.underlying4 _) trodAll_mk0)) (fun sp _ => (trodAll_cons_mk (shut_int Try.underlying55 w0) (trodAll_cons_mk (shut_int Try.underlying22 w1) trodAll_mk0))) (fun _ _ => rfl) rfl
    hg (ok_one (by kernel_rfl) rfl (okWide_bool_mk Try.underlying4 _))⟩

theorem over : Rows.rootSquaresRow.holds Try.pinned (OpenSpec.ofChange Rows.rootSquaresSpec) :=
  OpenClaim.holds_of_wide 11 Try.f11 rfl rfl rfl rfl rfl rfl rfl ⟨rfl, rfl, rfl, rfl, rfl⟩ rfl rfl rfl rfl rfl (by kernel_rfl) Try.func11 (by kernel_rfl)
    (of_decide_eq_true (by kernel_rfl)) (by unfold Func.isWrapper; first | (rw [if_pos (by decide +kernel)]; kernel_rfl) | (rw [if_neg (by decide +kernel)]; exact ⟨rfl, rfl⟩))
    (fun os started H enc _ => lifted os started H enc)

theorem proved : Rows.RootSquaresSaid :=
  over
#print axioms proved
end Go.Proofs.Ytfaiepalmkobeaa.rootSquares

