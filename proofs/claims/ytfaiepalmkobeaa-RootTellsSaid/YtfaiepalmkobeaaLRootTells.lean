/-
  The statement of RootTells, for every input: its walk, and the row round it.
-/
import Derived.Test.YtfaiepalmkobeaaR4
import Derived.Test.YtfaiepalmkobeaaR6
import Derived.Test.YtfaiepalmkobeaaRow
import Derived.ProofKit
import Derived.OpenShut
namespace Go.Proofs.Ytfaiepalmkobeaa.rootTells
open Go.ChangeShapes Go.WideShapes Go.ChangeAt Go.RowKit Go.Joins
set_option linter.unusedVariables false

theorem cells24 : Try.prog.cellsOf 24 = 2 := by kernel_rfl

set_option maxRecDepth 100000 in
set_option maxHeartbeats 600000 in
theorem walk_at (n h l r s : Int) (q : Bool) (w : World)
    (c1 : ∀ w', Calls Try.prog 32 #[.int .u64 n] w' fun e w'' => e = .returned (.int .u64 r) ∧ ∃ x : Later w', w'' = x.out)
    (c2 : ∀ w', Calls Try.prog 33 #[.int .u64 n] w' fun e w'' => e = .returned (.int .u64 r) ∧ ∃ x : Later w', w'' = x.out)
    (c3 : ∀ w', Calls Try.prog 34 #[.agg #[.int .i64 h, .int .u64 l]] w' fun e w'' => e = .returned (.int .u64 s) ∧ ∃ x : Later w', w'' = x.out)
    (c4 : ∀ w', Calls Try.prog 35 #[.agg #[.int .i64 h, .int .u64 l]] w' fun e w'' => e = .returned (.int .u64 s) ∧ ∃ x : Later w', w'' = x.out)
    (c5 : ∀ w', Calls Try.prog 36 #[.int .u64 n] w' fun e w'' => e = .returned (.bool q) ∧ ∃ x : Later w', w'' = x.out)
    (c6 : ∀ w', Calls Try.prog 37 #[.int .u64 n] w' fun e w'' => e = .returned (.bool q) ∧ ∃ x : Later w', w'' = x.out) :
    Calls Try.prog 9 #[.int .u64 n, .agg #[.int .i64 h, .int .u64 l]] w fun e w' => e = .returned (.bool true) ∧ ∃ x : Later w, w' = x.out := by
  have Hc1 := Lib.hid c1; clear c1
  have Hc2 := Lib.hid c2; clear c2
  have Hc3 := Lib.hid c3; clear c3
  have Hc4 := Lib.hid c4; clear c4
  have Hc5 := Lib.hid c5; clear c5
  have Hc6 := Lib.hid c6; clear c6
  go_enter Try.func9, Try.ntmps9
  go_wp2_with (first | (go_at_call 32; (with_reducible refine (Hc1.out _).mono ?_); rintro e _ ⟨rfl, x, rfl⟩) | (go_at_call 33; (with_reducible refine (Hc2.out _).mono ?_); rintro e _ ⟨rfl, x, rfl⟩) | (go_at_call 36; (with_reducible refine (Hc5.out _).mono ?_); rintro e _ ⟨rfl, x, rfl⟩) | (go_at_call 37; (with_reducible refine (Hc6.out _).mono ?_); rintro e _ ⟨rfl, x, rfl⟩) | (go_at_call 38; (with_reducible refine (shown_2 _).mono ?_); rintro e _ ⟨rfl, x, rfl⟩))
  refine wp_region_later (by kernel_rfl) (by kernel_rfl) ?_
  repeat (go_big_quiet_step ((first | (go_at_call 32; with_reducible exact Later.call _ (Hc1.out _)) | (go_at_call 33; with_reducible exact Later.call _ (Hc2.out _)) | (go_at_call 34; with_reducible exact Later.call _ (Hc3.out _)) | (go_at_call 35; with_reducible exact Later.call _ (Hc4.out _)) | (go_at_call 36; with_reducible exact Later.call _ (Hc5.out _)) | (go_at_call 37; with_reducible exact Later.call _ (Hc6.out _)) | (go_at_call 38; with_reducible exact Later.call _ (shown_2 _)))))
  refine wpQuiet_nil ?_
  intro x
  go_wp2
  go_ret
  exact ⟨rfl, (Later.mk_of (by repeat (first | (with_reducible assumption) | (with_reducible exact Below.refl _ _) | (with_reducible refine Later.after ?_ _) | (with_reducible refine Later.newer ?_ _) | (with_reducible refine Below.drew ?_) | (with_reducible refine Below.setCell ?_ (by first | exact Nat.le_refl _ | exact Nat.le_add_right _ _ | omega | (simp [go_sem]; done) | (simp [go_sem]; omega)) _))))⟩
theorem walk (a0 a1 b1 : Int) (w0 : (Lit.int .u64 a0).wf = true) (w1 : (Lit.int .i64 a1).wf = true) (u1 : (Lit.int .u64 b1).wf = true) (w : World) :
    Calls Try.prog 9 #[.int .u64 a0, .agg #[.int .i64 a1, .int .u64 b1]] w fun e w' => e = .returned (.bool true) ∧ ∃ x : Later w, w' = x.out := by
  obtain ⟨m, hm, rfl, rfl⟩ := both_of a1 b1 (bounds_i64 w1) (bounds_u64 u1)
  have b0 := bounds_u64 w0
  have i0 := isq_is a0 b0.1
  rcases Int.lt_or_le m 0 with h | h
  · have hn : hiW m < 0 := by unfold R128 at hm; unfold hiW; omega
    exact walk_at a0 _ _ _ _ _ w (fun v => sqrt_c _ _ v b0.1 b0.2 i0) (fun v => sqrt_r _ _ v b0.1 b0.2 i0) (fun v => long_neg m v hm h) (fun v => long_r_neg m v hn) (fun v => square_c _ _ v b0.1 b0.2 i0) (fun v => square_r _ _ v b0.1 b0.2 i0)
  · have i1 := isq_is m h
    exact walk_at a0 _ _ _ _ _ w (fun v => sqrt_c _ _ v b0.1 b0.2 i0) (fun v => sqrt_r _ _ v b0.1 b0.2 i0) (fun v => long_c m _ v hm h i1) (fun v => long_r m _ v hm h i1) (fun v => square_c _ _ v b0.1 b0.2 i0) (fun v => square_r _ _ v b0.1 b0.2 i0)


set_option maxRecDepth 100000 in
theorem lifted (os : Os) (started : os.Started) (H : Type) (enc : TypeId × Value → H) :
    ReturnsInHanded {} Try.checked os 9 .any (Rows.rootTellsSpec.pre6 enc Try.prog Try.f9 Rows.rootTellsRow.domain false) (Rows.rootTellsSpec.post enc Try.prog Try.f9 false true false false) := by
  refine returnsInHanded_of_change (C := Try.checked) own started (by kernel_rfl) Try.func9
    (ChangeSpec.witness6 (enc := enc) (C := Try.checked) false ⟨#[], #[.int .u64 0, .agg #[.int .i64 0, .int .u64 0]], []⟩ 8 (by kernel_rfl) (by kernel_rfl) (by kernel_rfl) (by kernel_rfl)) ?_
  intro W base args ds gs before hval0 hW hcnd _
  have hval : ∀ (j : Nat) t v, Try.f9.params[j]? = some t → args[j]? = some v → Value.okWide Try.prog W .any base t v := hval0
  have hW' := hW
  obtain ⟨p, q, hA0, hV, rfl, hfz, hnd⟩ := hW
  have hA : DataW.TrodAll enc Try.prog W 0 (fun _ => true) true Try.f9.params.toList args.toList ds p := hA0
  rw [Try.params9] at hA hval
  obtain ⟨v0, vs0, d0, ds0, p0, q0, hargs, rfl, rfl, h0, r0⟩ := trodAll_cons hA
  obtain ⟨v1, vs1, d1, ds1, p1, q1, rfl, rfl, rfl, h1, r1⟩ := trodAll_cons r0
  obtain ⟨rfl, rfl, rfl⟩ := trodAll_nil r1
  obtain rfl : args = #[v0, v1] := by cases args; simp_all
  obtain ⟨rfl, rfl⟩ := trodVars_none hV
  obtain ⟨a0, rfl, rfl, rfl, w0⟩ := open_int Try.underlying22 (hval 0 22 v0 rfl rfl) h0
  obtain ⟨a1, b1, rfl, rfl, rfl, w1, u1⟩ := open_two Try.underlying24 (by kernel_rfl) cells24 Try.underlying2 Try.underlying22 (hval 1 24 v1 rfl rfl) h1
  clear hA0 hval0
  simp only [List.append_nil] at hW'
  refine (walk a0 a1 b1 w0 w1 u1 W).mono fun e W' ⟨he, hg⟩ => ?_
  subst he
  exact ⟨_, rfl, post_later (pa := []) hW' (fun _ _ _ => (trodAll_cons_mk (shut_bool Try.underlying4 _) trodAll_mk0)) (fun sp _ => (trodAll_cons_mk (shut_int Try.underlying22 w0) (trodAll_cons_mk (shut_two Try.underlying24 (by kernel_rfl) cells24 Try.underlying2 Try.underlying22 w1 u1) trodAll_mk0))) (fun _ _ => rfl) rfl
    hg (ok_one (by kernel_rfl) rfl (okWide_bool_mk Try.underlying4 _))⟩

theorem over : Rows.rootTellsRow.holds Try.pinned (OpenSpec.ofChange Rows.rootTellsSpec) :=
  OpenClaim.holds_of_wide 9 Try.f9 rfl rfl rfl rfl rfl rfl rfl ⟨rfl, rfl, rfl, rfl, rfl⟩ rfl rfl rfl rfl rfl (by kernel_rfl) Try.func9 (by kernel_rfl)
    (of_decide_eq_true (by kernel_rfl)) (by unfold Func.isWrapper; first | (rw [if_pos (by decide +kernel)]; kernel_rfl) | (rw [if_neg (by decide +kernel)]; exact ⟨rfl, rfl⟩))
    (fun os started H enc _ => lifted os started H enc)

theorem proved : Rows.RootTellsSaid :=
  over
#print axioms proved
end Go.Proofs.Ytfaiepalmkobeaa.rootTells

