/-
  The statement of RootLong, for every input: its walk, and the row round it.
-/
import Derived.Test.YtfaiepalmkobeaaR4
import Derived.Test.YtfaiepalmkobeaaRow
import Derived.ProofKit
import Derived.OpenShut
namespace Go.Proofs.Ytfaiepalmkobeaa.rootLong
open Go.ChangeShapes Go.WideShapes Go.ChangeAt Go.RowKit Go.Joins
set_option linter.unusedVariables false


set_option maxRecDepth 100000 in
set_option maxHeartbeats 600000 in
theorem walk_small (n : Int) (w : World) (h : n < 2) :
    Calls Try.prog 14 #[.int .i64 n] w fun e w' => e = .returned (.bool true) ∧ ∃ x : Later w, w' = x.out := by
  go_enter Try.func14, Try.ntmps14
  go_wp2_with (first | (go_at_call 38; (with_reducible refine (shown_2 _).mono ?_); rintro e _ ⟨rfl, x, rfl⟩))
  go_ret
  exact ⟨rfl, (Later.mk_of (by repeat (first | (with_reducible assumption) | (with_reducible exact Below.refl _ _) | (with_reducible refine Later.after ?_ _) | (with_reducible refine Later.newer ?_ _) | (with_reducible refine Below.drew ?_) | (with_reducible refine Below.setCell ?_ (by first | exact Nat.le_refl _ | exact Nat.le_add_right _ _ | omega | (simp [go_sem]; done) | (simp [go_sem]; omega)) _))))⟩
set_option maxRecDepth 100000 in
set_option maxHeartbeats 1000000 in
theorem walk_at (x y h l h1 l1 h2 l2 h3 l3 : Int) (w : World) (g : 2 ≤ x) (e1 : IntKind.u64.wrap x = x) (e2 : IntKind.u64.wrap (x - 1) = y)
    (c1 : ∀ w', Calls Try.prog 23 #[.int .i64 x, .int .i64 x] w' fun e w'' => e = .returned (.agg #[.int .i64 h, .int .u64 l]) ∧ ∃ x : Later w', w'' = x.out)
    (c2 : ∀ w', Calls Try.prog 21 #[.int .i64 1] w' fun e w'' => e = .returned (.agg #[.int .i64 0, .int .u64 1]) ∧ ∃ x : Later w', w'' = x.out)
    (c3 : ∀ w', Calls Try.prog 21 #[.int .i64 0] w' fun e w'' => e = .returned (.agg #[.int .i64 0, .int .u64 0]) ∧ ∃ x : Later w', w'' = x.out)
    (c4 : ∀ w', Calls Try.prog 26 #[.agg #[.int .i64 h, .int .u64 l], .agg #[.int .i64 0, .int .u64 1]] w' fun e w'' => e = .returned (.agg #[.int .i64 h1, .int .u64 l1]) ∧ ∃ x : Later w', w'' = x.out)
    (c5 : ∀ w', Calls Try.prog 24 #[.agg #[.int .i64 h, .int .u64 l], .agg #[.int .i64 0, .int .u64 1]] w' fun e w'' => e = .returned (.agg #[.int .i64 h2, .int .u64 l2]) ∧ ∃ x : Later w', w'' = x.out)
    (c6 : ∀ w', Calls Try.prog 26 #[.agg #[.int .i64 0, .int .u64 0], .agg #[.int .i64 h, .int .u64 l]] w' fun e w'' => e = .returned (.agg #[.int .i64 h3, .int .u64 l3]) ∧ ∃ x : Later w', w'' = x.out)
    (c7 : ∀ w', Calls Try.prog 34 #[.agg #[.int .i64 h, .int .u64 l]] w' fun e w'' => e = .returned (.int .u64 x) ∧ ∃ x : Later w', w'' = x.out)
    (c8 : ∀ w', Calls Try.prog 34 #[.agg #[.int .i64 h1, .int .u64 l1]] w' fun e w'' => e = .returned (.int .u64 y) ∧ ∃ x : Later w', w'' = x.out)
    (c9 : ∀ w', Calls Try.prog 34 #[.agg #[.int .i64 h2, .int .u64 l2]] w' fun e w'' => e = .returned (.int .u64 x) ∧ ∃ x : Later w', w'' = x.out)
    (c10 : ∀ w', Calls Try.prog 34 #[.agg #[.int .i64 h3, .int .u64 l3]] w' fun e w'' => e = .returned (.int .u64 0) ∧ ∃ x : Later w', w'' = x.out) :
    Calls Try.prog 14 #[.int .i64 x] w fun e w' => e = .returned (.bool true) ∧ ∃ x : Later w, w' = x.out := by
  have Hc1 := Lib.hid c1; clear c1
  have Hc2 := Lib.hid c2; clear c2
  have Hc3 := Lib.hid c3; clear c3
  have Hc4 := Lib.hid c4; clear c4
  have Hc5 := Lib.hid c5; clear c5
  have Hc6 := Lib.hid c6; clear c6
  have Hc7 := Lib.hid c7; clear c7
  have Hc8 := Lib.hid c8; clear c8
  have Hc9 := Lib.hid c9; clear c9
  have Hc10 := Lib.hid c10; clear c10
  go_enter Try.func14, Try.ntmps14
  go_wp2_with (first | (go_at_call 38; (with_reducible refine (shown_2 _).mono ?_); rintro e _ ⟨rfl, x, rfl⟩) | (go_at_call 23; (with_reducible refine (Hc1.out _).mono ?_); rintro e _ ⟨rfl, x, rfl⟩))
  refine wp_region_later (by kernel_rfl) (by kernel_rfl) ?_
  repeat (go_big_quiet_step ((first | (go_at_call 21; with_reducible exact Later.call _ (Hc2.out _)) | (go_at_call 21; with_reducible exact Later.call _ (Hc3.out _)) | (go_at_call 26; with_reducible exact Later.call _ (Hc4.out _)) | (go_at_call 24; with_reducible exact Later.call _ (Hc5.out _)) | (go_at_call 26; with_reducible exact Later.call _ (Hc6.out _)) | (go_at_call 34; with_reducible exact Later.call _ (Hc7.out _)) | (go_at_call 34; with_reducible exact Later.call _ (Hc8.out _)) | (go_at_call 34; with_reducible exact Later.call _ (Hc9.out _)) | (go_at_call 34; with_reducible exact Later.call _ (Hc10.out _)))))
  refine wpQuiet_nil ?_
  intro x
  go_wp2
  go_ret
  exact ⟨rfl, (Later.mk_of (by repeat (first | (with_reducible assumption) | (with_reducible exact Below.refl _ _) | (with_reducible refine Later.after ?_ _) | (with_reducible refine Later.newer ?_ _) | (with_reducible refine Below.drew ?_) | (with_reducible refine Below.setCell ?_ (by first | exact Nat.le_refl _ | exact Nat.le_add_right _ _ | omega | (simp [go_sem]; done) | (simp [go_sem]; omega)) _))))⟩
theorem walk (a0 : Int) (w0 : (Lit.int .i64 a0).wf = true) (w : World) :
    Calls Try.prog 14 #[.int .i64 a0] w fun e w' => e = .returned (.bool true) ∧ ∃ x : Later w, w' = x.out := by
  have b0 := bounds_i64 w0
  have r0 := R64_of w0
  rcases Int.lt_or_le a0 2 with h | h
  · exact walk_small a0 w h
  · have sq := sq_add a0 1
    have sm : (a0 - 1) * (a0 - 1) = a0 * a0 - 2 * a0 + 1 := by rw [Int.mul_sub, Int.sub_mul, Int.mul_one, Int.one_mul]; omega
    have p0 := Int.mul_le_mul h h (by omega) (show 0 ≤ a0 by omega)
    have p1 := Int.mul_le_mul b0.2 b0.2 (by omega : 0 ≤ a0) (by omega)
    have p2 := Int.mul_le_mul h (Int.le_refl a0) (by omega) (show 0 ≤ a0 by omega)
    have i0 : IsRoot (a0 * a0) a0 := ⟨by omega, by omega, by omega⟩
    have i1 : IsRoot (a0 * a0 - 1) (a0 - 1) := ⟨by omega, by omega, by rw [show a0 - 1 + 1 = a0 by omega]; omega⟩
    have i2 : IsRoot (a0 * a0 + 1) a0 := ⟨by omega, by omega, by omega⟩
    have f1 := fun v => of_c 1 v (by unfold R64; omega)
    have f0 := fun v => of_c 0 v (by unfold R64; omega)
    have s1 := fun v => sub_c (a0 * a0) 1 v
    have s2 := fun v => add_c (a0 * a0) 1 v
    have s3 := fun v => sub_c 0 (a0 * a0) v
    rw [show hiW 1 = 0 by unfold hiW; omega, show loW 1 = 1 by unfold loW; omega] at f1 s1 s2
    rw [W_zero.1, W_zero.2] at f0 s3
    exact walk_at a0 _ _ _ _ _ _ _ _ _ w h (IntWalk.u64_in _ (by omega)) (IntWalk.u64_in _ (by omega)) (fun v => mul_c a0 a0 v r0 r0) f1 f0 s1 s2 s3
      (fun v => long_c _ a0 v (by unfold R128; omega) (by omega) i0) (fun v => long_c _ _ v (by unfold R128; omega) (by omega) i1) (fun v => long_c _ a0 v (by unfold R128; omega) (by omega) i2)
      (fun v => long_neg _ v (by unfold R128; omega) (by omega))


set_option maxRecDepth 100000 in
theorem lifted (os : Os) (started : os.Started) (H : Type) (enc : TypeId × Value → H) :
    ReturnsInHanded {} Try.checked os 14 .any (Rows.rootLongSpec.pre6 enc Try.prog Try.f14 Rows.rootLongRow.domain false) (Rows.rootLongSpec.post enc Try.prog Try.f14 false true false false) := by
  refine returnsInHanded_of_change (C := Try.checked) own started (by kernel_rfl) Try.func14
    (ChangeSpec.witness6 (enc := enc) (C := Try.checked) false ⟨#[], #[.int .i64 0], []⟩ 8 (by kernel_rfl) (by kernel_rfl) (by kernel_rfl) (by kernel_rfl)) ?_
  intro W base args ds gs before hval0 hW hcnd _
  have hval : ∀ (j : Nat) t v, Try.f14.params[j]? = some t → args[j]? = some v → Value.okWide Try.prog W .any base t v := hval0
  have hW' := hW
  obtain ⟨p, q, hA0, hV, rfl, hfz, hnd⟩ := hW
  have hA : DataW.TrodAll enc Try.prog W 0 (fun _ => true) true Try.f14.params.toList args.toList ds p := hA0
  rw [Try.params14] at hA hval
  obtain ⟨v0, vs0, d0, ds0, p0, q0, hargs, rfl, rfl, h0, r0⟩ := trodAll_cons hA
  obtain ⟨rfl, rfl, rfl⟩ := trodAll_nil r0
  obtain rfl : args = #[v0] := by cases args; simp_all
  obtain ⟨rfl, rfl⟩ := trodVars_none hV
  obtain ⟨a0, rfl, rfl, rfl, w0⟩ := open_int Try.underlying2 (hval 0 2 v0 rfl rfl) h0
  clear hA0 hval0
  simp only [List.append_nil] at hW'
  refine (walk a0 w0 W).mono fun e W' ⟨he, hg⟩ => ?_
  subst he
  exact ⟨_, rfl, post_later (pa := []) hW' (fun _ _ _ => (trodAll_cons_mk (shut_bool Try.underlying4 _) trodAll_mk0)) (fun sp _ => (trodAll_cons_mk (shut_int Try.underlying2 w0) trodAll_mk0)) (fun _ _ => rfl) rfl
    hg (ok_one (by kernel_rfl) rfl (okWide_bool_mk Try.underlying4 _))⟩

theorem over : Rows.rootLongRow.holds Try.pinned (OpenSpec.ofChange Rows.rootLongSpec) :=
  OpenClaim.holds_of_wide 14 Try.f14 rfl rfl rfl rfl rfl rfl rfl ⟨rfl, rfl, rfl, rfl, rfl⟩ rfl rfl rfl rfl rfl (by kernel_rfl) Try.func14 (by kernel_rfl)
    (of_decide_eq_true (by kernel_rfl)) (by unfold Func.isWrapper; first | (rw [if_pos (by decide +kernel)]; kernel_rfl) | (rw [if_neg (by decide +kernel)]; exact ⟨rfl, rfl⟩))
    (fun os started H enc _ => lifted os started H enc)

theorem proved : Rows.RootLongSaid :=
  over
#print axioms proved
end Go.Proofs.Ytfaiepalmkobeaa.rootLong

