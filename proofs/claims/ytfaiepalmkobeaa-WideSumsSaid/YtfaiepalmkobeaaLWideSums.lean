/-
  The statement of WideSums, for every input: its walk, and the row round it.
-/
import Derived.Test.YtfaiepalmkobeaaW8
import Derived.Test.YtfaiepalmkobeaaRow
import Derived.ProofKit
import Derived.OpenShut
namespace Go.Proofs.Ytfaiepalmkobeaa.wideSums
open Go.ChangeShapes Go.WideShapes Go.ChangeAt Go.RowKit Go.Joins
set_option linter.unusedVariables false

theorem cells24 : Try.prog.cellsOf 24 = 2 := by kernel_rfl

set_option maxRecDepth 100000 in
set_option maxHeartbeats 2000000 in
theorem walk_at (n m a b : Int) (hn : R128 n) (hm : R128 m) (ha : R64 a) (hb : R64 b) (w : World) :
    Calls Try.prog 5 #[.agg #[.int .i64 (hiW n), .int .u64 (loW n)], .agg #[.int .i64 (hiW m), .int .u64 (loW m)], .int .i64 a, .int .i64 b] w fun e w' => e = .returned (.bool true) ∧ ∃ x : Later w, w' = x.out := by
  have Hhn := Lib.hid hn; clear hn
  have Hhm := Lib.hid hm; clear hm
  have Hha := Lib.hid ha; clear ha
  have Hhb := Lib.hid hb; clear hb
  go_enter Try.func5, Try.ntmps5
  go_wp2_with (fail)
  refine wp_region_later (by kernel_rfl) (by kernel_rfl) ?_
  repeat (go_big_quiet_step ((first | (go_at_call 24; exact Later.call _ (add_c _ _ _)) | (go_at_call 25; exact Later.call _ (add_r _ _ _)) | (go_at_call 26; exact Later.call _ (sub_c _ _ _)) | (go_at_call 27; exact Later.call _ (sub_r _ _ _)) | (go_at_call 22; exact Later.call _ (cmp_c _ _ _ Hhn.out Hhm.out)) | (go_at_call 28; exact Later.call _ (cmp_r _ _ _ Hhn.out Hhm.out)) | (go_at_call 20; exact Later.call _ (sign_c _ _ Hhn.out)) | (go_at_call 29; exact Later.call _ (sign_r _ _ Hhn.out)) | (go_at_call 23; exact Later.call _ (mul_c _ _ _ Hha.out Hhb.out)) | (go_at_call 30; exact Later.call _ (mul_r _ _ _ Hha.out Hhb.out)) | (go_at_call 21; exact Later.call _ (of_c _ _ Hha.out)) | (go_at_call 31; exact Later.call _ (of_r _ _ Hha.out)) | (go_at_call 19; exact Later.call _ (shown_c _)))))
  refine wpQuiet_nil ?_
  intro x
  go_wp2
  go_ret
  exact ⟨rfl, (Later.mk_of (by repeat (first | (with_reducible assumption) | (with_reducible exact Below.refl _ _) | (with_reducible refine Later.after ?_ _) | (with_reducible refine Later.newer ?_ _) | (with_reducible refine Below.drew ?_) | (with_reducible refine Below.setCell ?_ (by first | exact Nat.le_refl _ | exact Nat.le_add_right _ _ | omega | (simp [go_sem]; done) | (simp [go_sem]; omega)) _))))⟩

theorem walk (a0 b0 a1 b1 a2 a3 : Int) (w0 : (Lit.int .i64 a0).wf = true) (u0 : (Lit.int .u64 b0).wf = true) (w1 : (Lit.int .i64 a1).wf = true) (u1 : (Lit.int .u64 b1).wf = true) (w2 : (Lit.int .i64 a2).wf = true) (w3 : (Lit.int .i64 a3).wf = true) (w : World) :
    Calls Try.prog 5 #[.agg #[.int .i64 a0, .int .u64 b0], .agg #[.int .i64 a1, .int .u64 b1], .int .i64 a2, .int .i64 a3] w fun e w' => e = .returned (.bool true) ∧ ∃ x : Later w, w' = x.out := by
  obtain ⟨n, hn, rfl, rfl⟩ := both_of a0 b0 (bounds_i64 w0) (bounds_u64 u0)
  obtain ⟨m, hm, rfl, rfl⟩ := both_of a1 b1 (bounds_i64 w1) (bounds_u64 u1)
  exact walk_at n m a2 a3 hn hm (R64_of w2) (R64_of w3) w


set_option maxRecDepth 100000 in
theorem lifted (os : Os) (started : os.Started) (H : Type) (enc : TypeId × Value → H) :
    ReturnsInHanded {} Try.checked os 5 .any (Rows.wideSumsSpec.pre6 enc Try.prog Try.f5 Rows.wideSumsRow.domain false) (Rows.wideSumsSpec.post enc Try.prog Try.f5 false true false false) := by
  refine returnsInHanded_of_change (C := Try.checked) own started (by kernel_rfl) Try.func5
    (ChangeSpec.witness6 (enc := enc) (C := Try.checked) false ⟨#[], #[.agg #[.int .i64 0, .int .u64 0], .agg #[.int .i64 0, .int .u64 0], .int .i64 0, .int .i64 0], []⟩ 8 (by kernel_rfl) (by kernel_rfl) (by kernel_rfl) (by kernel_rfl)) ?_
  intro W base args ds gs before hval0 hW hcnd _
  have hval : ∀ (j : Nat) t v, Try.f5.params[j]? = some t → args[j]? = some v → Value.okWide Try.prog W .any base t v := hval0
  have hW' := hW
  obtain ⟨p, q, hA0, hV, rfl, hfz, hnd⟩ := hW
  have hA : DataW.TrodAll enc Try.prog W 0 (fun _ => true) true Try.f5.params.toList args.toList ds p := hA0
  rw [Try.params5] at hA hval
  obtain ⟨v0, vs0, d0, ds0, p0, q0, hargs, rfl, rfl, h0, r0⟩ := trodAll_cons hA
  obtain ⟨v1, vs1, d1, ds1, p1, q1, rfl, rfl, rfl, h1, r1⟩ := trodAll_cons r0
  obtain ⟨v2, vs2, d2, ds2, p2, q2, rfl, rfl, rfl, h2, r2⟩ := trodAll_cons r1
  obtain ⟨v3, vs3, d3, ds3, p3, q3, rfl, rfl, rfl, h3, r3⟩ := trodAll_cons r2
  obtain ⟨rfl, rfl, rfl⟩ := trodAll_nil r3
  obtain rfl : args = #[v0, v1, v2, v3] := by cases args; simp_all
  obtain ⟨rfl, rfl⟩ := trodVars_none hV
  obtain ⟨a0, b0, rfl, rfl, rfl, w0, u0⟩ := open_two Try.underlying24 (by kernel_rfl) cells24 Try.underlying2 Try.underlying22 (hval 0 24 v0 rfl rfl) h0
  obtain ⟨a1, b1, rfl, rfl, rfl, w1, u1⟩ := open_two Try.underlying24 (by kernel_rfl) cells24 Try.underlying2 Try.underlying22 (hval 1 24 v1 rfl rfl) h1
  obtain ⟨a2, rfl, rfl, rfl, w2⟩ := open_int Try.underlying2 (hval 2 2 v2 rfl rfl) h2
  obtain ⟨a3, rfl, rfl, rfl, w3⟩ := open_int Try.underlying2 (hval 3 2 v3 rfl rfl) h3
  clear hA0 hval0
  simp only [List.append_nil] at hW'
  refine (walk a0 b0 a1 b1 a2 a3 w0 u0 w1 u1 w2 w3 W).mono fun e W' ⟨he, hg⟩ => ?_
  subst he
  exact ⟨_, rfl, post_later (pa := []) hW' (fun _ _ _ => (trodAll_cons_mk (shut_bool Try.underlying4 _) trodAll_mk0)) (fun sp _ => (trodAll_cons_mk (shut_two Try.underlying24 (by kernel_rfl) cells24 Try.underlying2 Try.underlying22 w0 u0) (trodAll_cons_mk (shut_two Try.underlying24 (by kernel_rfl) cells24 Try.underlying2 Try.underlying22 w1 u1) (trodAll_cons_mk (shut_int Try.underlying2 w2) (trodAll_cons_mk (shut_int Try.underlying2 w3) trodAll_mk0))))) (fun _ _ => rfl) rfl
    hg (ok_one (by kernel_rfl) rfl (okWide_bool_mk Try.underlying4 _))⟩

theorem over : Rows.wideSumsRow.holds Try.pinned (OpenSpec.ofChange Rows.wideSumsSpec) :=
  OpenClaim.holds_of_wide 5 Try.f5 rfl rfl rfl rfl rfl rfl rfl ⟨rfl, rfl, rfl, rfl, rfl⟩ rfl rfl rfl rfl rfl (by kernel_rfl) Try.func5 (by kernel_rfl)
    (of_decide_eq_true (by kernel_rfl)) (by unfold Func.isWrapper; first | (rw [if_pos (by decide +kernel)]; kernel_rfl) | (rw [if_neg (by decide +kernel)]; exact ⟨rfl, rfl⟩))
    (fun os started H enc _ => lifted os started H enc)

theorem proved : Rows.WideSumsSaid :=
  over
#print axioms proved
end Go.Proofs.Ytfaiepalmkobeaa.wideSums

