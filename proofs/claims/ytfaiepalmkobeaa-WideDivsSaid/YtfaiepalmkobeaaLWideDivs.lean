/-
  The statement of WideDivs, for every input: its walk, and the row round it.
-/
import Derived.Test.YtfaiepalmkobeaaW8
import Derived.Test.YtfaiepalmkobeaaRow
import Derived.ProofKit
import Derived.OpenShut
namespace Go.Proofs.Ytfaiepalmkobeaa.wideDivs
open Go.ChangeShapes Go.WideShapes Go.ChangeAt Go.RowKit Go.Joins
set_option linter.unusedVariables false

theorem cells24 : Try.prog.cellsOf 24 = 2 := by kernel_rfl
set_option maxRecDepth 100000 in
set_option maxHeartbeats 2000000 in
theorem divs_walk (nh nl b qh ql r er k : Int) (t : Bool) (w : World) (h1 : ∀ w', Calls Try.prog 15 #[.agg #[.int .i64 nh, .int .u64 nl], .int .i64 b] w' fun e w'' => e = .returned (.tuple #[.agg #[.int .i64 qh, .int .u64 ql], .int .i64 r, .int .i64 er]) ∧ ∃ x : Later w', w'' = x.out) (h2 : ∀ w', Calls Try.prog 16 #[.agg #[.int .i64 nh, .int .u64 nl], .int .i64 b] w' fun e w'' => e = .returned (.tuple #[.agg #[.int .i64 qh, .int .u64 ql], .int .i64 r, .int .i64 er]) ∧ ∃ x : Later w', w'' = x.out)
    (h3 : ∀ w', Calls Try.prog 17 #[.agg #[.int .i64 nh, .int .u64 nl]] w' fun e w'' => e = .returned (.tuple #[.int .i64 k, .bool t]) ∧ ∃ x : Later w', w'' = x.out) (h4 : ∀ w', Calls Try.prog 18 #[.agg #[.int .i64 nh, .int .u64 nl]] w' fun e w'' => e = .returned (.tuple #[.int .i64 k, .bool t]) ∧ ∃ x : Later w', w'' = x.out) :
    Calls Try.prog 3 #[.agg #[.int .i64 nh, .int .u64 nl], .int .i64 b] w fun e w' => e = .returned (.bool true) ∧ ∃ x : Later w, w' = x.out := by
  have Hh1 := Lib.hid h1; clear h1
  have Hh2 := Lib.hid h2; clear h2
  have Hh3 := Lib.hid h3; clear h3
  have Hh4 := Lib.hid h4; clear h4
  go_enter Try.func3, Try.ntmps3
  go_wp2_with (first | (go_at_call 15; (with_reducible refine (Hh1.out _).mono ?_); rintro e _ ⟨rfl, x, rfl⟩) | (go_at_call 16; (with_reducible refine (Hh2.out _).mono ?_); rintro e _ ⟨rfl, x, rfl⟩) | (go_at_call 17; (with_reducible refine (Hh3.out _).mono ?_); rintro e _ ⟨rfl, x, rfl⟩) | (go_at_call 18; (with_reducible refine (Hh4.out _).mono ?_); rintro e _ ⟨rfl, x, rfl⟩) | (go_at_call 19; (with_reducible refine (shown_c _).mono ?_); rintro e _ ⟨rfl, x, rfl⟩))
  go_ret
  exact ⟨rfl, (Later.mk_of (by repeat (first | (with_reducible assumption) | (with_reducible exact Below.refl _ _) | (with_reducible refine Later.after ?_ _) | (with_reducible refine Later.newer ?_ _) | (with_reducible refine Below.drew ?_) | (with_reducible refine Below.setCell ?_ (by first | exact Nat.le_refl _ | exact Nat.le_add_right _ _ | omega | (simp [go_sem]; done) | (simp [go_sem]; omega)) _))))⟩

theorem walk (a0 b0 a1 : Int) (w0 : (Lit.int .i64 a0).wf = true) (u0 : (Lit.int .u64 b0).wf = true) (w1 : (Lit.int .i64 a1).wf = true) (w : World) :
    Calls Try.prog 3 #[.agg #[.int .i64 a0, .int .u64 b0], .int .i64 a1] w fun e w' => e = .returned (.bool true) ∧ ∃ x : Later w, w' = x.out := by
  obtain ⟨n, hn, rfl, rfl⟩ := both_of a0 b0 (bounds_i64 w0) (bounds_u64 u0)
  have hb := bounds_i64 w1
  have hz := W_zero
  by_cases h0 : 0 < a1
  · by_cases h1 : R64 n
    · exact divs_walk _ _ a1 _ _ _ _ _ _ w (fun v => div_c n a1 v hn h0 hb.2) (fun v => div_r n a1 v hn h0 hb.2) (fun v => narrow_yes n v h1) (fun v => narrow_r_yes n v h1)
    · exact divs_walk _ _ a1 _ _ _ _ _ _ w (fun v => div_c n a1 v hn h0 hb.2) (fun v => div_r n a1 v hn h0 hb.2) (fun v => narrow_no n v hn h1) (fun v => narrow_r_no n v hn h1)
  · by_cases h1 : R64 n
    · exact divs_walk _ _ a1 _ _ _ _ _ _ w (fun v => div_c_bad n a1 v hn (by omega)) (fun v => div_r_bad n a1 v (by omega)) (fun v => narrow_yes n v h1) (fun v => narrow_r_yes n v h1)
    · exact divs_walk _ _ a1 _ _ _ _ _ _ w (fun v => div_c_bad n a1 v hn (by omega)) (fun v => div_r_bad n a1 v (by omega)) (fun v => narrow_no n v hn h1) (fun v => narrow_r_no n v hn h1)


set_option maxRecDepth 100000 in
theorem lifted (os : Os) (started : os.Started) (H : Type) (enc : TypeId × Value → H) :
    ReturnsInHanded {} Try.checked os 3 .any (Rows.wideDivsSpec.pre6 enc Try.prog Try.f3 Rows.wideDivsRow.domain false) (Rows.wideDivsSpec.post enc Try.prog Try.f3 false true false false) := by
  refine returnsInHanded_of_change (C := Try.checked) own started (by kernel_rfl) Try.func3
    (ChangeSpec.witness6 (enc := enc) (C := Try.checked) false ⟨#[], #[.agg #[.int .i64 0, .int .u64 0], .int .i64 0], []⟩ 8 (by kernel_rfl) (by kernel_rfl) (by kernel_rfl) (by kernel_rfl)) ?_
  intro W base args ds gs before hval0 hW hcnd _
  have hval : ∀ (j : Nat) t v, Try.f3.params[j]? = some t → args[j]? = some v → Value.okWide Try.prog W .any base t v := hval0
  have hW' := hW
  obtain ⟨p, q, hA0, hV, rfl, hfz, hnd⟩ := hW
  have hA : DataW.TrodAll enc Try.prog W 0 (fun _ => true) true Try.f3.params.toList args.toList ds p := hA0
  rw [Try.params3] at hA hval
  obtain ⟨v0, vs0, d0, ds0, p0, q0, hargs, rfl, rfl, h0, r0⟩ := trodAll_cons hA
  obtain ⟨v1, vs1, d1, ds1, p1, q1, rfl, rfl, rfl, h1, r1⟩ := trodAll_cons r0
  obtain ⟨rfl, rfl, rfl⟩ := trodAll_nil r1
  obtain rfl : args = #[v0, v1] := by cases args; simp_all
  obtain ⟨rfl, rfl⟩ := trodVars_none hV
  obtain ⟨a0, b0, rfl, rfl, rfl, w0, u0⟩ := open_two Try.underlying24 (by kernel_rfl) cells24 Try.underlying2 Try.underlying22 (hval 0 24 v0 rfl rfl) h0
  obtain ⟨a1, rfl, rfl, rfl, w1⟩ := open_int Try.underlying2 (hval 1 2 v1 rfl rfl) h1
  clear hA0 hval0
  simp only [List.append_nil] at hW'
  refine (walk a0 b0 a1 w0 u0 w1 W).mono fun e W' ⟨he, hg⟩ => ?_
  subst he
  exact ⟨_, rfl, post_later (pa := []) hW' (fun _ _ _ => (trodAll_cons_mk (shut_bool Try.underlying4 _) trodAll_mk0)) (fun sp _ => (trodAll_cons_mk (shut_two Try.underlying24 (by kernel_rfl) cells24 Try.underlying2 Try.underlying22 w0 u0) (trodAll_cons_mk (shut_int Try.underlying2 w1) trodAll_mk0))) (fun _ _ => rfl) rfl
    hg (ok_one (by kernel_rfl) rfl (okWide_bool_mk Try.underlying4 _))⟩

theorem over : Rows.wideDivsRow.holds Try.pinned (OpenSpec.ofChange Rows.wideDivsSpec) :=
  OpenClaim.holds_of_wide 3 Try.f3 rfl rfl rfl rfl rfl rfl rfl ⟨rfl, rfl, rfl, rfl, rfl⟩ rfl rfl rfl rfl rfl (by kernel_rfl) Try.func3 (by kernel_rfl)
    (of_decide_eq_true (by kernel_rfl)) (by unfold Func.isWrapper; first | (rw [if_pos (by decide +kernel)]; kernel_rfl) | (rw [if_neg (by decide +kernel)]; exact ⟨rfl, rfl⟩))
    (fun os started H enc _ => lifted os started H enc)

theorem proved : Rows.WideDivsSaid :=
  over
#print axioms proved
end Go.Proofs.Ytfaiepalmkobeaa.wideDivs

