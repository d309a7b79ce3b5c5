/-
  The statement of BezierShifts, for every input: its walk, and the row round it.
-/
import Derived.Test.YtdlemjecocmbgaaL9A
import Derived.Test.YtdlemjecocmbgaaSegRow
import Derived.Test.YtdlemjecocmbgaaKB
import Derived.ProofKit
import Derived.OpenShut
namespace Go.Proofs.Ytdlemjecocmbgaa.bezierShifts
open Go.ChangeShapes Go.WideShapes Go.ChangeAt Go.RowKit Go.Joins
set_option linter.unusedVariables false

theorem cells23 : Try.prog.cellsOf 23 = 2 := by kernel_rfl
theorem walk (s : En) (a b k t : Int) (hw : ∀ i, i < 9 → (Lit.int .i64 (s i)).wf = true) (h9 : s 9 = 0) (w1 : (Lit.int .i64 a).wf = true) (u1 : (Lit.int .i64 b).wf = true) (w2 : (Lit.int .u8 k).wf = true) (w3 : (Lit.int .u16 t).wf = true) (w : World) :
    Calls Try.prog 9 #[.agg #[.int .i64 (s 0), .int .i64 (s 1), .int .i64 (s 2), .int .i64 (s 3), .int .i64 (s 4), .int .i64 (s 5), .int .i64 (s 6), .int .i64 (s 7), .int .i64 (s 8)], .agg #[.int .i64 a, .int .i64 b], .int .u8 k, .int .u16 t] w fun e w' => e = .returned (.bool true) ∧ ∃ x : Later w, w' = x.out := by
  have := bounds_u8 w2
  have := bounds_u16 w3
  exact bshifts_walk s h9 a b k t (R64_of w1) (R64_of u1) (by omega) (by omega) (by omega) (by omega) w

set_option maxRecDepth 100000 in
theorem lifted (os : Os) (started : os.Started) (H : Type) (enc : TypeId × Value → H) :
    ReturnsInHanded {} Try.checked os 9 .any (Rows.bezierShiftsSpec.pre6 enc Try.prog Try.f9 Rows.bezierShiftsRow.domain false) (Rows.bezierShiftsSpec.post enc Try.prog Try.f9 false true false false) := by
  refine returnsInHanded_of_change (C := Try.checked) own started (by kernel_rfl) Try.func9
    (ChangeSpec.witness6 (enc := enc) (C := Try.checked) false ⟨#[], #[.agg #[.int .i64 0, .int .i64 0, .int .i64 0, .int .i64 0, .int .i64 0, .int .i64 0, .int .i64 0, .int .i64 0, .int .i64 0], .agg #[.int .i64 0, .int .i64 0], .int .u8 0, .int .u16 0], []⟩ 8 (by kernel_rfl) (by kernel_rfl) (by kernel_rfl) (by kernel_rfl)) ?_
  intro W base args ds gs before hval0 hW hcnd _
  have hval : ∀ (j : Nat) t v, Try.f9.params[j]? = some t → args[j]? = some v → Value.okWide Try.prog W .any base t v := hval0
  have hW' := hW
  obtain ⟨p, q, hA0, hV, rfl, hfz, hnd⟩ := hW
  have hA : DataW.TrodAll enc Try.prog W 0 (fun _ => true) true Try.f9.params.toList args.toList ds p := hA0
  rw [Try.params9] at hA hval
  obtain ⟨v0, vs0, d0, ds0, p0, q0, hargs, rfl, rfl, h0, r0⟩ := trodAll_cons hA
  obtain ⟨v1, vs1, d1, ds1, p1, q1, rfl, rfl, rfl, h1, r1⟩ := trodAll_cons r0
  obtain ⟨v2, vs2, d2, ds2, p2, q2, rfl, rfl, rfl, h2, r2⟩ := trodAll_cons r1
  obtain ⟨v3, vs3, d3, ds3, p3, q3, rfl, rfl, rfl, h3, r3⟩ := trodAll_cons r2
  obtain ⟨rfl, rfl, rfl⟩ := trodAll_nil r3
  obtain rfl : args = #[v0, v1, v2, v3] := by cases args; simp_all
  obtain ⟨rfl, rfl⟩ := trodVars_none hV
  obtain ⟨a0, rfl, rfl, w0, t0, z0⟩ := open_seg Try.underlying39 rfl rfl rfl rfl (by kernel_rfl) (by kernel_rfl) Try.underlying37 Try.underlying23 rfl rfl rfl rfl (by kernel_rfl) (by kernel_rfl) Try.underlying3 (hval 0 39 v0 rfl rfl) h0
  obtain ⟨a1, b1, rfl, rfl, rfl, w1, u1⟩ := open_two Try.underlying23 (by kernel_rfl) cells23 Try.underlying3 Try.underlying3 (hval 1 23 v1 rfl rfl) h1
  obtain ⟨a2, rfl, rfl, rfl, w2⟩ := open_int Try.underlying5 (hval 2 5 v2 rfl rfl) h2
  obtain ⟨a3, rfl, rfl, rfl, w3⟩ := open_int Try.underlying31 (hval 3 31 v3 rfl rfl) h3
  clear hA0 hval0
  simp only [List.append_nil] at hW'
  refine (walk a0 a1 b1 a2 a3 w0 z0 w1 u1 w2 w3 W).mono fun e W' ⟨he, hg⟩ => ?_
  subst he
  exact ⟨_, rfl, post_later (pa := []) hW' (fun _ _ _ => (trodAll_cons_mk (shut_bool Try.underlying4 _) trodAll_mk0)) (fun sp _ => (trodAll_cons_mk (t0 _ _ _ _) (trodAll_cons_mk (shut_two Try.underlying23 (by kernel_rfl) cells23 Try.underlying3 Try.underlying3 w1 u1) (trodAll_cons_mk (shut_int Try.underlying5 w2) (trodAll_cons_mk (shut_int Try.underlying31 w3) trodAll_mk0))))) (fun _ _ => rfl) rfl
    hg (ok_one (by kernel_rfl) rfl (okWide_bool_mk Try.underlying4 _))⟩

theorem over : Rows.bezierShiftsRow.holds Try.pinned (OpenSpec.ofChange Rows.bezierShiftsSpec) :=
  OpenClaim.holds_of_wide 9 Try.f9 rfl rfl rfl rfl rfl rfl rfl ⟨rfl, rfl, rfl, rfl, rfl⟩ rfl rfl rfl rfl rfl (by kernel_rfl) Try.func9 (by kernel_rfl)
    (of_decide_eq_true (by kernel_rfl)) (by unfold Func.isWrapper; first | (rw [if_pos (by decide +kernel)]; kernel_rfl) | (rw [if_neg (by decide +kernel)]; exact ⟨rfl, rfl⟩))
    (fun os started H enc _ => lifted os started H enc)

theorem proved : Rows.BezierShiftsSaid :=
  over
#print axioms proved
end Go.Proofs.Ytdlemjecocmbgaa.bezierShifts

