/-
  The statement of ChainParts, for every input: its walk, and the row round it.
-/
import Derived.Test.YtcdnekhpeghkiaaE6
import Derived.Test.YtcdnekhpeghkiaaKB
import Derived.ProofKit
import Derived.OpenShut
namespace Go.Proofs.Ytcdnekhpeghkiaa.chainParts
open Go.ChangeShapes Go.WideShapes Go.ChangeAt Go.RowKit Go.Joins
set_option linter.unusedVariables false

theorem walk (sv : Value) (cl : Bool) (pts : List (Int × Int)) (a b d : Int) (w : World) (h : PtsAt w sv pts) (u : ∀ p ∈ pts, (Lit.int .i64 p.1).wf = true ∧ (Lit.int .i64 p.2).wf = true) (w1 : (Lit.int .u32 a).wf = true) (w2 : (Lit.int .u32 b).wf = true) (w3 : (Lit.int .u32 d).wf = true) :
    Calls Try.prog 7 #[.agg #[sv, .bool cl], .int .u32 a, .int .u32 b, .int .u32 d] w fun e w' => e = .returned (.bool true) ∧ ∃ x : Later w, w' = x.out := by
  have h1 := bounds_u32 w1
  have h2 := bounds_u32 w2
  have h3 := bounds_u32 w3
  exact parts_walk a b d sv cl pts (by omega) (by omega) (by omega) (by omega) (by omega) (by omega) w h

set_option maxRecDepth 100000 in
theorem lifted (os : Os) (started : os.Started) (H : Type) (enc : TypeId × Value → H) :
    ReturnsInHanded {} Try.checked os 7 .any (Rows.chainPartsSpec.pre6 enc Try.prog Try.f7 Rows.chainPartsRow.domain false) (Rows.chainPartsSpec.post enc Try.prog Try.f7 false true false false) := by
  refine returnsInHanded_of_change (C := Try.checked) own started (by kernel_rfl) Try.func7
    (ChangeSpec.witness6 (enc := enc) (C := Try.checked) false ⟨#[], #[.agg #[.slice none 0 0, .bool false], .int .u32 0, .int .u32 0, .int .u32 0], []⟩ 8 (by kernel_rfl) (by kernel_rfl) (by kernel_rfl) (by kernel_rfl)) ?_
  intro W base args ds gs before hval0 hW hcnd _
  have hval : ∀ (j : Nat) t v, Try.f7.params[j]? = some t → args[j]? = some v → Value.okWide Try.prog W .any base t v := hval0
  have hW' := hW
  obtain ⟨p, q, hA0, hV, rfl, hfz, hnd⟩ := hW
  have hA : DataW.TrodAll enc Try.prog W 0 (fun _ => true) true Try.f7.params.toList args.toList ds p := hA0
  have hAk := hA
  rw [Try.params7] at hA hval
  obtain ⟨v0, vs0, d0, ds0, p0, q0, hargs, rfl, rfl, h0, r0⟩ := trodAll_cons hA
  obtain ⟨v1, vs1, d1, ds1, p1, q1, rfl, rfl, rfl, h1, r1⟩ := trodAll_cons r0
  obtain ⟨v2, vs2, d2, ds2, p2, q2, rfl, rfl, rfl, h2, r2⟩ := trodAll_cons r1
  obtain ⟨v3, vs3, d3, ds3, p3, q3, rfl, rfl, rfl, h3, r3⟩ := trodAll_cons r2
  obtain ⟨rfl, rfl, rfl⟩ := trodAll_nil r3
  obtain rfl : args = #[v0, v1, v2, v3] := by cases args; simp_all
  obtain ⟨rfl, rfl⟩ := trodVars_none hV
  obtain ⟨a0, c0, l0, rfl, w0, u0⟩ := open_chain Try.underlying36 (by kernel_rfl) (by kernel_rfl) rfl rfl Try.underlying30 Try.underlying4 Try.underlying23 rfl rfl rfl rfl (by kernel_rfl) (by kernel_rfl) Try.underlying3 (hval 0 36 v0 rfl rfl) h0
  obtain ⟨a1, rfl, _, _, w1⟩ := open_int Try.underlying37 (hval 1 37 v1 rfl rfl) h1
  obtain ⟨a2, rfl, _, _, w2⟩ := open_int Try.underlying37 (hval 2 37 v2 rfl rfl) h2
  obtain ⟨a3, rfl, _, _, w3⟩ := open_int Try.underlying37 (hval 3 37 v3 rfl rfl) h3
  clear hA0 hval0
  rw [List.append_nil] at hW'
  refine (walk a0 c0 l0 a1 a2 a3 W w0 u0 w1 w2 w3).mono fun e W' ⟨he, hg⟩ => ?_
  subst he
  obtain ⟨x, rfl⟩ := hg
  exact ⟨_, rfl, post_later (pa := _) hW' (fun _ _ _ => (trodAll_cons_mk (shut_bool Try.underlying4 _) trodAll_mk0)) (fun sp hsp => trodAll_later (by kernel_rfl) x sp (all_read (by rw [Try.params7]; kernel_rfl)) hAk (fun q hq => hW'.lt q hq) hsp) (fun _ _ => rfl) rfl
    ⟨x, rfl⟩ (ok_one (by kernel_rfl) rfl (okWide_bool_mk Try.underlying4 _))⟩

theorem over : Rows.chainPartsRow.holds Try.pinned (OpenSpec.ofChange Rows.chainPartsSpec) :=
  OpenClaim.holds_of_wide 7 Try.f7 rfl rfl rfl rfl rfl rfl rfl ⟨rfl, rfl, rfl, rfl, rfl⟩ rfl rfl rfl rfl rfl (by kernel_rfl) Try.func7 (by kernel_rfl)
    (of_decide_eq_true (by kernel_rfl)) (by unfold Func.isWrapper; first | (rw [if_pos (by decide +kernel)]; kernel_rfl) | (rw [if_neg (by decide +kernel)]; exact ⟨rfl, rfl⟩))
    (fun os started H enc _ => lifted os started H enc)

theorem proved : Rows.ChainPartsSaid :=
  over
#print axioms proved
end Go.Proofs.Ytcdnekhpeghkiaa.chainParts

