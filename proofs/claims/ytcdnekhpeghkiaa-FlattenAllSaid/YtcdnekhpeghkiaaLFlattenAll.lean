/-
  The statement of FlattenAll, for every input: its walk, and the row round it.
-/
import Derived.Test.YtcdnekhpeghkiaaKR
import Derived.Test.YtcdnekhpeghkiaaPathRow
import Derived.Test.YtcdnekhpeghkiaaKB
import Derived.ProofKit
import Derived.OpenShut
namespace Go.Proofs.Ytcdnekhpeghkiaa.flattenAll
open Go.ChangeShapes Go.WideShapes Go.ChangeAt Go.RowKit Go.Joins
set_option linter.unusedVariables false

theorem walk (vv sv : Value) (vs : List Int) (pts : List (Int × Int)) (a : Int) (w : World) (hv : IntsAt w vv vs) (hp : PtsAt w sv pts) (j : ∀ p ∈ vs, (Lit.int .i64 p).wf = true) (u : ∀ p ∈ pts, (Lit.int .i64 p.1).wf = true ∧ (Lit.int .i64 p.2).wf = true) (w1 : (Lit.int .u16 a).wf = true) :
    Calls Try.prog 10 #[.agg #[vv, sv], .int .u16 a] w fun e w' => e = .returned (.bool true) ∧ ∃ x : Later w, w' = x.out := by
  have h1 := bounds_u16 w1
  exact fa_walk vs pts vv sv a (by omega) (by omega) w hv hp

set_option maxRecDepth 100000 in
theorem lifted (os : Os) (started : os.Started) (H : Type) (enc : TypeId × Value → H) :
    ReturnsInHanded {} Try.checked os 10 .any (Rows.flattenAllSpec.pre6 enc Try.prog Try.f10 Rows.flattenAllRow.domain false) (Rows.flattenAllSpec.post enc Try.prog Try.f10 false true false false) := by
  refine returnsInHanded_of_change (C := Try.checked) own started (by kernel_rfl) Try.func10
    (ChangeSpec.witness6 (enc := enc) (C := Try.checked) false ⟨#[], #[.agg #[.slice none 0 0, .slice none 0 0], .int .u16 0], []⟩ 8 (by kernel_rfl) (by kernel_rfl) (by kernel_rfl) (by kernel_rfl)) ?_
  intro W base args ds gs before hval0 hW hcnd _
  have hval : ∀ (j : Nat) t v, Try.f10.params[j]? = some t → args[j]? = some v → Value.okWide Try.prog W .any base t v := hval0
  have hW' := hW
  obtain ⟨p, q, hA0, hV, rfl, hfz, hnd⟩ := hW
  have hA : DataW.TrodAll enc Try.prog W 0 (fun _ => true) true Try.f10.params.toList args.toList ds p := hA0
  have hAk := hA
  rw [Try.params10] at hA hval
  obtain ⟨v0, vs0, d0, ds0, p0, q0, hargs, rfl, rfl, h0, r0⟩ := trodAll_cons hA
  obtain ⟨v1, vs1, d1, ds1, p1, q1, rfl, rfl, rfl, h1, r1⟩ := trodAll_cons r0
  obtain ⟨rfl, rfl, rfl⟩ := trodAll_nil r1
  obtain rfl : args = #[v0, v1] := by cases args; simp_all
  obtain ⟨rfl, rfl⟩ := trodVars_none hV
  obtain ⟨a0, s0, k0, l0, rfl, i0, w0, j0, u0⟩ := open_path Try.underlying51 (by kernel_rfl) (by kernel_rfl) rfl rfl Try.underlying44 Try.underlying30 Try.underlying23 rfl rfl rfl rfl (by kernel_rfl) (by kernel_rfl) Try.underlying3 (hval 0 51 v0 rfl rfl) h0
  obtain ⟨a1, rfl, _, _, w1⟩ := open_int Try.underlying52 (hval 1 52 v1 rfl rfl) h1
  clear hA0 hval0
  rw [List.append_nil] at hW'
  refine (walk a0 s0 k0 l0 a1 W i0 w0 j0 u0 w1).mono fun e W' ⟨he, hg⟩ => ?_
  subst he
  obtain ⟨x, rfl⟩ := hg
  exact ⟨_, rfl, post_later (pa := _) hW' (fun _ _ _ => (trodAll_cons_mk (shut_bool Try.underlying4 _) trodAll_mk0)) (fun sp hsp => trodAll_later (by kernel_rfl) x sp (all_read (by rw [Try.params10]; kernel_rfl)) hAk (fun q hq => hW'.lt q hq) hsp) (fun _ _ => rfl) rfl
    ⟨x, rfl⟩ (ok_one (by kernel_rfl) rfl (okWide_bool_mk Try.underlying4 _))⟩

theorem over : Rows.flattenAllRow.holds Try.pinned (OpenSpec.ofChange Rows.flattenAllSpec) :=
  OpenClaim.holds_of_wide 10 Try.f10 rfl rfl rfl rfl rfl rfl rfl ⟨rfl, rfl, rfl, rfl, rfl⟩ rfl rfl rfl rfl rfl (by kernel_rfl) Try.func10 (by kernel_rfl)
    (of_decide_eq_true (by kernel_rfl)) (by unfold Func.isWrapper; first | (rw [if_pos (by decide +kernel)]; kernel_rfl) | (rw [if_neg (by decide +kernel)]; exact ⟨rfl, rfl⟩))
    (fun os started H enc _ => lifted os started H enc)

theorem proved : Rows.FlattenAllSaid :=
  over
#print axioms proved
end Go.Proofs.Ytcdnekhpeghkiaa.flattenAll

