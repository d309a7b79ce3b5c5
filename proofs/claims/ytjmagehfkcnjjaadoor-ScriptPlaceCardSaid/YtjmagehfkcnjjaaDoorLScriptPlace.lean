/-
  The statement of ScriptPlace, for every input: its walk, and the row round it.
-/
import Derived.Test.YtjmagehfkcnjjaaDoorSPW
import Derived.Test.YtjmagehfkcnjjaaDoorShp
import Derived.Test.YtjmagehfkcnjjaaDoorPathRow
import Derived.Test.YtjmagehfkcnjjaaDoorLaid
import Derived.Test.YtjmagehfkcnjjaaDoorCards
import Derived.Test.YtjmagehfkcnjjaaDoorRow
import Derived.ProofKit
import Derived.OpenShut
import Derived.ChangeMaps5
namespace Go.Proofs.YtjmagehfkcnjjaaDoor.scriptPlace
open Go.ChangeShapes Go.WideShapes Go.ChangeAt Go.RowKit Go.Joins
set_option linter.unusedVariables false

theorem walk (vv sv : Value) (vs : List Int) (pts : List (Int × Int)) (bad : ByteArray) (a : Int) (W : World) (hv : IntsAt W vv vs) (hp : PtsAt W sv pts) (j : ∀ p ∈ vs, (Lit.int .i64 p).wf = true) (u : ∀ p ∈ pts, (Lit.int .i64 p.1).wf = true ∧ (Lit.int .i64 p.2).wf = true) (wb : bad.size ≤ maxLen) (wa : (Lit.int .u8 a).wf = true) (hL : laidMetH Tryd.prog laidL W) (hmx : ∃ m, W.cell? ⟨3, 0, none⟩ = some (.int .i64 m)) :
    Calls Tryd.prog 8 #[.agg #[vv, sv], .string bad, .int .u8 a] W fun e w' => e = .returned (.bool true) ∧ ∃ x : Later W, w' = x.out := by
  have h2 := bounds_u8 wa
  obtain ⟨mx, hm⟩ := hmx
  exact place_walk vs pts vv sv bad a mx W hv hp h2.1 h2.2 hm (tab_of hL)


set_option maxRecDepth 100000 in
theorem lifted (os : Os) (started : os.Started) (H : Type) (enc : TypeId × Value → H) :
    ReturnsInHanded {} Tryd.checked os 8 .any (fun w args => (Rows.scriptPlaceSpec.pre enc Tryd.prog Tryd.f8 [] false w args ∧ laidMetH Tryd.prog laidL w) ∧ sizedMet enc Tryd.prog Tryd.f8 (OpenSpec.ofChange Rows.scriptPlaceSpec) false w args) (Rows.scriptPlaceSpec.post enc Tryd.prog Tryd.f8 false true false false) := by
  refine returns_and_shaped (C := Tryd.checked) (X := fun w _ => laidMetH Tryd.prog laidL w) (fun _ _ _ hh h => h.of_heap hh) own started (by kernel_rfl) Tryd.func8
    (ChangeSpec.witness_shaped (enc := enc) (C := Tryd.checked) (os := os) (X := fun w _ => laidMetH Tryd.prog laidL w) false (World.laidAll Tryd.prog os laidL) #[.agg #[.slice none 0 0, .slice none 0 0], .string ⟨#[]⟩, .int .u8 0] 8 (World.laidAll_os _ _ _) (laid_shaped os) (by kernel_rfl) (by kernel_rfl) (by kernel_rfl) (laid_met os _)) ?_
  intro W base args ds gs before hval0 hW hcnd _ hL hsh _
  have hval : ∀ (j : Nat) t v, Tryd.f8.params[j]? = some t → args[j]? = some v → Value.okWide Tryd.prog W .any base t v := hval0
  have hW' := hW
  obtain ⟨p, q, hA0, hV, rfl, hfz, hnd⟩ := hW
  have hA : DataW.TrodAll enc Tryd.prog W 0 (fun _ => true) true Tryd.f8.params.toList args.toList ds p := hA0
  have hAk := hA
  rw [Tryd.params8] at hA hval
  obtain ⟨v0, vs0, d0, ds0, p0, q0, hargs, rfl, rfl, h0, r0⟩ := trodAll_cons hA
  obtain ⟨v1, vs1, d1, ds1, p1, q1, rfl, rfl, rfl, h1, r1⟩ := trodAll_cons r0
  obtain ⟨v2, vs2, d2, ds2, p2, q2, rfl, rfl, rfl, h2, r2⟩ := trodAll_cons r1
  obtain ⟨rfl, rfl, rfl⟩ := trodAll_nil r2
  obtain rfl : args = #[v0, v1, v2] := by cases args; simp_all
  obtain ⟨rfl, rfl⟩ := trodVars_none hV
  obtain ⟨a0, s0, k0, l0, rfl, i0, w0, j0, u0⟩ := open_path Tryd.underlying40 (by kernel_rfl) (by kernel_rfl) rfl rfl Tryd.underlying37 Tryd.underlying38 Tryd.underlying64 rfl rfl rfl rfl (by kernel_rfl) (by kernel_rfl) Tryd.underlying3 (hval 0 40 v0 rfl rfl) h0
  obtain ⟨a1, rfl, _, _, w1⟩ := Go.ChangeMaps.open_string Tryd.underlying9 (hval 1 9 v1 rfl rfl) h1
  obtain ⟨a2, rfl, _, _, w2⟩ := open_int Tryd.underlying5 (hval 2 5 v2 rfl rfl) h2
  clear hA0 hval0
  rw [List.append_nil] at hW'
  refine (walk a0 s0 k0 l0 a1 a2 W i0 w0 j0 u0 w1 w2 hL (max_cell hsh)).mono fun e W' ⟨he, hg⟩ => ?_
  subst he
  obtain ⟨x, rfl⟩ := hg
  exact ⟨_, rfl, post_later (pa := _) hW' (fun _ _ _ => (trodAll_cons_mk (shut_bool Tryd.underlying4 _) trodAll_mk0)) (fun sp hsp => trodAll_later (by kernel_rfl) x sp (all_read (by rw [Tryd.params8]; kernel_rfl)) hAk (fun q hq => hW'.lt q hq) hsp) (fun _ _ => rfl) rfl
    ⟨x, rfl⟩ (ok_one (by kernel_rfl) rfl (okWide_bool_mk Tryd.underlying4 _))⟩

theorem over : Rows.scriptPlaceRow.holds Tryd.pinned (OpenSpec.ofChange Rows.scriptPlaceSpec) :=
  OpenClaim.holds_of_wide 8 Tryd.f8 rfl rfl rfl rfl rfl rfl rfl ⟨rfl, rfl, rfl, rfl, rfl⟩ rfl rfl rfl rfl rfl (by kernel_rfl) Tryd.func8 (by kernel_rfl)
    (of_decide_eq_true (by kernel_rfl)) (by unfold Func.isWrapper; first | (rw [if_pos (by decide +kernel)]; kernel_rfl) | (rw [if_neg (by decide +kernel)]; exact ⟨rfl, rfl⟩))
    (fun os started H enc _ => lifted os started H enc)

theorem row_holds : Rows.ScriptPlaceSaid := over
theorem proved : Rows.ScriptPlaceCardSaid :=
  Claim7.holds_tied_plain_at .later [] [.data, .data, .data, .data, .sentinel, .sentinel, .pinned] true Rows.scriptPlaceCard.stood.harness true row_holds (fun _ h => by cases h) (by kernel_rfl) (fun _ h => by cases h) scriptPlace_row_tie rfl ⟨rfl, rfl⟩ (by kernel_rfl) rfl
    (fun f fn hf hfn => by
      obtain rfl : f = 8 := Option.some.inj ((show Tryd.prog.funcNamed "ductus/ductuslaw08.ScriptPlace" = some 8 by kernel_rfl).symm.trans hf) |>.symm
      obtain rfl : fn = Tryd.f8 := (Option.some.inj (Tryd.func8.symm.trans hfn)).symm
      exact ⟨by kernel_rfl, fun j t ht => by
        rw [Tryd.params8] at ht
        have hm : t ∈ [40, 9, 5] := by simpa using Array.mem_of_getElem? ht
        have hall : ([40, 9, 5].all fun u => !Tryd.prog.wantsStandIn u) = true := by kernel_rfl
        exact (show Tryd.prog.wantsStandIn t = false by simpa using List.all_eq_true.1 hall t hm)⟩)
    (by kernel_rfl)
#print axioms proved
end Go.Proofs.YtjmagehfkcnjjaaDoor.scriptPlace
