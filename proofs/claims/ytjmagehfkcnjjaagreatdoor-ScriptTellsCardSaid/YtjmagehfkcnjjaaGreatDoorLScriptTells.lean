/-
  The statement of ScriptTells, for every input: its walk, and the row round it.
-/
import Derived.Test.YtjmagehfkcnjjaaGreatDoorSTW
import Derived.Test.YtjmagehfkcnjjaaGreatDoorShp
import Derived.Test.YtjmagehfkcnjjaaGreatDoorPathRow
import Derived.Test.YtjmagehfkcnjjaaGreatDoorLaid
import Derived.Test.YtjmagehfkcnjjaaGreatDoorCards
import Derived.Test.YtjmagehfkcnjjaaGreatDoorRow
import Derived.ProofKit
import Derived.OpenShut
import Derived.ChangeMaps5
namespace Go.Proofs.YtjmagehfkcnjjaaGreatDoor.scriptTells
open Go.ChangeShapes Go.WideShapes Go.ChangeAt Go.RowKit Go.Joins
set_option linter.unusedVariables false

theorem walk (vv sv : Value) (vs : List Int) (pts : List (Int × Int)) (S : ByteArray) (W : World) (hv : IntsAt W vv vs) (hp : PtsAt W sv pts) (j : ∀ p ∈ vs, (Lit.int .i64 p).wf = true) (u : ∀ p ∈ pts, (Lit.int .i64 p.1).wf = true ∧ (Lit.int .i64 p.2).wf = true) (wb : S.size ≤ maxLen) (hL : laidMetH Tryz.prog laidL W) (hmx : ∃ m, W.cell? ⟨2, 0, none⟩ = some (.int .i64 m)) :
    Calls Tryz.prog 4 #[.agg #[vv, sv], .string S] W fun e w' => e = .returned (.bool true) ∧ ∃ x : Later W, w' = x.out := by
  obtain ⟨mx, hm⟩ := hmx
  exact tells_walk vs pts vv sv S mx W hv hp hm (tab_of hL)


set_option maxRecDepth 100000 in
theorem lifted (os : Os) (started : os.Started) (H : Type) (enc : TypeId × Value → H) :
    ReturnsInHanded {} Tryz.checked os 4 .any (fun w args => (Rows.scriptTellsSpec.pre enc Tryz.prog Tryz.f4 [] false w args ∧ laidMetH Tryz.prog laidL w) ∧ sizedMet enc Tryz.prog Tryz.f4 (OpenSpec.ofChange Rows.scriptTellsSpec) false w args) (Rows.scriptTellsSpec.post enc Tryz.prog Tryz.f4 false true false false) := by
  refine returns_and_shaped (C := Tryz.checked) (X := fun w _ => laidMetH Tryz.prog laidL w) (fun _ _ _ hh h => h.of_heap hh) own started (by kernel_rfl) Tryz.func4
    (ChangeSpec.witness_shaped (enc := enc) (C := Tryz.checked) (os := os) (X := fun w _ => laidMetH Tryz.prog laidL w) false (World.laidAll Tryz.prog os laidL) #[.agg #[.slice none 0 0, .slice none 0 0], .string ⟨#[]⟩] 8 (World.laidAll_os _ _ _) (laid_shaped os) (by kernel_rfl) (by kernel_rfl) (by kernel_rfl) (laid_met os _)) ?_
  intro W base args ds gs before hval0 hW hcnd _ hL hsh _
  have hval : ∀ (j : Nat) t v, Tryz.f4.params[j]? = some t → args[j]? = some v → Value.okWide Tryz.prog W .any base t v := hval0
  have hW' := hW
  obtain ⟨p, q, hA0, hV, rfl, hfz, hnd⟩ := hW
  have hA : DataW.TrodAll enc Tryz.prog W 0 (fun _ => true) true Tryz.f4.params.toList args.toList ds p := hA0
  have hAk := hA
  rw [Tryz.params4] at hA hval
  obtain ⟨v0, vs0, d0, ds0, p0, q0, hargs, rfl, rfl, h0, r0⟩ := trodAll_cons hA
  obtain ⟨v1, vs1, d1, ds1, p1, q1, rfl, rfl, rfl, h1, r1⟩ := trodAll_cons r0
  obtain ⟨rfl, rfl, rfl⟩ := trodAll_nil r1
  obtain rfl : args = #[v0, v1] := by cases args; simp_all
  obtain ⟨rfl, rfl⟩ := trodVars_none hV
  obtain ⟨a0, s0, k0, l0, rfl, i0, w0, j0, u0⟩ := open_path Tryz.underlying31 (by kernel_rfl) (by kernel_rfl) rfl rfl Tryz.underlying28 Tryz.underlying29 Tryz.underlying48 rfl rfl rfl rfl (by kernel_rfl) (by kernel_rfl) Tryz.underlying3 (hval 0 31 v0 rfl rfl) h0
  obtain ⟨a1, rfl, _, _, w1⟩ := Go.ChangeMaps.open_string Tryz.underlying9 (hval 1 9 v1 rfl rfl) h1
  clear hA0 hval0
  rw [List.append_nil] at hW'
  refine (walk a0 s0 k0 l0 a1 W i0 w0 j0 u0 w1 hL (max_cell hsh)).mono fun e W' ⟨he, hg⟩ => ?_
  subst he
  obtain ⟨x, rfl⟩ := hg
  exact ⟨_, rfl, post_later (pa := _) hW' (fun _ _ _ => (trodAll_cons_mk (shut_bool Tryz.underlying4 _) trodAll_mk0)) (fun sp hsp => trodAll_later (by kernel_rfl) x sp (all_read (by rw [Tryz.params4]; kernel_rfl)) hAk (fun q hq => hW'.lt q hq) hsp) (fun _ _ => rfl) rfl
    ⟨x, rfl⟩ (ok_one (by kernel_rfl) rfl (okWide_bool_mk Tryz.underlying4 _))⟩

theorem over : Rows.scriptTellsRow.holds Tryz.pinned (OpenSpec.ofChange Rows.scriptTellsSpec) :=
  OpenClaim.holds_of_wide 4 Tryz.f4 rfl rfl rfl rfl rfl rfl rfl ⟨rfl, rfl, rfl, rfl, rfl⟩ rfl rfl rfl rfl rfl (by kernel_rfl) Tryz.func4 (by kernel_rfl)
    (of_decide_eq_true (by kernel_rfl)) (by unfold Func.isWrapper; first | (rw [if_pos (by decide +kernel)]; kernel_rfl) | (rw [if_neg (by decide +kernel)]; exact ⟨rfl, rfl⟩))
    (fun os started H enc _ => lifted os started H enc)

theorem row_holds : Rows.ScriptTellsSaid := over
theorem proved : Rows.ScriptTellsCardSaid :=
  Claim7.holds_tied_plain_at .later [] [.data, .data, .data, .data, .sentinel, .sentinel, .pinned] true Rows.scriptTellsCard.stood.harness true row_holds (fun _ h => by cases h) (by kernel_rfl) (fun _ h => by cases h) scriptTells_row_tie rfl ⟨rfl, rfl⟩ (by kernel_rfl) rfl
    (fun f fn hf hfn => by
      obtain rfl : f = 4 := Option.some.inj ((show Tryz.prog.funcNamed "ductus/ductuslaw08.ScriptTells" = some 4 by kernel_rfl).symm.trans hf) |>.symm
      obtain rfl : fn = Tryz.f4 := (Option.some.inj (Tryz.func4.symm.trans hfn)).symm
      exact ⟨by kernel_rfl, fun j t ht => by
        rw [Tryz.params4] at ht
        have hm : t ∈ [31, 9] := by simpa using Array.mem_of_getElem? ht
        have hall : ([31, 9].all fun u => !Tryz.prog.wantsStandIn u) = true := by kernel_rfl
        exact (show Tryz.prog.wantsStandIn t = false by simpa using List.all_eq_true.1 hall t hm)⟩)
    (by kernel_rfl)
#print axioms proved
end Go.Proofs.YtjmagehfkcnjjaaGreatDoor.scriptTells
