/-
  The statement of ScriptAgain, for every input: its walk, and the row round it.
-/
import Derived.Test.YtjmagehfkcnjjaaGreatDoorSAW
import Derived.Test.YtjmagehfkcnjjaaGreatDoorShp
import Derived.Test.YtjmagehfkcnjjaaGreatDoorPtRow
import Derived.Test.YtjmagehfkcnjjaaGreatDoorLaid
import Derived.Test.YtjmagehfkcnjjaaGreatDoorCards
import Derived.Test.YtjmagehfkcnjjaaGreatDoorRow
import Derived.ProofKit
import Derived.OpenShut
namespace Go.Proofs.YtjmagehfkcnjjaaGreatDoor.scriptAgain
open Go.ChangeShapes Go.WideShapes Go.ChangeAt Go.RowKit Go.Joins
set_option linter.unusedVariables false

theorem walk (sv : Value) (l : List (Int × Int)) (W : World) (hp : PtsAt W sv l) (u : ∀ p ∈ l, (Lit.int .i64 p.1).wf = true ∧ (Lit.int .i64 p.2).wf = true) (hL : laidMetH Tryz.prog laidL W) (hmx : ∃ m, W.cell? ⟨2, 0, none⟩ = some (.int .i64 m)) :
    Calls Tryz.prog 7 #[sv] W fun e w' => e = .returned (.bool true) ∧ ∃ x : Later W, w' = x.out := by
  obtain ⟨mx, hm⟩ := hmx
  have hI : ∀ p ∈ l, I64 p.1 ∧ I64 p.2 := fun p hp => by
    have h1 := R64_of (u p hp).1
    have h2 := R64_of (u p hp).2
    unfold R64 at h1 h2
    unfold I64
    omega
  exact again_walk l sv mx W hp hI hm (tab_of hL)


set_option maxRecDepth 100000 in
theorem lifted (os : Os) (started : os.Started) (H : Type) (enc : TypeId × Value → H) :
    ReturnsInHanded {} Tryz.checked os 7 .any (fun w args => (Rows.scriptAgainSpec.pre enc Tryz.prog Tryz.f7 [] false w args ∧ laidMetH Tryz.prog laidL w) ∧ sizedMet enc Tryz.prog Tryz.f7 (OpenSpec.ofChange Rows.scriptAgainSpec) false w args) (Rows.scriptAgainSpec.post enc Tryz.prog Tryz.f7 false true false false) := by
  refine returns_and_shaped (C := Tryz.checked) (X := fun w _ => laidMetH Tryz.prog laidL w) (fun _ _ _ hh h => h.of_heap hh) own started (by kernel_rfl) Tryz.func7
    (ChangeSpec.witness_shaped (enc := enc) (C := Tryz.checked) (os := os) (X := fun w _ => laidMetH Tryz.prog laidL w) false (World.laidAll Tryz.prog os laidL) #[.slice none 0 0] 8 (World.laidAll_os _ _ _) (laid_shaped os) (by kernel_rfl) (by kernel_rfl) (by kernel_rfl) (laid_met os _)) ?_
  intro W base args ds gs before hval0 hW hcnd _ hL hsh _
  have hval : ∀ (j : Nat) t v, Tryz.f7.params[j]? = some t → args[j]? = some v → Value.okWide Tryz.prog W .any base t v := hval0
  have hW' := hW
  obtain ⟨p, q, hA0, hV, rfl, hfz, hnd⟩ := hW
  have hA : DataW.TrodAll enc Tryz.prog W 0 (fun _ => true) true Tryz.f7.params.toList args.toList ds p := hA0
  have hAk := hA
  rw [Tryz.params7] at hA hval
  obtain ⟨v0, vs0, d0, ds0, p0, q0, hargs, rfl, rfl, h0, r0⟩ := trodAll_cons hA
  obtain ⟨rfl, rfl, rfl⟩ := trodAll_nil r0
  obtain rfl : args = #[v0] := by cases args; simp_all
  obtain ⟨rfl, rfl⟩ := trodVars_none hV
  obtain ⟨l0, w0, u0⟩ := open_ptrow Tryz.underlying29 Tryz.underlying48 rfl rfl rfl rfl (by kernel_rfl) (by kernel_rfl) Tryz.underlying3 (hval 0 29 v0 rfl rfl) h0
  clear hA0 hval0
  rw [List.append_nil] at hW'
  refine (walk v0 l0 W w0 u0 hL (max_cell hsh)).mono fun e W' ⟨he, hg⟩ => ?_
  subst he
  obtain ⟨x, rfl⟩ := hg
  exact ⟨_, rfl, post_later (pa := _) hW' (fun _ _ _ => (trodAll_cons_mk (shut_bool Tryz.underlying4 _) trodAll_mk0)) (fun sp hsp => trodAll_later (by kernel_rfl) x sp (all_read (by rw [Tryz.params7]; kernel_rfl)) hAk (fun q hq => hW'.lt q hq) hsp) (fun _ _ => rfl) rfl
    ⟨x, rfl⟩ (ok_one (by kernel_rfl) rfl (okWide_bool_mk Tryz.underlying4 _))⟩

theorem over : Rows.scriptAgainRow.holds Tryz.pinned (OpenSpec.ofChange Rows.scriptAgainSpec) :=
  OpenClaim.holds_of_wide 7 Tryz.f7 rfl rfl rfl rfl rfl rfl rfl ⟨rfl, rfl, rfl, rfl, rfl⟩ rfl rfl rfl rfl rfl (by kernel_rfl) Tryz.func7 (by kernel_rfl)
    (of_decide_eq_true (by kernel_rfl)) (by unfold Func.isWrapper; first | (rw [if_pos (by decide +kernel)]; kernel_rfl) | (rw [if_neg (by decide +kernel)]; exact ⟨rfl, rfl⟩))
    (fun os started H enc _ => lifted os started H enc)

theorem row_holds : Rows.ScriptAgainSaid := over
theorem proved : Rows.ScriptAgainCardSaid :=
  Claim7.holds_tied_plain_at .later [] [.data, .data, .data, .data, .sentinel, .sentinel, .pinned] true Rows.scriptAgainCard.stood.harness true row_holds (fun _ h => by cases h) (by kernel_rfl) (fun _ h => by cases h) scriptAgain_row_tie rfl ⟨rfl, rfl⟩ (by kernel_rfl) rfl
    (fun f fn hf hfn => by
      obtain rfl : f = 7 := Option.some.inj ((show Tryz.prog.funcNamed "ductus/ductuslaw08.ScriptAgain" = some 7 by kernel_rfl).symm.trans hf) |>.symm
      obtain rfl : fn = Tryz.f7 := (Option.some.inj (Tryz.func7.symm.trans hfn)).symm
      exact ⟨by kernel_rfl, fun j t ht => by
        rw [Tryz.params7] at ht
        have hm : t ∈ [29] := by simpa using Array.mem_of_getElem? ht
        have hall : ([29].all fun u => !Tryz.prog.wantsStandIn u) = true := by kernel_rfl
        exact (show Tryz.prog.wantsStandIn t = false by simpa using List.all_eq_true.1 hall t hm)⟩)
    (by kernel_rfl)
#print axioms proved
end Go.Proofs.YtjmagehfkcnjjaaGreatDoor.scriptAgain
