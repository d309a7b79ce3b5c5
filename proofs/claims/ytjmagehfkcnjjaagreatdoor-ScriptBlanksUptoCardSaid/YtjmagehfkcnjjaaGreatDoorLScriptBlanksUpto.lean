/-
  The statement of ScriptBlanks, for every input of bulk up to 1048576: its walk, and the row round it.
-/
import Derived.Test.YtjmagehfkcnjjaaGreatDoorSNW
import Derived.Test.YtjmagehfkcnjjaaGreatDoorShp
import Derived.Test.YtjmagehfkcnjjaaGreatDoorPathRow
import Derived.Test.YtjmagehfkcnjjaaGreatDoorLaid
import Derived.Test.YtjmagehfkcnjjaaGreatDoorCards
import Derived.Test.YtjmagehfkcnjjaaGreatDoorRow
import Derived.ProofKit
import Derived.Deep.DeepHandedRow
import Derived.OpenShut
import Derived.ChangeMaps5
namespace Go.Proofs.YtjmagehfkcnjjaaGreatDoor.scriptBlanksUpto
open Go.ChangeShapes Go.WideShapes Go.ChangeAt Go.RowKit Go.Joins
set_option linter.unusedVariables false

theorem walk (S : ByteArray) (bv : Value) (l : List Int) (W : World) (hS : S.size ≤ 1048576) (hb : U8At W bv l) (u : ∀ p ∈ l, (Lit.int .u8 p).wf = true) (hL : laidMetH Tryz.prog laidL W) (hmx : ∃ m, W.cell? ⟨2, 0, none⟩ = some (.int .i64 m)) :
    Calls Tryz.prog 6 #[.string S, bv] W fun e w' => e = .returned (.bool true) ∧ ∃ x : Later W, w' = x.out := by
  obtain ⟨mx, hm⟩ := hmx
  exact blanks_walk S bv l mx W hS hb (fun p hp => bounds_u8 (u p hp)) hm (tab_of hL)


theorem reads (os : Os) {H : Type} (enc : TypeId × Value → H) : ∃ places, DataW.whole enc Tryz.prog ((World.laidAll Tryz.prog os laidL).forCall (fun _ _ => 0) ⟨#[], #[.string ⟨#[]⟩, .slice none 0 0], []⟩).memory Tryz.f6.params.toList Rows.scriptBlanksSpec.vars false #[Value.string ⟨#[]⟩, .slice none 0 0].toList 8 = some ([.lit (.string []), .nil], [], places) :=
  ⟨[], by kernel_rfl⟩
set_option maxRecDepth 100000 in
theorem lifted (os : Os) (started : os.Started) (H : Type) (enc : TypeId × Value → H) (F : Stop.Interp) :
    ReturnsInHanded {} Tryz.checked os 6 .any ((Rows.OpenSpec.upto Rows.scriptBlanksSpec).preRow enc Tryz.prog Tryz.f6 Rows.scriptBlanksUptoRow.domain false Rows.scriptBlanksUptoRow.laid) (((Rows.OpenSpec.upto Rows.scriptBlanksSpec).at F).post enc Tryz.prog Tryz.f6 false true false false) := by
  obtain ⟨places, hx⟩ := reads os enc
  have hok : Input.okWideB Tryz.prog ((World.laidAll Tryz.prog os laidL).forCall (fun _ _ => 0) ⟨#[], #[.string ⟨#[]⟩, .slice none 0 0], []⟩) 6 ⟨#[], #[.string ⟨#[]⟩, .slice none 0 0], []⟩ = true := by kernel_rfl
  refine returnsInHanded_of_row (C := Tryz.checked) (s := Rows.OpenSpec.upto Rows.scriptBlanksSpec) own started (by kernel_rfl) Tryz.func6
    ⟨World.laidAll Tryz.prog os laidL, fun _ _ => 0, ⟨#[], #[.string ⟨#[]⟩, .slice none 0 0], []⟩, World.laidAll_os _ _ _, laid_shaped os, (Input.okWide_of_okWideB (base := 0) hok).1, (Input.okWide_of_okWideB hok).2,
      OpenSpec.preRow_of_cond 8 hx (by kernel_rfl) (fun k hk => by cases hk; kernel_rfl) (by kernel_rfl) (laid_met os _), by
        simp only [Assume.holds]
        exact ⟨by simp, by simp, fun _ => Modest.zero, by simp, by simp⟩⟩ ?_
  intro W base args ds gs before hval0 hW hcnd hcond _ hL hsh _
  have hval : ∀ (j : Nat) t v, Tryz.f6.params[j]? = some t → args[j]? = some v → Value.okWide Tryz.prog W .any base t v := hval0
  have hW' := hW
  obtain ⟨p, q, hA0, hV, rfl, hfz, hnd⟩ := hW
  have hA : DataW.TrodAll enc Tryz.prog W 0 (fun _ => true) true Tryz.f6.params.toList args.toList ds p := hA0
  have hAk := hA
  rw [Tryz.params6] at hA hval
  obtain ⟨v0, vs0, d0, ds0, p0, q0, hargs, rfl, rfl, h0, r0⟩ := trodAll_cons hA
  obtain ⟨v1, vs1, d1, ds1, p1, q1, rfl, rfl, rfl, h1, r1⟩ := trodAll_cons r0
  obtain ⟨rfl, rfl, rfl⟩ := trodAll_nil r1
  obtain rfl : args = #[v0, v1] := by cases args; simp_all
  obtain ⟨rfl, rfl⟩ := trodVars_none hV
  obtain ⟨a0, rfl, hd0, _, w0⟩ := Go.ChangeMaps.open_string Tryz.underlying9 (hval 0 9 v0 rfl rfl) h0
  have hsm : a0.size ≤ 1048576 := by
    have h := of_decide_eq_true (hcond _ rfl)
    rw [hd0] at h
    simp only [List.cons_append, Rows.uptoBulkAll, Rows.uptoBulk] at h
    have hl : a0.data.toList.length = a0.size := by rw [Array.length_toList]; rfl
    omega
  obtain ⟨l1, w1, u1⟩ := open_u8row Tryz.underlying43 (by kernel_rfl) Tryz.underlying5 (hval 1 43 v1 rfl rfl) h1
  clear hA0 hval0
  rw [List.append_nil] at hW'
  refine (walk a0 v1 l1 W hsm w1 u1 hL (max_cell hsh)).mono fun e W' ⟨he, hg⟩ => ?_
  subst he
  obtain ⟨x, rfl⟩ := hg
  exact ⟨_, rfl, post_later (pa := _) hW' (fun _ _ _ => (trodAll_cons_mk (shut_bool Tryz.underlying4 _) trodAll_mk0)) (fun sp hsp => trodAll_later (by kernel_rfl) x sp (all_read (by rw [Tryz.params6]; kernel_rfl)) hAk (fun q hq => hW'.lt q hq) hsp) (fun _ _ => rfl) rfl
    ⟨x, rfl⟩ (ok_one (by kernel_rfl) rfl (okWide_bool_mk Tryz.underlying4 _))⟩

theorem over : Rows.scriptBlanksUptoRow.holds Tryz.pinned (Rows.OpenSpec.upto Rows.scriptBlanksSpec) :=
  OpenClaim.holds_of_cond 6 Tryz.f6 rfl rfl rfl rfl rfl rfl rfl ⟨rfl, rfl, rfl, rfl, rfl⟩ rfl rfl rfl rfl rfl (by kernel_rfl) Tryz.func6 (by kernel_rfl)
    (of_decide_eq_true (by kernel_rfl)) (by unfold Func.isWrapper; first | (rw [if_pos (by decide +kernel)]; kernel_rfl) | (rw [if_neg (by decide +kernel)]; exact ⟨rfl, rfl⟩))
    (fun os started H enc _ F => by rw [OpenClaim.pre_eq_preRow]; exact lifted os started H enc F)

theorem row_holds : Rows.ScriptBlanksUptoSaid := over
theorem proved : Rows.ScriptBlanksUptoCardSaid :=
  Claim7.holds_tied_plain_at .later [] [.data, .data, .data, .data, .sentinel, .sentinel, .pinned] true Rows.scriptBlanksUptoCard.stood.harness true row_holds (fun _ h => by cases h) (by kernel_rfl) (fun _ h => by cases h) scriptBlanksUpto_row_tie rfl ⟨rfl, rfl⟩ (by kernel_rfl) rfl
    (fun f fn hf hfn => by
      obtain rfl : f = 6 := Option.some.inj ((show Tryz.prog.funcNamed "ductus/ductuslaw08.ScriptBlanks" = some 6 by kernel_rfl).symm.trans hf) |>.symm
      obtain rfl : fn = Tryz.f6 := (Option.some.inj (Tryz.func6.symm.trans hfn)).symm
      exact ⟨by kernel_rfl, fun j t ht => by
        rw [Tryz.params6] at ht
        have hm : t ∈ [9, 43] := by simpa using Array.mem_of_getElem? ht
        have hall : ([9, 43].all fun u => !Tryz.prog.wantsStandIn u) = true := by kernel_rfl
        exact (show Tryz.prog.wantsStandIn t = false by simpa using List.all_eq_true.1 hall t hm)⟩)
    (by kernel_rfl)
#print axioms proved
end Go.Proofs.YtjmagehfkcnjjaaGreatDoor.scriptBlanksUpto
