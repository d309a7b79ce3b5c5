/-
  From a walk that keeps what lay in memory to the row of a law: the last step, and how an argument that is a struct of two numbers is opened and shut.
-/
import Derived.Test.YtjmagehfkcnjjaaGreatDoorRows
import Derived.Test.YtjmagehfkcnjjaaGreatDoorKA
import Derived.ProofKit
import Derived.OpenShut
import Derived.Lib.SmallJoins
namespace Go.Proofs.YtjmagehfkcnjjaaGreatDoor
set_option linter.unusedVariables false
open Go.ChangeShapes Go.WideShapes Go.ChangeAt Go.RowKit Go.Joins Go.Deep

theorem own : ownKnob Tryz.prog.godebug = none := by kernel_rfl

section
variable {H : Type} {enc : TypeId × Value → H} {P : Program}
/-- the row's last step: nothing that lay in memory has turned -/
theorem post_later {f : Func} {s : ChangeSpec} {apart fresh handsOn again : Bool} {W W' : World} {args : Array Value} {v : Value} {ds gs : List (DataW H)} {before pa : List MemPlace}
    (hW : DataW.Whole enc P f.params.toList s.vars apart W args.toList ds gs before)
    (hres : ∀ (b : Nat) (sp : Nat → Bool) (hd : Bool), DataW.TrodAll enc P W' b sp hd f.resultTypes.toList (v.resultList f.resultTypes.size) (s.fn H (ds ++ gs)).results [])
    (hargs : ∀ sp : Nat → Bool, (∀ p ∈ before, sp p.block = true) → DataW.TrodAll enc P W' 0 sp true f.params.toList args.toList (s.fn H (ds ++ gs)).args pa)
    (hvars : ∀ sp : Nat → Bool, (∀ p ∈ before, sp p.block = true) → DataW.TrodVars enc P W' sp s.vars (s.fn H (ds ++ gs)).vars [])
    (hps : before = pa) (hb : ∃ x : Later W, W' = x.out)
    (hok : ∀ (j : Nat) (t : TypeId) (r : Value), f.resultTypes[j]? = some t → (v.resultList f.resultTypes.size)[j]? = some r → Value.okWide P W' .any 0 t r) :
    s.post enc P f apart fresh handsOn again W args v W' := by
  obtain ⟨x, rfl⟩ := hb
  subst hps
  have old : ∀ p ∈ before, p.block < W.heap.size := fun p hp => hW.lt p hp
  have kept : W.keptBut x.out (fun p => p ∈ before ∧ (p ∈ ([] : List MemPlace) ∨ p ∈ before ++ [])) :=
    World.keptBut_mono (fun p hp => ⟨hp, .inr (by simpa using hp)⟩) (x.below.frame (· ∈ before))
  refine ⟨ds, gs, before, [], before, [], hW, hres _ _ _, hargs (fun b => decide (b < W.heap.size)) (fun p hp => by simpa using old p hp), hvars _ (fun p hp => by simpa using old p hp), World.keptBut_mono (fun p hp => ⟨hp.1, by simpa using hp.1⟩) kept, fun _ => ?_⟩
  obtain ⟨_, _, _, _, _, hz, hn⟩ := hW
  refine ⟨hok, _, _, ([] ++ before) ++ [], ⟨[] ++ before, [], trodAll_append (hargs _ (fun _ _ => rfl)) (hres _ _ _), hvars _ (fun _ _ => rfl), rfl, ?_, ?_⟩, ?_⟩
  · intro b off hp
    have hin : MemPlace.cell b off ∈ before := by simpa using hp
    rw [x.below.frozen (old _ hin)]
    exact hz b off hin
  · intro ha
    have := hn ha
    simpa using this
  · intro p hp _
    simpa using hp

/-- a struct of two numbers, by value: opened -/
theorem open_two {W : World} {r : Reach} {b0 base : Nat} {sp : Nat → Bool} {hd : Bool} {t : TypeId} {f0 f1 : Field} {k0 k1 : IntKind} {v : Value} {d : DataW H} {p : List MemPlace} (hs : P.underlying t = some (.struct #[f0, f1])) (hone : oneCellFields P #[f0, f1] = true) (hC : P.cellsOf t = 2)
    (h0 : P.underlying f0.type = some (.int k0)) (h1 : P.underlying f1.type = some (.int k1))
    (hv : Value.okWide P W r b0 t v) (h : DataW.Trod enc P W base sp hd t v d p) :
    ∃ a b : Int, v = .agg #[.int k0 a, .int k1 b] ∧ d = .agg [.lit (.int k0 a), .lit (.int k1 b)] ∧ p = [] ∧ (Lit.int k0 a).wf = true ∧ (Lit.int k1 b).wf = true := by
  obtain ⟨c0, c1, y0, y1, m, rfl, rfl, rfl, hy0, hy1⟩ := open_agg2 hs hone hC hv h
  obtain ⟨a, e0, rfl, wa⟩ := DataW.trod_int h0 hy0
  obtain ⟨b, e1, rfl, wb⟩ := DataW.trod_int h1 hy1
  simp at e0 e1
  subst e0 e1
  exact ⟨a, b, rfl, rfl, rfl, wa, wb⟩

theorem R64_of {n : Int} (h : (Lit.int .i64 n).wf = true) : R64 n := by have := bounds_i64 h; unfold R64; omega

/-- and shut -/
theorem shut_two {W : World} {base : Nat} {sp : Nat → Bool} {hd : Bool} {t : TypeId} {f0 f1 : Field} {k0 k1 : IntKind} {a b : Int} (hs : P.underlying t = some (.struct #[f0, f1])) (hone : oneCellFields P #[f0, f1] = true) (hC : P.cellsOf t = 2)
    (h0 : P.underlying f0.type = some (.int k0)) (h1 : P.underlying f1.type = some (.int k1)) (wa : (Lit.int k0 a).wf = true) (wb : (Lit.int k1 b).wf = true) :
    DataW.Trod enc P W base sp hd t (.agg #[.int k0 a, .int k1 b]) (.agg [.lit (.int k0 a), .lit (.int k1 b)]) [] :=
  shut_agg2 (y0 := (.lit (.int k0 a), [])) (y1 := (.lit (.int k1 b), [])) hs hone hC ⟨1, by simp [DataW.trod, h0, wa]⟩ ⟨1, by simp [DataW.trod, h1, wb]⟩
end
end Go.Proofs.YtjmagehfkcnjjaaGreatDoor
