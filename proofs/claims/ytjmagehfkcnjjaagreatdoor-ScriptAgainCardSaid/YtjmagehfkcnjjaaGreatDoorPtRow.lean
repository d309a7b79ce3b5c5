/-
  An argument that is a slice of points: opened.
-/
import Derived.Test.YtjmagehfkcnjjaaGreatDoorChainRow
namespace Go.Proofs.YtjmagehfkcnjjaaGreatDoor
set_option linter.unusedVariables false
open Go.ChangeShapes Go.WideShapes Go.ChangeAt Go.RowKit Go.Joins Go.Deep
theorem open_ptrow {H : Type} {enc : TypeId × Value → H} {P : Program} {W : World} {r : Reach} {b0 : Nat} {hd : Bool} {ts tp ti : TypeId} {g0 g1 : Field} {v : Value} {d : DataW H} {ps : List MemPlace} (ht : P.underlying ts = some (.slice tp))
    (hp : P.underlying tp = some (.struct #[g0, g1])) (o0 : g0.offset = 0) (o1 : g1.offset = 1) (t0 : g0.type = ti) (t1 : g1.type = ti) (ci : P.cellsOf ti = 1) (c2 : P.cellsOf tp = 2) (hi : P.underlying ti = some (.int .i64))
    (hv : Value.okWide P W r b0 ts v) (h : DataW.Trod enc P W 0 (fun _ => true) hd ts v d ps) :
    ∃ pts, PtsAt W v pts ∧ ∀ p ∈ pts, (Lit.int .i64 p.1).wf = true ∧ (Lit.int .i64 p.2).wf = true := by
  obtain ⟨a, len, cap, rfl⟩ := okWide_slice ht hv
  obtain ⟨fuel, hf⟩ := h
  exact open_pts ht hp o0 o1 t0 t1 ci c2 hi hf
end Go.Proofs.YtjmagehfkcnjjaaGreatDoor
