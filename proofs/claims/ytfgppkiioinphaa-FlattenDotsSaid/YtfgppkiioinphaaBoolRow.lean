/-
  An argument that is a truth value: opened.
-/
import Derived.Test.YtfgppkiioinphaaKB
namespace Go.Proofs.Ytfgppkiioinphaa
set_option linter.unusedVariables false
open Go.ChangeShapes Go.WideShapes Go.ChangeAt Go.RowKit Go.Joins Go.Deep

section
variable {H : Type} {enc : TypeId × Value → H} {P : Program}
theorem open_truth {W : World} {r : Reach} {b0 base : Nat} {sp : Nat → Bool} {hd : Bool} {t : TypeId} {v : Value} {d : DataW H} {ps : List MemPlace} (ht : P.underlying t = some .bool) (hval : Value.okWide P W r b0 t v) (h : DataW.Trod enc P W base sp hd t v d ps) :
    ∃ b, v = .bool b ∧ d = .lit (.bool b) ∧ ps = [] := by
  obtain ⟨n, rfl⟩ := okWide_bool ht hval
  obtain ⟨fuel, hf⟩ := h
  obtain ⟨b, h1, hx⟩ := DataW.trod_bool ht hf
  simp [Value.cells] at h1
  subst h1
  simp only [Prod.mk.injEq] at hx
  exact ⟨n, rfl, hx.1, hx.2⟩
end
end Go.Proofs.Ytfgppkiioinphaa
