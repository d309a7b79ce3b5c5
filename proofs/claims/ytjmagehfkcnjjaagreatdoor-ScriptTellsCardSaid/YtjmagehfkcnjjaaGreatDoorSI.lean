/-
  IndexAny, of a text of ASCII bytes.
-/
import Derived.Test.YtjmagehfkcnjjaaGreatDoorSX
namespace Go.Proofs.YtjmagehfkcnjjaaGreatDoor
set_option linter.unusedVariables false
open Go.RowKit

theorem blks_low : ∀ b ∈ blks, b.toNat < 128 := by decide
theorem iany_ascii (l : List UInt8) (hl : l.length ≤ 1100000) (h : ∀ b ∈ l, b.toNat < 128) : IAny l := fun k v hk =>
  (Tryz.strings_IndexAny_laid ⟨(l.drop k).toArray⟩ ⟨#[9, 10, 13, 32, 44]⟩ v (by rw [ba_size, List.length_drop]; omega) (by decide) (fun j b hb => h b (List.mem_of_mem_drop (List.mem_of_getElem? hb))) (fun j b hb => by
    exact blks_low b (List.mem_of_getElem? hb))).mono fun e w' hh => ⟨hh.1, Later.mk_of hh.2⟩
end Go.Proofs.YtjmagehfkcnjjaaGreatDoor
