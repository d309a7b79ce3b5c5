/-
  DERIVED. GIVEN WITH THE SEED: THE CARDS: each row of YtjmagehfkcnjjaaDoorRows.lean that lists a variable, with what it lists TIED to the program's text (the seventh form; the later family's looks); each row that meets fmt, with fmt's text TOLD by the authors' own Lean function (tested against real Go, not proved from fmt's source: count such statements apart). THE CARD IS WHAT COUNTS. Prove the row's statement (the work); the ties are given (YtjmagehfkcnjjaaDoorTie.lean); close each card by the builder's one call (the guide's Derived/Test/ToyasCard.lean, 'card_holds'). Laid BY PROGRAM, IN A SANDBOX (cutbox-door.mjs). By AI agents, Wed Nov 11 2026. No macro, syntax, notation, axiom, sorry.
-/
import Derived.Test.YtjmagehfkcnjjaaDoorRows
import GoSem.ClaimSeven
namespace Go.Proofs.YtjmagehfkcnjjaaDoor
namespace Rows

/-- THE TIED CARD OF 'ductuslaw03.FixText'. -/
def fixTextCard : Claim7 := { stood := { row := fixTextRow, standIns := [], harness := (true, "53256e3b2bf931826a6d26fd8e58d6b61f319de72664e5b6d481bfda8fda3b3c"), looks := true }, kinds := [], alts := [], laidByText := true, laidKinds := [.data, .data, .data, .data, .sentinel, .sentinel, .pinned], laidTests := true, laidLooks := .later }
def FixTextCardSaid : Prop := Claim7.holds Tryd.pinned (.plain (OpenSpec.ofChange fixTextSpec)) fixTextCard

/-- THE TIED CARD OF 'ductuslaw03.FixBack'. -/
def fixBackCard : Claim7 := { stood := { row := fixBackRow, standIns := [], harness := (true, "53256e3b2bf931826a6d26fd8e58d6b61f319de72664e5b6d481bfda8fda3b3c"), looks := true }, kinds := [], alts := [], laidByText := true, laidKinds := [.data, .data, .data, .data, .sentinel, .sentinel, .pinned], laidTests := true, laidLooks := .later }
def FixBackCardSaid : Prop := Claim7.holds Tryd.pinned (.plain (OpenSpec.ofChange fixBackSpec)) fixBackCard

/-- THE TIED CARD OF 'ductuslaw03.FixDigits'. -/
def fixDigitsCard : Claim7 := { stood := { row := fixDigitsRow, standIns := [], harness := (true, "53256e3b2bf931826a6d26fd8e58d6b61f319de72664e5b6d481bfda8fda3b3c"), looks := true }, kinds := [], alts := [], laidByText := true, laidKinds := [.data, .data, .data, .data, .sentinel, .sentinel, .pinned], laidTests := true, laidLooks := .later }
def FixDigitsCardSaid : Prop := Claim7.holds Tryd.pinned (.plain (OpenSpec.ofChange fixDigitsSpec)) fixDigitsCard

/-- THE TIED CARD OF 'ductuslaw03.FixNear'. -/
def fixNearCard : Claim7 := { stood := { row := fixNearRow, standIns := [], harness := (true, "53256e3b2bf931826a6d26fd8e58d6b61f319de72664e5b6d481bfda8fda3b3c"), looks := true }, kinds := [], alts := [], laidByText := true, laidKinds := [.data, .data, .data, .data, .sentinel, .sentinel, .pinned], laidTests := true, laidLooks := .later }
def FixNearCardSaid : Prop := Claim7.holds Tryd.pinned (.plain (OpenSpec.ofChange fixNearSpec)) fixNearCard

/-- THE TIED CARD OF 'ductuslaw03.FixScales'. -/
def fixScalesCard : Claim7 := { stood := { row := fixScalesRow, standIns := [], harness := (true, "53256e3b2bf931826a6d26fd8e58d6b61f319de72664e5b6d481bfda8fda3b3c"), looks := true }, kinds := [], alts := [], laidByText := true, laidKinds := [.data, .data, .data, .data, .sentinel, .sentinel, .pinned], laidTests := true, laidLooks := .later }
def FixScalesCardSaid : Prop := Claim7.holds Tryd.pinned (.plain (OpenSpec.ofChange fixScalesSpec)) fixScalesCard

/-- THE TIED CARD OF 'ductuslaw08.ScriptPlace'. -/
def scriptPlaceCard : Claim7 := { stood := { row := scriptPlaceRow, standIns := [], harness := (true, "53256e3b2bf931826a6d26fd8e58d6b61f319de72664e5b6d481bfda8fda3b3c"), looks := true }, kinds := [], alts := [], laidByText := true, laidKinds := [.data, .data, .data, .data, .sentinel, .sentinel, .pinned], laidTests := true, laidLooks := .later }
def ScriptPlaceCardSaid : Prop := Claim7.holds Tryd.pinned (.plain (OpenSpec.ofChange scriptPlaceSpec)) scriptPlaceCard

/-- THE SECOND FORM's CARD OF 'ductuslaw03.FixText'. -/
def fixTextUptoCard : Claim7 := { stood := { row := fixTextUptoRow, standIns := [], harness := (true, "53256e3b2bf931826a6d26fd8e58d6b61f319de72664e5b6d481bfda8fda3b3c"), looks := true }, kinds := [], alts := [], laidByText := true, laidKinds := [.data, .data, .data, .data, .sentinel, .sentinel, .pinned], laidTests := true, laidLooks := .later }
def FixTextUptoCardSaid : Prop := Claim7.holds Tryd.pinned (.plain (OpenSpec.upto fixTextSpec)) fixTextUptoCard

/-- THE SECOND FORM's CARD OF 'ductuslaw03.FixBack'. -/
def fixBackUptoCard : Claim7 := { stood := { row := fixBackUptoRow, standIns := [], harness := (true, "53256e3b2bf931826a6d26fd8e58d6b61f319de72664e5b6d481bfda8fda3b3c"), looks := true }, kinds := [], alts := [], laidByText := true, laidKinds := [.data, .data, .data, .data, .sentinel, .sentinel, .pinned], laidTests := true, laidLooks := .later }
def FixBackUptoCardSaid : Prop := Claim7.holds Tryd.pinned (.plain (OpenSpec.upto fixBackSpec)) fixBackUptoCard

/-- THE SECOND FORM's CARD OF 'ductuslaw03.FixDigits'. -/
def fixDigitsUptoCard : Claim7 := { stood := { row := fixDigitsUptoRow, standIns := [], harness := (true, "53256e3b2bf931826a6d26fd8e58d6b61f319de72664e5b6d481bfda8fda3b3c"), looks := true }, kinds := [], alts := [], laidByText := true, laidKinds := [.data, .data, .data, .data, .sentinel, .sentinel, .pinned], laidTests := true, laidLooks := .later }
def FixDigitsUptoCardSaid : Prop := Claim7.holds Tryd.pinned (.plain (OpenSpec.upto fixDigitsSpec)) fixDigitsUptoCard

/-- THE SECOND FORM's CARD OF 'ductuslaw03.FixNear'. -/
def fixNearUptoCard : Claim7 := { stood := { row := fixNearUptoRow, standIns := [], harness := (true, "53256e3b2bf931826a6d26fd8e58d6b61f319de72664e5b6d481bfda8fda3b3c"), looks := true }, kinds := [], alts := [], laidByText := true, laidKinds := [.data, .data, .data, .data, .sentinel, .sentinel, .pinned], laidTests := true, laidLooks := .later }
def FixNearUptoCardSaid : Prop := Claim7.holds Tryd.pinned (.plain (OpenSpec.upto fixNearSpec)) fixNearUptoCard

/-- THE SECOND FORM's CARD OF 'ductuslaw03.FixScales'. -/
def fixScalesUptoCard : Claim7 := { stood := { row := fixScalesUptoRow, standIns := [], harness := (true, "53256e3b2bf931826a6d26fd8e58d6b61f319de72664e5b6d481bfda8fda3b3c"), looks := true }, kinds := [], alts := [], laidByText := true, laidKinds := [.data, .data, .data, .data, .sentinel, .sentinel, .pinned], laidTests := true, laidLooks := .later }
def FixScalesUptoCardSaid : Prop := Claim7.holds Tryd.pinned (.plain (OpenSpec.upto fixScalesSpec)) fixScalesUptoCard

/-- THE SECOND FORM's CARD OF 'ductuslaw08.ScriptPlace'. -/
def scriptPlaceUptoCard : Claim7 := { stood := { row := scriptPlaceUptoRow, standIns := [], harness := (true, "53256e3b2bf931826a6d26fd8e58d6b61f319de72664e5b6d481bfda8fda3b3c"), looks := true }, kinds := [], alts := [], laidByText := true, laidKinds := [.data, .data, .data, .data, .sentinel, .sentinel, .pinned], laidTests := true, laidLooks := .later }
def ScriptPlaceUptoCardSaid : Prop := Claim7.holds Tryd.pinned (.plain (OpenSpec.upto scriptPlaceSpec)) scriptPlaceUptoCard
end Rows
end Go.Proofs.YtjmagehfkcnjjaaDoor
