/-
  No cell of these rows narrows 'for every input' (looked for: loops, veiled, ifaces, maps, wideKeys, modest, calm, conditions, laid).
  DERIVED. THE GIVEN ROWS OF THIS SEAT. 7 by the template 'for every input the law returns true; each argument reads behind the call as it read before'; 0 by the template 'total and deterministic' (their statements: YtfgppkiioinphaaTotals.lean).
  GIVEN WITH THE SEED: the statements are not yours to turn. If you find one false, say at which input.
  Laid BY PROGRAM, IN A SANDBOX (cutbox-rows.mjs): the forced cells as the released guide's own fill.sh prints them over the translation bddb14834c5567be… (all of the seat's roots in one cut). By AI agents, Wed Nov 11 2026. No macro, syntax, notation, axiom, sorry.
-/
import Derived.Test.YtfgppkiioinphaaChecked
import GoSem.Claim
import GoSem.ClaimJoined
import GoSem.ClaimMapViews
import Derived.JoinedTies
import Derived.KernelRfl
namespace Go.Proofs.Ytfgppkiioinphaa
/- THE CELL 'sum', in the pinned program and in every row, IS THE sha256 OF THE DUMP (.gsa) THAT YtfgppkiioinphaaProg.lean LOADS. Nothing in Lean hashes anything: it is a label: what it is worth is what the hold of that sum in a sandbox is worth. -/
noncomputable def Try.pinned : Pinned := { name := "ytfgppkiioinphaa", sum := "bddb14834c5567be87cd9e64fd6403cf74ebd7fff7b8a6df9d9a487e40833aff", checked := Try.checked }
namespace Rows
def none {H : Type} : Left H := { results := [], args := [] }

/-- 'ductuslaw10.FlattenPoints': WHATEVER THE INPUT: true; the input reads as it did. -/
def flattenPointsSpec : ChangeSpec := { name := "flattenPoints", fn := fun _ => fun
  | [d1, d2] => { results := [.lit (.bool true)], args := [d1, d2] }
  | _ => none }
def flattenPointsRow : OpenClaim := { program := "ytfgppkiioinphaa", sum := "bddb14834c5567be87cd9e64fd6403cf74ebd7fff7b8a6df9d9a487e40833aff", func := "ductus/ductuslaw10.FlattenPoints", spec := "flattenPoints", inPlace := ["math/bits.Sub64", "math/bits.Add64"], unfollowed := true, recurses := true, named := ["math/bits.divideError", "math/bits.overflowError"], apart := false }
def FlattenPointsSaid : Prop := flattenPointsRow.holds Try.pinned (OpenSpec.ofChange flattenPointsSpec)

/-- ITS FALSE NEIGHBOUR: 'it returns false'. Refute it at one input. -/
def flattenPointsWrong : ChangeSpec := { name := "flattenPoints", fn := fun _ => fun
  | [d1, d2] => { results := [.lit (.bool false)], args := [d1, d2] }
  | _ => none }
def FlattenPointsWrongFalsely : Prop := flattenPointsRow.holds Try.pinned (OpenSpec.ofChange flattenPointsWrong)

/-- 'ductuslaw10.FlattenShifts': WHATEVER THE INPUT: true; the input reads as it did. -/
def flattenShiftsSpec : ChangeSpec := { name := "flattenShifts", fn := fun _ => fun
  | [d1, d2, d3] => { results := [.lit (.bool true)], args := [d1, d2, d3] }
  | _ => none }
def flattenShiftsRow : OpenClaim := { program := "ytfgppkiioinphaa", sum := "bddb14834c5567be87cd9e64fd6403cf74ebd7fff7b8a6df9d9a487e40833aff", func := "ductus/ductuslaw10.FlattenShifts", spec := "flattenShifts", inPlace := ["math/bits.Sub64", "math/bits.Add64"], unfollowed := true, recurses := true, named := ["math/bits.divideError", "math/bits.overflowError"], apart := false }
def FlattenShiftsSaid : Prop := flattenShiftsRow.holds Try.pinned (OpenSpec.ofChange flattenShiftsSpec)

/-- ITS FALSE NEIGHBOUR: 'it returns false'. Refute it at one input. -/
def flattenShiftsWrong : ChangeSpec := { name := "flattenShifts", fn := fun _ => fun
  | [d1, d2, d3] => { results := [.lit (.bool false)], args := [d1, d2, d3] }
  | _ => none }
def FlattenShiftsWrongFalsely : Prop := flattenShiftsRow.holds Try.pinned (OpenSpec.ofChange flattenShiftsWrong)

/-- 'ductuslaw10.FlattenLines': WHATEVER THE INPUT: true; the input reads as it did. -/
def flattenLinesSpec : ChangeSpec := { name := "flattenLines", fn := fun _ => fun
  | [d1, d2, d3] => { results := [.lit (.bool true)], args := [d1, d2, d3] }
  | _ => none }
def flattenLinesRow : OpenClaim := { program := "ytfgppkiioinphaa", sum := "bddb14834c5567be87cd9e64fd6403cf74ebd7fff7b8a6df9d9a487e40833aff", func := "ductus/ductuslaw10.FlattenLines", spec := "flattenLines", inPlace := ["math/bits.Sub64", "math/bits.Add64"], unfollowed := true, recurses := true, named := ["math/bits.divideError", "math/bits.overflowError"], apart := false }
def FlattenLinesSaid : Prop := flattenLinesRow.holds Try.pinned (OpenSpec.ofChange flattenLinesSpec)

/-- ITS FALSE NEIGHBOUR: 'it returns false'. Refute it at one input. -/
def flattenLinesWrong : ChangeSpec := { name := "flattenLines", fn := fun _ => fun
  | [d1, d2, d3] => { results := [.lit (.bool false)], args := [d1, d2, d3] }
  | _ => none }
def FlattenLinesWrongFalsely : Prop := flattenLinesRow.holds Try.pinned (OpenSpec.ofChange flattenLinesWrong)

/-- 'ductuslaw10.FlattenFiner': WHATEVER THE INPUT: true; the input reads as it did. -/
def flattenFinerSpec : ChangeSpec := { name := "flattenFiner", fn := fun _ => fun
  | [d1, d2, d3] => { results := [.lit (.bool true)], args := [d1, d2, d3] }
  | _ => none }
def flattenFinerRow : OpenClaim := { program := "ytfgppkiioinphaa", sum := "bddb14834c5567be87cd9e64fd6403cf74ebd7fff7b8a6df9d9a487e40833aff", func := "ductus/ductuslaw10.FlattenFiner", spec := "flattenFiner", inPlace := ["math/bits.Sub64", "math/bits.Add64"], unfollowed := true, recurses := true, named := ["math/bits.divideError", "math/bits.overflowError"], apart := false }
def FlattenFinerSaid : Prop := flattenFinerRow.holds Try.pinned (OpenSpec.ofChange flattenFinerSpec)

/-- ITS FALSE NEIGHBOUR: 'it returns false'. Refute it at one input. -/
def flattenFinerWrong : ChangeSpec := { name := "flattenFiner", fn := fun _ => fun
  | [d1, d2, d3] => { results := [.lit (.bool false)], args := [d1, d2, d3] }
  | _ => none }
def FlattenFinerWrongFalsely : Prop := flattenFinerRow.holds Try.pinned (OpenSpec.ofChange flattenFinerWrong)

/-- 'ductuslaw10.FlattenDots': WHATEVER THE INPUT: true; the input reads as it did. -/
def flattenDotsSpec : ChangeSpec := { name := "flattenDots", fn := fun _ => fun
  | [d1, d2, d3] => { results := [.lit (.bool true)], args := [d1, d2, d3] }
  | _ => none }
def flattenDotsRow : OpenClaim := { program := "ytfgppkiioinphaa", sum := "bddb14834c5567be87cd9e64fd6403cf74ebd7fff7b8a6df9d9a487e40833aff", func := "ductus/ductuslaw10.FlattenDots", spec := "flattenDots", inPlace := ["math/bits.Sub64", "math/bits.Add64"], unfollowed := true, recurses := true, named := ["math/bits.divideError", "math/bits.overflowError"], apart := false }
def FlattenDotsSaid : Prop := flattenDotsRow.holds Try.pinned (OpenSpec.ofChange flattenDotsSpec)

/-- ITS FALSE NEIGHBOUR: 'it returns false'. Refute it at one input. -/
def flattenDotsWrong : ChangeSpec := { name := "flattenDots", fn := fun _ => fun
  | [d1, d2, d3] => { results := [.lit (.bool false)], args := [d1, d2, d3] }
  | _ => none }
def FlattenDotsWrongFalsely : Prop := flattenDotsRow.holds Try.pinned (OpenSpec.ofChange flattenDotsWrong)

/-- 'ductuslaw10.FlattenChains': WHATEVER THE INPUT: true; the input reads as it did. -/
def flattenChainsSpec : ChangeSpec := { name := "flattenChains", fn := fun _ => fun
  | [d1, d2] => { results := [.lit (.bool true)], args := [d1, d2] }
  | _ => none }
def flattenChainsRow : OpenClaim := { program := "ytfgppkiioinphaa", sum := "bddb14834c5567be87cd9e64fd6403cf74ebd7fff7b8a6df9d9a487e40833aff", func := "ductus/ductuslaw10.FlattenChains", spec := "flattenChains", inPlace := ["math/bits.Sub64", "math/bits.Add64"], unfollowed := true, recurses := true, named := ["math/bits.divideError", "math/bits.overflowError"], apart := false }
def FlattenChainsSaid : Prop := flattenChainsRow.holds Try.pinned (OpenSpec.ofChange flattenChainsSpec)

/-- ITS FALSE NEIGHBOUR: 'it returns false'. Refute it at one input. -/
def flattenChainsWrong : ChangeSpec := { name := "flattenChains", fn := fun _ => fun
  | [d1, d2] => { results := [.lit (.bool false)], args := [d1, d2] }
  | _ => none }
def FlattenChainsWrongFalsely : Prop := flattenChainsRow.holds Try.pinned (OpenSpec.ofChange flattenChainsWrong)

/-- 'ductuslaw10.FlattenAll': WHATEVER THE INPUT: true; the input reads as it did. -/
def flattenAllSpec : ChangeSpec := { name := "flattenAll", fn := fun _ => fun
  | [d1, d2] => { results := [.lit (.bool true)], args := [d1, d2] }
  | _ => none }
def flattenAllRow : OpenClaim := { program := "ytfgppkiioinphaa", sum := "bddb14834c5567be87cd9e64fd6403cf74ebd7fff7b8a6df9d9a487e40833aff", func := "ductus/ductuslaw10.FlattenAll", spec := "flattenAll", inPlace := ["math/bits.Sub64", "math/bits.Add64"], unfollowed := true, recurses := true, named := ["math/bits.divideError", "math/bits.overflowError"], apart := false }
def FlattenAllSaid : Prop := flattenAllRow.holds Try.pinned (OpenSpec.ofChange flattenAllSpec)

/-- ITS FALSE NEIGHBOUR: 'it returns false'. Refute it at one input. -/
def flattenAllWrong : ChangeSpec := { name := "flattenAll", fn := fun _ => fun
  | [d1, d2] => { results := [.lit (.bool false)], args := [d1, d2] }
  | _ => none }
def FlattenAllWrongFalsely : Prop := flattenAllRow.holds Try.pinned (OpenSpec.ofChange flattenAllWrong)

/- THE SECOND FORM. 'bulk': how many values and letters a reading holds, each counted each time it is reached (what is shared counts as often as it is met; a slice's spare places count too). A statement '..UptoSaid' is the law's where the arguments, and the package variables that the reading takes, are together of bulk at most 1048576: NARROWER than '..Said'. Prove '..Said' where nothing that the law and all that it calls make is longer than what came in: it says more and counts as full. Else prove '..UptoSaid'. A law counts once. -/
mutual
def uptoBulk {H : Type} : DataW H → Nat
  | .lit (.string bytes) => bytes.length + 1
  | .lit _ => 1
  | .nil => 1
  | .ptr d => uptoBulk d + 1
  | .slice elems spare => uptoBulkAll elems + uptoBulkAll spare + 1
  | .agg parts => uptoBulkAll parts + 1
  | .iface _ d => uptoBulk d + 1
  | .map entries => uptoBulkEntries entries + 1
  | .held _ => 1
def uptoBulkAll {H : Type} : List (DataW H) → Nat
  | [] => 0
  | d :: r => uptoBulk d + uptoBulkAll r
def uptoBulkEntries {H : Type} : List (Lit × DataW H) → Nat
  | [] => 0
  | x :: r => uptoBulkEntry x + uptoBulkEntries r
def uptoBulkEntry {H : Type} : Lit × DataW H → Nat
  | (.string bytes, d) => bytes.length + uptoBulk d + 1
  | (_, d) => uptoBulk d + 1
 end
def uptoSmall : (H : Type) → List (DataW H) → Bool := fun _ ds => decide (uptoBulkAll ds ≤ 1048576)
def OpenSpec.upto (s : _root_.Go.ChangeSpec) : _root_.Go.OpenSpec := { _root_.Go.OpenSpec.ofChange s with cond := some uptoSmall }

/-- 'ductuslaw10.FlattenPoints', WHERE WHAT IT READS IS OF BULK AT MOST 1048576: true; the input reads as it did. -/
def flattenPointsUptoRow : OpenClaim := { program := "ytfgppkiioinphaa", sum := "bddb14834c5567be87cd9e64fd6403cf74ebd7fff7b8a6df9d9a487e40833aff", func := "ductus/ductuslaw10.FlattenPoints", spec := "flattenPoints", inPlace := ["math/bits.Sub64", "math/bits.Add64"], unfollowed := true, recurses := true, named := ["math/bits.divideError", "math/bits.overflowError"], apart := false, narrowed := true }
def FlattenPointsUptoSaid : Prop := flattenPointsUptoRow.holds Try.pinned (OpenSpec.upto flattenPointsSpec)

/-- 'ductuslaw10.FlattenShifts', WHERE WHAT IT READS IS OF BULK AT MOST 1048576: true; the input reads as it did. -/
def flattenShiftsUptoRow : OpenClaim := { program := "ytfgppkiioinphaa", sum := "bddb14834c5567be87cd9e64fd6403cf74ebd7fff7b8a6df9d9a487e40833aff", func := "ductus/ductuslaw10.FlattenShifts", spec := "flattenShifts", inPlace := ["math/bits.Sub64", "math/bits.Add64"], unfollowed := true, recurses := true, named := ["math/bits.divideError", "math/bits.overflowError"], apart := false, narrowed := true }
def FlattenShiftsUptoSaid : Prop := flattenShiftsUptoRow.holds Try.pinned (OpenSpec.upto flattenShiftsSpec)

/-- 'ductuslaw10.FlattenLines', WHERE WHAT IT READS IS OF BULK AT MOST 1048576: true; the input reads as it did. -/
def flattenLinesUptoRow : OpenClaim := { program := "ytfgppkiioinphaa", sum := "bddb14834c5567be87cd9e64fd6403cf74ebd7fff7b8a6df9d9a487e40833aff", func := "ductus/ductuslaw10.FlattenLines", spec := "flattenLines", inPlace := ["math/bits.Sub64", "math/bits.Add64"], unfollowed := true, recurses := true, named := ["math/bits.divideError", "math/bits.overflowError"], apart := false, narrowed := true }
def FlattenLinesUptoSaid : Prop := flattenLinesUptoRow.holds Try.pinned (OpenSpec.upto flattenLinesSpec)

/-- 'ductuslaw10.FlattenFiner', WHERE WHAT IT READS IS OF BULK AT MOST 1048576: true; the input reads as it did. -/
def flattenFinerUptoRow : OpenClaim := { program := "ytfgppkiioinphaa", sum := "bddb14834c5567be87cd9e64fd6403cf74ebd7fff7b8a6df9d9a487e40833aff", func := "ductus/ductuslaw10.FlattenFiner", spec := "flattenFiner", inPlace := ["math/bits.Sub64", "math/bits.Add64"], unfollowed := true, recurses := true, named := ["math/bits.divideError", "math/bits.overflowError"], apart := false, narrowed := true }
def FlattenFinerUptoSaid : Prop := flattenFinerUptoRow.holds Try.pinned (OpenSpec.upto flattenFinerSpec)

/-- 'ductuslaw10.FlattenDots', WHERE WHAT IT READS IS OF BULK AT MOST 1048576: true; the input reads as it did. -/
def flattenDotsUptoRow : OpenClaim := { program := "ytfgppkiioinphaa", sum := "bddb14834c5567be87cd9e64fd6403cf74ebd7fff7b8a6df9d9a487e40833aff", func := "ductus/ductuslaw10.FlattenDots", spec := "flattenDots", inPlace := ["math/bits.Sub64", "math/bits.Add64"], unfollowed := true, recurses := true, named := ["math/bits.divideError", "math/bits.overflowError"], apart := false, narrowed := true }
def FlattenDotsUptoSaid : Prop := flattenDotsUptoRow.holds Try.pinned (OpenSpec.upto flattenDotsSpec)

/-- 'ductuslaw10.FlattenChains', WHERE WHAT IT READS IS OF BULK AT MOST 1048576: true; the input reads as it did. -/
def flattenChainsUptoRow : OpenClaim := { program := "ytfgppkiioinphaa", sum := "bddb14834c5567be87cd9e64fd6403cf74ebd7fff7b8a6df9d9a487e40833aff", func := "ductus/ductuslaw10.FlattenChains", spec := "flattenChains", inPlace := ["math/bits.Sub64", "math/bits.Add64"], unfollowed := true, recurses := true, named := ["math/bits.divideError", "math/bits.overflowError"], apart := false, narrowed := true }
def FlattenChainsUptoSaid : Prop := flattenChainsUptoRow.holds Try.pinned (OpenSpec.upto flattenChainsSpec)

/-- 'ductuslaw10.FlattenAll', WHERE WHAT IT READS IS OF BULK AT MOST 1048576: true; the input reads as it did. -/
def flattenAllUptoRow : OpenClaim := { program := "ytfgppkiioinphaa", sum := "bddb14834c5567be87cd9e64fd6403cf74ebd7fff7b8a6df9d9a487e40833aff", func := "ductus/ductuslaw10.FlattenAll", spec := "flattenAll", inPlace := ["math/bits.Sub64", "math/bits.Add64"], unfollowed := true, recurses := true, named := ["math/bits.divideError", "math/bits.overflowError"], apart := false, narrowed := true }
def FlattenAllUptoSaid : Prop := flattenAllUptoRow.holds Try.pinned (OpenSpec.upto flattenAllSpec)

end Rows
end Go.Proofs.Ytfgppkiioinphaa
