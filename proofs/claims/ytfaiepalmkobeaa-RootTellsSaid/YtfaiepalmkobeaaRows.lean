/-
  No cell of these rows narrows 'for every input' (looked for: loops, veiled, ifaces, maps, wideKeys, modest, calm, conditions, laid).
  DERIVED. THE GIVEN ROWS OF THIS SEAT. 12 by the template 'for every input the law returns true; each argument reads behind the call as it read before'; 0 by the template 'total and deterministic' (their statements: YtfaiepalmkobeaaTotals.lean).
  GIVEN WITH THE SEED: the statements are not yours to turn. If you find one false, say at which input.
  Laid BY PROGRAM, IN A SANDBOX (cutbox-rows.mjs): the forced cells as the released guide's own fill.sh prints them over the translation 815c75a48ea77e4a… (all of the seat's roots in one cut). By AI agents, Wed Nov 11 2026. No macro, syntax, notation, axiom, sorry.
-/
import Derived.Test.YtfaiepalmkobeaaChecked
import GoSem.Claim
import GoSem.ClaimJoined
import GoSem.ClaimMapViews
import Derived.JoinedTies
import Derived.KernelRfl
namespace Go.Proofs.Ytfaiepalmkobeaa
/- THE CELL 'sum', in the pinned program and in every row, IS THE sha256 OF THE DUMP (.gsa) THAT YtfaiepalmkobeaaProg.lean LOADS. Nothing in Lean hashes anything: it is a label: what it is worth is what the hold of that sum in a sandbox is worth. -/
noncomputable def Try.pinned : Pinned := { name := "ytfaiepalmkobeaa", sum := "815c75a48ea77e4ac5b888b76f297b4e89df27922bc8fce6895301536f827ab8", checked := Try.checked }
namespace Rows
def none {H : Type} : Left H := { results := [], args := [] }

/-- 'ductuslaw01.WideDivs': WHATEVER THE INPUT: true; the input reads as it did. -/
def wideDivsSpec : ChangeSpec := { name := "wideDivs", fn := fun _ => fun
  | [d1, d2] => { results := [.lit (.bool true)], args := [d1, d2] }
  | _ => none }
def wideDivsRow : OpenClaim := { program := "ytfaiepalmkobeaa", sum := "815c75a48ea77e4ac5b888b76f297b4e89df27922bc8fce6895301536f827ab8", func := "ductus/ductuslaw01.WideDivs", spec := "wideDivs", inPlace := ["math/bits.Sub64"], named := ["math/bits.divideError", "math/bits.overflowError"], apart := false }
def WideDivsSaid : Prop := wideDivsRow.holds Try.pinned (OpenSpec.ofChange wideDivsSpec)

/-- ITS FALSE NEIGHBOUR: 'it returns false'. Refute it at one input. -/
def wideDivsWrong : ChangeSpec := { name := "wideDivs", fn := fun _ => fun
  | [d1, d2] => { results := [.lit (.bool false)], args := [d1, d2] }
  | _ => none }
def WideDivsWrongFalsely : Prop := wideDivsRow.holds Try.pinned (OpenSpec.ofChange wideDivsWrong)

/-- 'ductuslaw01.WideSigns': WHATEVER THE INPUT: true; the input reads as it did. -/
def wideSignsSpec : ChangeSpec := { name := "wideSigns", fn := fun _ => fun
  | [d1, d2, d3] => { results := [.lit (.bool true)], args := [d1, d2, d3] }
  | _ => none }
def wideSignsRow : OpenClaim := { program := "ytfaiepalmkobeaa", sum := "815c75a48ea77e4ac5b888b76f297b4e89df27922bc8fce6895301536f827ab8", func := "ductus/ductuslaw01.WideSigns", spec := "wideSigns", inPlace := ["math/bits.Sub64"], named := ["math/bits.divideError", "math/bits.overflowError"], apart := false }
def WideSignsSaid : Prop := wideSignsRow.holds Try.pinned (OpenSpec.ofChange wideSignsSpec)

/-- ITS FALSE NEIGHBOUR: 'it returns false'. Refute it at one input. -/
def wideSignsWrong : ChangeSpec := { name := "wideSigns", fn := fun _ => fun
  | [d1, d2, d3] => { results := [.lit (.bool false)], args := [d1, d2, d3] }
  | _ => none }
def WideSignsWrongFalsely : Prop := wideSignsRow.holds Try.pinned (OpenSpec.ofChange wideSignsWrong)

/-- 'ductuslaw01.WideSums': WHATEVER THE INPUT: true; the input reads as it did. -/
def wideSumsSpec : ChangeSpec := { name := "wideSums", fn := fun _ => fun
  | [d1, d2, d3, d4] => { results := [.lit (.bool true)], args := [d1, d2, d3, d4] }
  | _ => none }
def wideSumsRow : OpenClaim := { program := "ytfaiepalmkobeaa", sum := "815c75a48ea77e4ac5b888b76f297b4e89df27922bc8fce6895301536f827ab8", func := "ductus/ductuslaw01.WideSums", spec := "wideSums", inPlace := ["math/bits.Add64", "math/bits.Sub64"], named := ["math/bits.divideError", "math/bits.overflowError"], apart := false }
def WideSumsSaid : Prop := wideSumsRow.holds Try.pinned (OpenSpec.ofChange wideSumsSpec)

/-- ITS FALSE NEIGHBOUR: 'it returns false'. Refute it at one input. -/
def wideSumsWrong : ChangeSpec := { name := "wideSums", fn := fun _ => fun
  | [d1, d2, d3, d4] => { results := [.lit (.bool false)], args := [d1, d2, d3, d4] }
  | _ => none }
def WideSumsWrongFalsely : Prop := wideSumsRow.holds Try.pinned (OpenSpec.ofChange wideSumsWrong)

/-- 'ductuslaw01.WideBack': WHATEVER THE INPUT: true; the input reads as it did. -/
def wideBackSpec : ChangeSpec := { name := "wideBack", fn := fun _ => fun
  | [d1, d2, d3] => { results := [.lit (.bool true)], args := [d1, d2, d3] }
  | _ => none }
def wideBackRow : OpenClaim := { program := "ytfaiepalmkobeaa", sum := "815c75a48ea77e4ac5b888b76f297b4e89df27922bc8fce6895301536f827ab8", func := "ductus/ductuslaw01.WideBack", spec := "wideBack", inPlace := ["math/bits.Sub64", "math/bits.Add64"], named := ["math/bits.divideError", "math/bits.overflowError"], apart := false }
def WideBackSaid : Prop := wideBackRow.holds Try.pinned (OpenSpec.ofChange wideBackSpec)

/-- ITS FALSE NEIGHBOUR: 'it returns false'. Refute it at one input. -/
def wideBackWrong : ChangeSpec := { name := "wideBack", fn := fun _ => fun
  | [d1, d2, d3] => { results := [.lit (.bool false)], args := [d1, d2, d3] }
  | _ => none }
def WideBackWrongFalsely : Prop := wideBackRow.holds Try.pinned (OpenSpec.ofChange wideBackWrong)

/-- 'ductuslaw01.WideOrder': WHATEVER THE INPUT: true; the input reads as it did. -/
def wideOrderSpec : ChangeSpec := { name := "wideOrder", fn := fun _ => fun
  | [d1, d2] => { results := [.lit (.bool true)], args := [d1, d2] }
  | _ => none }
def wideOrderRow : OpenClaim := { program := "ytfaiepalmkobeaa", sum := "815c75a48ea77e4ac5b888b76f297b4e89df27922bc8fce6895301536f827ab8", func := "ductus/ductuslaw01.WideOrder", spec := "wideOrder", inPlace := ["math/bits.Add64", "math/bits.Sub64"], named := ["math/bits.divideError", "math/bits.overflowError"], apart := false }
def WideOrderSaid : Prop := wideOrderRow.holds Try.pinned (OpenSpec.ofChange wideOrderSpec)

/-- ITS FALSE NEIGHBOUR: 'it returns false'. Refute it at one input. -/
def wideOrderWrong : ChangeSpec := { name := "wideOrder", fn := fun _ => fun
  | [d1, d2] => { results := [.lit (.bool false)], args := [d1, d2] }
  | _ => none }
def WideOrderWrongFalsely : Prop := wideOrderRow.holds Try.pinned (OpenSpec.ofChange wideOrderWrong)

/-- 'ductuslaw01.WideMul': WHATEVER THE INPUT: true; the input reads as it did. -/
def wideMulSpec : ChangeSpec := { name := "wideMul", fn := fun _ => fun
  | [d1, d2, d3] => { results := [.lit (.bool true)], args := [d1, d2, d3] }
  | _ => none }
def wideMulRow : OpenClaim := { program := "ytfaiepalmkobeaa", sum := "815c75a48ea77e4ac5b888b76f297b4e89df27922bc8fce6895301536f827ab8", func := "ductus/ductuslaw01.WideMul", spec := "wideMul", inPlace := ["math/bits.Add64", "math/bits.Sub64"], named := ["math/bits.divideError", "math/bits.overflowError"], apart := false }
def WideMulSaid : Prop := wideMulRow.holds Try.pinned (OpenSpec.ofChange wideMulSpec)

/-- ITS FALSE NEIGHBOUR: 'it returns false'. Refute it at one input. -/
def wideMulWrong : ChangeSpec := { name := "wideMul", fn := fun _ => fun
  | [d1, d2, d3] => { results := [.lit (.bool false)], args := [d1, d2, d3] }
  | _ => none }
def WideMulWrongFalsely : Prop := wideMulRow.holds Try.pinned (OpenSpec.ofChange wideMulWrong)

/-- 'ductuslaw02.RootTells': WHATEVER THE INPUT: true; the input reads as it did. -/
def rootTellsSpec : ChangeSpec := { name := "rootTells", fn := fun _ => fun
  | [d1, d2] => { results := [.lit (.bool true)], args := [d1, d2] }
  | _ => none }
def rootTellsRow : OpenClaim := { program := "ytfaiepalmkobeaa", sum := "815c75a48ea77e4ac5b888b76f297b4e89df27922bc8fce6895301536f827ab8", func := "ductus/ductuslaw02.RootTells", spec := "rootTells", inPlace := ["math/bits.Add64"], unfollowed := true, recurses := true, named := ["math/bits.divideError", "math/bits.overflowError"], apart := false }
def RootTellsSaid : Prop := rootTellsRow.holds Try.pinned (OpenSpec.ofChange rootTellsSpec)

/-- ITS FALSE NEIGHBOUR: 'it returns false'. Refute it at one input. -/
def rootTellsWrong : ChangeSpec := { name := "rootTells", fn := fun _ => fun
  | [d1, d2] => { results := [.lit (.bool false)], args := [d1, d2] }
  | _ => none }
def RootTellsWrongFalsely : Prop := rootTellsRow.holds Try.pinned (OpenSpec.ofChange rootTellsWrong)

/-- 'ductuslaw02.RootNear': WHATEVER THE INPUT: true; the input reads as it did. -/
def rootNearSpec : ChangeSpec := { name := "rootNear", fn := fun _ => fun
  | [d] => { results := [.lit (.bool true)], args := [d] }
  | _ => none }
def rootNearRow : OpenClaim := { program := "ytfaiepalmkobeaa", sum := "815c75a48ea77e4ac5b888b76f297b4e89df27922bc8fce6895301536f827ab8", func := "ductus/ductuslaw02.RootNear", spec := "rootNear", inPlace := ["math/bits.Add64"], unfollowed := true, recurses := true, named := ["math/bits.divideError", "math/bits.overflowError"], apart := false }
def RootNearSaid : Prop := rootNearRow.holds Try.pinned (OpenSpec.ofChange rootNearSpec)

/-- ITS FALSE NEIGHBOUR: 'it returns false'. Refute it at one input. -/
def rootNearWrong : ChangeSpec := { name := "rootNear", fn := fun _ => fun
  | [d] => { results := [.lit (.bool false)], args := [d] }
  | _ => none }
def RootNearWrongFalsely : Prop := rootNearRow.holds Try.pinned (OpenSpec.ofChange rootNearWrong)

/-- 'ductuslaw02.RootSquares': WHATEVER THE INPUT: true; the input reads as it did. -/
def rootSquaresSpec : ChangeSpec := { name := "rootSquares", fn := fun _ => fun
  | [d1, d2] => { results := [.lit (.bool true)], args := [d1, d2] }
  | _ => none }
def rootSquaresRow : OpenClaim := { program := "ytfaiepalmkobeaa", sum := "815c75a48ea77e4ac5b888b76f297b4e89df27922bc8fce6895301536f827ab8", func := "ductus/ductuslaw02.RootSquares", spec := "rootSquares", inPlace := ["math/bits.Add64"], unfollowed := true, recurses := true, named := ["math/bits.divideError", "math/bits.overflowError"], apart := false }
def RootSquaresSaid : Prop := rootSquaresRow.holds Try.pinned (OpenSpec.ofChange rootSquaresSpec)

/-- ITS FALSE NEIGHBOUR: 'it returns false'. Refute it at one input. -/
def rootSquaresWrong : ChangeSpec := { name := "rootSquares", fn := fun _ => fun
  | [d1, d2] => { results := [.lit (.bool false)], args := [d1, d2] }
  | _ => none }
def RootSquaresWrongFalsely : Prop := rootSquaresRow.holds Try.pinned (OpenSpec.ofChange rootSquaresWrong)

/-- 'ductuslaw02.RootRises': WHATEVER THE INPUT: true; the input reads as it did. -/
def rootRisesSpec : ChangeSpec := { name := "rootRises", fn := fun _ => fun
  | [d1, d2] => { results := [.lit (.bool true)], args := [d1, d2] }
  | _ => none }
def rootRisesRow : OpenClaim := { program := "ytfaiepalmkobeaa", sum := "815c75a48ea77e4ac5b888b76f297b4e89df27922bc8fce6895301536f827ab8", func := "ductus/ductuslaw02.RootRises", spec := "rootRises", inPlace := ["math/bits.Add64"], unfollowed := true, recurses := true, named := ["math/bits.divideError", "math/bits.overflowError"], apart := false }
def RootRisesSaid : Prop := rootRisesRow.holds Try.pinned (OpenSpec.ofChange rootRisesSpec)

/-- ITS FALSE NEIGHBOUR: 'it returns false'. Refute it at one input. -/
def rootRisesWrong : ChangeSpec := { name := "rootRises", fn := fun _ => fun
  | [d1, d2] => { results := [.lit (.bool false)], args := [d1, d2] }
  | _ => none }
def RootRisesWrongFalsely : Prop := rootRisesRow.holds Try.pinned (OpenSpec.ofChange rootRisesWrong)

/-- 'ductuslaw02.RootFour': WHATEVER THE INPUT: true; the input reads as it did. -/
def rootFourSpec : ChangeSpec := { name := "rootFour", fn := fun _ => fun
  | [d] => { results := [.lit (.bool true)], args := [d] }
  | _ => none }
def rootFourRow : OpenClaim := { program := "ytfaiepalmkobeaa", sum := "815c75a48ea77e4ac5b888b76f297b4e89df27922bc8fce6895301536f827ab8", func := "ductus/ductuslaw02.RootFour", spec := "rootFour", inPlace := ["math/bits.Add64"], unfollowed := true, recurses := true, named := ["math/bits.divideError", "math/bits.overflowError"], apart := false }
def RootFourSaid : Prop := rootFourRow.holds Try.pinned (OpenSpec.ofChange rootFourSpec)

/-- ITS FALSE NEIGHBOUR: 'it returns false'. Refute it at one input. -/
def rootFourWrong : ChangeSpec := { name := "rootFour", fn := fun _ => fun
  | [d] => { results := [.lit (.bool false)], args := [d] }
  | _ => none }
def RootFourWrongFalsely : Prop := rootFourRow.holds Try.pinned (OpenSpec.ofChange rootFourWrong)

/-- 'ductuslaw02.RootLong': WHATEVER THE INPUT: true; the input reads as it did. -/
def rootLongSpec : ChangeSpec := { name := "rootLong", fn := fun _ => fun
  | [d] => { results := [.lit (.bool true)], args := [d] }
  | _ => none }
def rootLongRow : OpenClaim := { program := "ytfaiepalmkobeaa", sum := "815c75a48ea77e4ac5b888b76f297b4e89df27922bc8fce6895301536f827ab8", func := "ductus/ductuslaw02.RootLong", spec := "rootLong", inPlace := ["math/bits.Add64", "math/bits.Sub64"], unfollowed := true, recurses := true, named := ["math/bits.divideError", "math/bits.overflowError"], apart := false }
def RootLongSaid : Prop := rootLongRow.holds Try.pinned (OpenSpec.ofChange rootLongSpec)

/-- ITS FALSE NEIGHBOUR: 'it returns false'. Refute it at one input. -/
def rootLongWrong : ChangeSpec := { name := "rootLong", fn := fun _ => fun
  | [d] => { results := [.lit (.bool false)], args := [d] }
  | _ => none }
def RootLongWrongFalsely : Prop := rootLongRow.holds Try.pinned (OpenSpec.ofChange rootLongWrong)

/- THE SECOND FORM. 'bulk': how many values and letters a reading holds, each counted each time it is reached (what is shared counts as often as it is met; a slice's spare places count too). A statement '..UptoSaid' is the law's where the arguments, and the package variables that the reading takes, are together of bulk at most 1048576: NARROWER than '..Said'. Prove '..Said' where nothing that the law and all that it calls make is longer than what came in: it says more and counts as full. Else prove '..UptoSaid'. A law counts once. -/
mutual
def uptoBulk {H : Type} : DataW H → Nat
  | .lit (.string bytes) => bytes.length + 1
  | .lit _ => 1
  | .nil => 1
  | .ptr d => uptoBulk d + 1
  | .slice elems spare => uptoBulkAll elems + uptoBulkAll spare + 1
  | .agg parts => uptoBulkAll parts + 1
  | .iface _ d => uptoBulk d + 1
  | .map entries => uptoBulkEntries entries + 1
  | .held _ => 1
def uptoBulkAll {H : Type} : List (DataW H) → Nat
  | [] => 0
  | d :: r => uptoBulk d + uptoBulkAll r
def uptoBulkEntries {H : Type} : List (Lit × DataW H) → Nat
  | [] => 0
  | x :: r => uptoBulkEntry x + uptoBulkEntries r
def uptoBulkEntry {H : Type} : Lit × DataW H → Nat
  | (.string bytes, d) => bytes.length + uptoBulk d + 1
  | (_, d) => uptoBulk d + 1
 end
def uptoSmall : (H : Type) → List (DataW H) → Bool := fun _ ds => decide (uptoBulkAll ds ≤ 1048576)
def OpenSpec.upto (s : _root_.Go.ChangeSpec) : _root_.Go.OpenSpec := { _root_.Go.OpenSpec.ofChange s with cond := some uptoSmall }

/-- 'ductuslaw01.WideDivs', WHERE WHAT IT READS IS OF BULK AT MOST 1048576: true; the input reads as it did. -/
def wideDivsUptoRow : OpenClaim := { program := "ytfaiepalmkobeaa", sum := "815c75a48ea77e4ac5b888b76f297b4e89df27922bc8fce6895301536f827ab8", func := "ductus/ductuslaw01.WideDivs", spec := "wideDivs", inPlace := ["math/bits.Sub64"], named := ["math/bits.divideError", "math/bits.overflowError"], apart := false, narrowed := true }
def WideDivsUptoSaid : Prop := wideDivsUptoRow.holds Try.pinned (OpenSpec.upto wideDivsSpec)

/-- 'ductuslaw01.WideSigns', WHERE WHAT IT READS IS OF BULK AT MOST 1048576: true; the input reads as it did. -/
def wideSignsUptoRow : OpenClaim := { program := "ytfaiepalmkobeaa", sum := "815c75a48ea77e4ac5b888b76f297b4e89df27922bc8fce6895301536f827ab8", func := "ductus/ductuslaw01.WideSigns", spec := "wideSigns", inPlace := ["math/bits.Sub64"], named := ["math/bits.divideError", "math/bits.overflowError"], apart := false, narrowed := true }
def WideSignsUptoSaid : Prop := wideSignsUptoRow.holds Try.pinned (OpenSpec.upto wideSignsSpec)

/-- 'ductuslaw01.WideSums', WHERE WHAT IT READS IS OF BULK AT MOST 1048576: true; the input reads as it did. -/
def wideSumsUptoRow : OpenClaim := { program := "ytfaiepalmkobeaa", sum := "815c75a48ea77e4ac5b888b76f297b4e89df27922bc8fce6895301536f827ab8", func := "ductus/ductuslaw01.WideSums", spec := "wideSums", inPlace := ["math/bits.Add64", "math/bits.Sub64"], named := ["math/bits.divideError", "math/bits.overflowError"], apart := false, narrowed := true }
def WideSumsUptoSaid : Prop := wideSumsUptoRow.holds Try.pinned (OpenSpec.upto wideSumsSpec)

/-- 'ductuslaw01.WideBack', WHERE WHAT IT READS IS OF BULK AT MOST 1048576: true; the input reads as it did. -/
def wideBackUptoRow : OpenClaim := { program := "ytfaiepalmkobeaa", sum := "815c75a48ea77e4ac5b888b76f297b4e89df27922bc8fce6895301536f827ab8", func := "ductus/ductuslaw01.WideBack", spec := "wideBack", inPlace := ["math/bits.Sub64", "math/bits.Add64"], named := ["math/bits.divideError", "math/bits.overflowError"], apart := false, narrowed := true }
def WideBackUptoSaid : Prop := wideBackUptoRow.holds Try.pinned (OpenSpec.upto wideBackSpec)

/-- 'ductuslaw01.WideOrder', WHERE WHAT IT READS IS OF BULK AT MOST 1048576: true; the input reads as it did. -/
def wideOrderUptoRow : OpenClaim := { program := "ytfaiepalmkobeaa", sum := "815c75a48ea77e4ac5b888b76f297b4e89df27922bc8fce6895301536f827ab8", func := "ductus/ductuslaw01.WideOrder", spec := "wideOrder", inPlace := ["math/bits.Add64", "math/bits.Sub64"], named := ["math/bits.divideError", "math/bits.overflowError"], apart := false, narrowed := true }
def WideOrderUptoSaid : Prop := wideOrderUptoRow.holds Try.pinned (OpenSpec.upto wideOrderSpec)

/-- 'ductuslaw01.WideMul', WHERE WHAT IT READS IS OF BULK AT MOST 1048576: true; the input reads as it did. -/
def wideMulUptoRow : OpenClaim := { program := "ytfaiepalmkobeaa", sum := "815c75a48ea77e4ac5b888b76f297b4e89df27922bc8fce6895301536f827ab8", func := "ductus/ductuslaw01.WideMul", spec := "wideMul", inPlace := ["math/bits.Add64", "math/bits.Sub64"], named := ["math/bits.divideError", "math/bits.overflowError"], apart := false, narrowed := true }
def WideMulUptoSaid : Prop := wideMulUptoRow.holds Try.pinned (OpenSpec.upto wideMulSpec)

/-- 'ductuslaw02.RootTells', WHERE WHAT IT READS IS OF BULK AT MOST 1048576: true; the input reads as it did. -/
def rootTellsUptoRow : OpenClaim := { program := "ytfaiepalmkobeaa", sum := "815c75a48ea77e4ac5b888b76f297b4e89df27922bc8fce6895301536f827ab8", func := "ductus/ductuslaw02.RootTells", spec := "rootTells", inPlace := ["math/bits.Add64"], unfollowed := true, recurses := true, named := ["math/bits.divideError", "math/bits.overflowError"], apart := false, narrowed := true }
def RootTellsUptoSaid : Prop := rootTellsUptoRow.holds Try.pinned (OpenSpec.upto rootTellsSpec)

/-- 'ductuslaw02.RootNear', WHERE WHAT IT READS IS OF BULK AT MOST 1048576: true; the input reads as it did. -/
def rootNearUptoRow : OpenClaim := { program := "ytfaiepalmkobeaa", sum := "815c75a48ea77e4ac5b888b76f297b4e89df27922bc8fce6895301536f827ab8", func := "ductus/ductuslaw02.RootNear", spec := "rootNear", inPlace := ["math/bits.Add64"], unfollowed := true, recurses := true, named := ["math/bits.divideError", "math/bits.overflowError"], apart := false, narrowed := true }
def RootNearUptoSaid : Prop := rootNearUptoRow.holds Try.pinned (OpenSpec.upto rootNearSpec)

/-- 'ductuslaw02.RootSquares', WHERE WHAT IT READS IS OF BULK AT MOST 1048576: true; the input reads as it did. -/
def rootSquaresUptoRow : OpenClaim := { program := "ytfaiepalmkobeaa", sum := "815c75a48ea77e4ac5b888b76f297b4e89df27922bc8fce6895301536f827ab8", func := "ductus/ductuslaw02.RootSquares", spec := "rootSquares", inPlace := ["math/bits.Add64"], unfollowed := true, recurses := true, named := ["math/bits.divideError", "math/bits.overflowError"], apart := false, narrowed := true }
def RootSquaresUptoSaid : Prop := rootSquaresUptoRow.holds Try.pinned (OpenSpec.upto rootSquaresSpec)

/-- 'ductuslaw02.RootRises', WHERE WHAT IT READS IS OF BULK AT MOST 1048576: true; the input reads as it did. -/
def rootRisesUptoRow : OpenClaim := { program := "ytfaiepalmkobeaa", sum := "815c75a48ea77e4ac5b888b76f297b4e89df27922bc8fce6895301536f827ab8", func := "ductus/ductuslaw02.RootRises", spec := "rootRises", inPlace := ["math/bits.Add64"], unfollowed := true, recurses := true, named := ["math/bits.divideError", "math/bits.overflowError"], apart := false, narrowed := true }
def RootRisesUptoSaid : Prop := rootRisesUptoRow.holds Try.pinned (OpenSpec.upto rootRisesSpec)

/-- 'ductuslaw02.RootFour', WHERE WHAT IT READS IS OF BULK AT MOST 1048576: true; the input reads as it did. -/
def rootFourUptoRow : OpenClaim := { program := "ytfaiepalmkobeaa", sum := "815c75a48ea77e4ac5b888b76f297b4e89df27922bc8fce6895301536f827ab8", func := "ductus/ductuslaw02.RootFour", spec := "rootFour", inPlace := ["math/bits.Add64"], unfollowed := true, recurses := true, named := ["math/bits.divideError", "math/bits.overflowError"], apart := false, narrowed := true }
def RootFourUptoSaid : Prop := rootFourUptoRow.holds Try.pinned (OpenSpec.upto rootFourSpec)

/-- 'ductuslaw02.RootLong', WHERE WHAT IT READS IS OF BULK AT MOST 1048576: true; the input reads as it did. -/
def rootLongUptoRow : OpenClaim := { program := "ytfaiepalmkobeaa", sum := "815c75a48ea77e4ac5b888b76f297b4e89df27922bc8fce6895301536f827ab8", func := "ductus/ductuslaw02.RootLong", spec := "rootLong", inPlace := ["math/bits.Add64", "math/bits.Sub64"], unfollowed := true, recurses := true, named := ["math/bits.divideError", "math/bits.overflowError"], apart := false, narrowed := true }
def RootLongUptoSaid : Prop := rootLongUptoRow.holds Try.pinned (OpenSpec.upto rootLongSpec)

end Rows
end Go.Proofs.Ytfaiepalmkobeaa
