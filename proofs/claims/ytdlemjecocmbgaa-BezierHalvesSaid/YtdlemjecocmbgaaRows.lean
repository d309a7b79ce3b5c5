/-
  No cell of these rows narrows 'for every input' (looked for: loops, veiled, ifaces, maps, wideKeys, modest, calm, conditions, laid).
  DERIVED. THE GIVEN ROWS OF THIS SEAT. 7 by the template 'for every input the law returns true; each argument reads behind the call as it read before'; 0 by the template 'total and deterministic' (their statements: YtdlemjecocmbgaaTotals.lean).
  GIVEN WITH THE SEED: the statements are not yours to turn. If you find one false, say at which input.
  Laid BY PROGRAM, IN A SANDBOX (cutbox-rows.mjs): the forced cells as the released guide's own fill.sh prints them over the translation f0ed15b27b1a8c75… (all of the seat's roots in one cut). By AI agents, Wed Nov 11 2026. No macro, syntax, notation, axiom, sorry.
-/
import Derived.Test.YtdlemjecocmbgaaChecked
import GoSem.Claim
import GoSem.ClaimJoined
import GoSem.ClaimMapViews
import Derived.JoinedTies
import Derived.KernelRfl
namespace Go.Proofs.Ytdlemjecocmbgaa
/- THE CELL 'sum', in the pinned program and in every row, IS THE sha256 OF THE DUMP (.gsa) THAT YtdlemjecocmbgaaProg.lean LOADS. Nothing in Lean hashes anything: it is a label: what it is worth is what the hold of that sum in a sandbox is worth. -/
noncomputable def Try.pinned : Pinned := { name := "ytdlemjecocmbgaa", sum := "f0ed15b27b1a8c752cfabc433a2a40e4ce2e232e44845c49baad81510b7d3086", checked := Try.checked }
namespace Rows
def none {H : Type} : Left H := { results := [], args := [] }

/-- 'ductuslaw04.VectorLens': WHATEVER THE INPUT: true; the input reads as it did. -/
def vectorLensSpec : ChangeSpec := { name := "vectorLens", fn := fun _ => fun
  | [d] => { results := [.lit (.bool true)], args := [d] }
  | _ => none }
def vectorLensRow : OpenClaim := { program := "ytdlemjecocmbgaa", sum := "f0ed15b27b1a8c752cfabc433a2a40e4ce2e232e44845c49baad81510b7d3086", func := "ductus/ductuslaw04.VectorLens", spec := "vectorLens", inPlace := ["math/bits.Add64", "math/bits.Sub64"], unfollowed := true, recurses := true, named := ["math/bits.divideError", "math/bits.overflowError"], apart := false }
def VectorLensSaid : Prop := vectorLensRow.holds Try.pinned (OpenSpec.ofChange vectorLensSpec)

/-- ITS FALSE NEIGHBOUR: 'it returns false'. Refute it at one input. -/
def vectorLensWrong : ChangeSpec := { name := "vectorLens", fn := fun _ => fun
  | [d] => { results := [.lit (.bool false)], args := [d] }
  | _ => none }
def VectorLensWrongFalsely : Prop := vectorLensRow.holds Try.pinned (OpenSpec.ofChange vectorLensWrong)

/-- 'ductuslaw04.VectorTurns': WHATEVER THE INPUT: true; the input reads as it did. -/
def vectorTurnsSpec : ChangeSpec := { name := "vectorTurns", fn := fun _ => fun
  | [d1, d2] => { results := [.lit (.bool true)], args := [d1, d2] }
  | _ => none }
def vectorTurnsRow : OpenClaim := { program := "ytdlemjecocmbgaa", sum := "f0ed15b27b1a8c752cfabc433a2a40e4ce2e232e44845c49baad81510b7d3086", func := "ductus/ductuslaw04.VectorTurns", spec := "vectorTurns", inPlace := ["math/bits.Add64", "math/bits.Sub64"], unfollowed := true, recurses := true, named := ["math/bits.divideError", "math/bits.overflowError"], apart := false }
def VectorTurnsSaid : Prop := vectorTurnsRow.holds Try.pinned (OpenSpec.ofChange vectorTurnsSpec)

/-- ITS FALSE NEIGHBOUR: 'it returns false'. Refute it at one input. -/
def vectorTurnsWrong : ChangeSpec := { name := "vectorTurns", fn := fun _ => fun
  | [d1, d2] => { results := [.lit (.bool false)], args := [d1, d2] }
  | _ => none }
def VectorTurnsWrongFalsely : Prop := vectorTurnsRow.holds Try.pinned (OpenSpec.ofChange vectorTurnsWrong)

/-- 'ductuslaw04.VectorEnds': WHATEVER THE INPUT: true; the input reads as it did. -/
def vectorEndsSpec : ChangeSpec := { name := "vectorEnds", fn := fun _ => fun
  | [d1, d2, d3, d4] => { results := [.lit (.bool true)], args := [d1, d2, d3, d4] }
  | _ => none }
def vectorEndsRow : OpenClaim := { program := "ytdlemjecocmbgaa", sum := "f0ed15b27b1a8c752cfabc433a2a40e4ce2e232e44845c49baad81510b7d3086", func := "ductus/ductuslaw04.VectorEnds", spec := "vectorEnds", inPlace := ["math/bits.Add64", "math/bits.Sub64"], unfollowed := true, recurses := true, named := ["math/bits.divideError", "math/bits.overflowError"], apart := false }
def VectorEndsSaid : Prop := vectorEndsRow.holds Try.pinned (OpenSpec.ofChange vectorEndsSpec)

/-- ITS FALSE NEIGHBOUR: 'it returns false'. Refute it at one input. -/
def vectorEndsWrong : ChangeSpec := { name := "vectorEnds", fn := fun _ => fun
  | [d1, d2, d3, d4] => { results := [.lit (.bool false)], args := [d1, d2, d3, d4] }
  | _ => none }
def VectorEndsWrongFalsely : Prop := vectorEndsRow.holds Try.pinned (OpenSpec.ofChange vectorEndsWrong)

/-- 'ductuslaw04.VectorMiddles': WHATEVER THE INPUT: true; the input reads as it did. -/
def vectorMiddlesSpec : ChangeSpec := { name := "vectorMiddles", fn := fun _ => fun
  | [d1, d2, d3, d4] => { results := [.lit (.bool true)], args := [d1, d2, d3, d4] }
  | _ => none }
def vectorMiddlesRow : OpenClaim := { program := "ytdlemjecocmbgaa", sum := "f0ed15b27b1a8c752cfabc433a2a40e4ce2e232e44845c49baad81510b7d3086", func := "ductus/ductuslaw04.VectorMiddles", spec := "vectorMiddles", inPlace := ["math/bits.Add64", "math/bits.Sub64"], unfollowed := true, recurses := true, named := ["math/bits.divideError", "math/bits.overflowError"], apart := false }
def VectorMiddlesSaid : Prop := vectorMiddlesRow.holds Try.pinned (OpenSpec.ofChange vectorMiddlesSpec)

/-- ITS FALSE NEIGHBOUR: 'it returns false'. Refute it at one input. -/
def vectorMiddlesWrong : ChangeSpec := { name := "vectorMiddles", fn := fun _ => fun
  | [d1, d2, d3, d4] => { results := [.lit (.bool false)], args := [d1, d2, d3, d4] }
  | _ => none }
def VectorMiddlesWrongFalsely : Prop := vectorMiddlesRow.holds Try.pinned (OpenSpec.ofChange vectorMiddlesWrong)

/-- 'ductuslaw04.VectorTells': WHATEVER THE INPUT: true; the input reads as it did. -/
def vectorTellsSpec : ChangeSpec := { name := "vectorTells", fn := fun _ => fun
  | [d1, d2, d3, d4] => { results := [.lit (.bool true)], args := [d1, d2, d3, d4] }
  | _ => none }
def vectorTellsRow : OpenClaim := { program := "ytdlemjecocmbgaa", sum := "f0ed15b27b1a8c752cfabc433a2a40e4ce2e232e44845c49baad81510b7d3086", func := "ductus/ductuslaw04.VectorTells", spec := "vectorTells", inPlace := ["math/bits.Add64", "math/bits.Sub64"], unfollowed := true, recurses := true, named := ["math/bits.divideError", "math/bits.overflowError"], apart := false }
def VectorTellsSaid : Prop := vectorTellsRow.holds Try.pinned (OpenSpec.ofChange vectorTellsSpec)

/-- ITS FALSE NEIGHBOUR: 'it returns false'. Refute it at one input. -/
def vectorTellsWrong : ChangeSpec := { name := "vectorTells", fn := fun _ => fun
  | [d1, d2, d3, d4] => { results := [.lit (.bool false)], args := [d1, d2, d3, d4] }
  | _ => none }
def VectorTellsWrongFalsely : Prop := vectorTellsRow.holds Try.pinned (OpenSpec.ofChange vectorTellsWrong)

/-- 'ductuslaw09.BezierHalves': WHATEVER THE INPUT: true; the input reads as it did. -/
def bezierHalvesSpec : ChangeSpec := { name := "bezierHalves", fn := fun _ => fun
  | [d] => { results := [.lit (.bool true)], args := [d] }
  | _ => none }
def bezierHalvesRow : OpenClaim := { program := "ytdlemjecocmbgaa", sum := "f0ed15b27b1a8c752cfabc433a2a40e4ce2e232e44845c49baad81510b7d3086", func := "ductus/ductuslaw09.BezierHalves", spec := "bezierHalves", inPlace := ["math/bits.Sub64", "math/bits.Add64"], unfollowed := true, recurses := true, named := ["math/bits.divideError", "math/bits.overflowError"], apart := false }
def BezierHalvesSaid : Prop := bezierHalvesRow.holds Try.pinned (OpenSpec.ofChange bezierHalvesSpec)

/-- ITS FALSE NEIGHBOUR: 'it returns false'. Refute it at one input. -/
def bezierHalvesWrong : ChangeSpec := { name := "bezierHalves", fn := fun _ => fun
  | [d] => { results := [.lit (.bool false)], args := [d] }
  | _ => none }
def BezierHalvesWrongFalsely : Prop := bezierHalvesRow.holds Try.pinned (OpenSpec.ofChange bezierHalvesWrong)

/-- 'ductuslaw09.BezierShifts': WHATEVER THE INPUT: true; the input reads as it did. -/
def bezierShiftsSpec : ChangeSpec := { name := "bezierShifts", fn := fun _ => fun
  | [d1, d2, d3, d4] => { results := [.lit (.bool true)], args := [d1, d2, d3, d4] }
  | _ => none }
def bezierShiftsRow : OpenClaim := { program := "ytdlemjecocmbgaa", sum := "f0ed15b27b1a8c752cfabc433a2a40e4ce2e232e44845c49baad81510b7d3086", func := "ductus/ductuslaw09.BezierShifts", spec := "bezierShifts", inPlace := ["math/bits.Sub64", "math/bits.Add64"], unfollowed := true, recurses := true, named := ["math/bits.divideError", "math/bits.overflowError"], apart := false }
def BezierShiftsSaid : Prop := bezierShiftsRow.holds Try.pinned (OpenSpec.ofChange bezierShiftsSpec)

/-- ITS FALSE NEIGHBOUR: 'it returns false'. Refute it at one input. -/
def bezierShiftsWrong : ChangeSpec := { name := "bezierShifts", fn := fun _ => fun
  | [d1, d2, d3, d4] => { results := [.lit (.bool false)], args := [d1, d2, d3, d4] }
  | _ => none }
def BezierShiftsWrongFalsely : Prop := bezierShiftsRow.holds Try.pinned (OpenSpec.ofChange bezierShiftsWrong)

/- THE SECOND FORM. 'bulk': how many values and letters a reading holds, each counted each time it is reached (what is shared counts as often as it is met; a slice's spare places count too). A statement '..UptoSaid' is the law's where the arguments, and the package variables that the reading takes, are together of bulk at most 1048576: NARROWER than '..Said'. Prove '..Said' where nothing that the law and all that it calls make is longer than what came in: it says more and counts as full. Else prove '..UptoSaid'. A law counts once. -/
mutual
def uptoBulk {H : Type} : DataW H → Nat
  | .lit (.string bytes) => bytes.length + 1
  | .lit _ => 1
  | .nil => 1
  | .ptr d => uptoBulk d + 1
  | .slice elems spare => uptoBulkAll elems + uptoBulkAll spare + 1
  | .agg parts => uptoBulkAll parts + 1
  | .iface _ d => uptoBulk d + 1
  | .map entries => uptoBulkEntries entries + 1
  | .held _ => 1
def uptoBulkAll {H : Type} : List (DataW H) → Nat
  | [] => 0
  | d :: r => uptoBulk d + uptoBulkAll r
def uptoBulkEntries {H : Type} : List (Lit × DataW H) → Nat
  | [] => 0
  | x :: r => uptoBulkEntry x + uptoBulkEntries r
def uptoBulkEntry {H : Type} : Lit × DataW H → Nat
  | (.string bytes, d) => bytes.length + uptoBulk d + 1
  | (_, d) => uptoBulk d + 1
 end
def uptoSmall : (H : Type) → List (DataW H) → Bool := fun _ ds => decide (uptoBulkAll ds ≤ 1048576)
def OpenSpec.upto (s : _root_.Go.ChangeSpec) : _root_.Go.OpenSpec := { _root_.Go.OpenSpec.ofChange s with cond := some uptoSmall }

/-- 'ductuslaw04.VectorLens', WHERE WHAT IT READS IS OF BULK AT MOST 1048576: true; the input reads as it did. -/
def vectorLensUptoRow : OpenClaim := { program := "ytdlemjecocmbgaa", sum := "f0ed15b27b1a8c752cfabc433a2a40e4ce2e232e44845c49baad81510b7d3086", func := "ductus/ductuslaw04.VectorLens", spec := "vectorLens", inPlace := ["math/bits.Add64", "math/bits.Sub64"], unfollowed := true, recurses := true, named := ["math/bits.divideError", "math/bits.overflowError"], apart := false, narrowed := true }
def VectorLensUptoSaid : Prop := vectorLensUptoRow.holds Try.pinned (OpenSpec.upto vectorLensSpec)

/-- 'ductuslaw04.VectorTurns', WHERE WHAT IT READS IS OF BULK AT MOST 1048576: true; the input reads as it did. -/
def vectorTurnsUptoRow : OpenClaim := { program := "ytdlemjecocmbgaa", sum := "f0ed15b27b1a8c752cfabc433a2a40e4ce2e232e44845c49baad81510b7d3086", func := "ductus/ductuslaw04.VectorTurns", spec := "vectorTurns", inPlace := ["math/bits.Add64", "math/bits.Sub64"], unfollowed := true, recurses := true, named := ["math/bits.divideError", "math/bits.overflowError"], apart := false, narrowed := true }
def VectorTurnsUptoSaid : Prop := vectorTurnsUptoRow.holds Try.pinned (OpenSpec.upto vectorTurnsSpec)

/-- 'ductuslaw04.VectorEnds', WHERE WHAT IT READS IS OF BULK AT MOST 1048576: true; the input reads as it did. -/
def vectorEndsUptoRow : OpenClaim := { program := "ytdlemjecocmbgaa", sum := "f0ed15b27b1a8c752cfabc433a2a40e4ce2e232e44845c49baad81510b7d3086", func := "ductus/ductuslaw04.VectorEnds", spec := "vectorEnds", inPlace := ["math/bits.Add64", "math/bits.Sub64"], unfollowed := true, recurses := true, named := ["math/bits.divideError", "math/bits.overflowError"], apart := false, narrowed := true }
def VectorEndsUptoSaid : Prop := vectorEndsUptoRow.holds Try.pinned (OpenSpec.upto vectorEndsSpec)

/-- 'ductuslaw04.VectorMiddles', WHERE WHAT IT READS IS OF BULK AT MOST 1048576: true; the input reads as it did. -/
def vectorMiddlesUptoRow : OpenClaim := { program := "ytdlemjecocmbgaa", sum := "f0ed15b27b1a8c752cfabc433a2a40e4ce2e232e44845c49baad81510b7d3086", func := "ductus/ductuslaw04.VectorMiddles", spec := "vectorMiddles", inPlace := ["math/bits.Add64", "math/bits.Sub64"], unfollowed := true, recurses := true, named := ["math/bits.divideError", "math/bits.overflowError"], apart := false, narrowed := true }
def VectorMiddlesUptoSaid : Prop := vectorMiddlesUptoRow.holds Try.pinned (OpenSpec.upto vectorMiddlesSpec)

/-- 'ductuslaw04.VectorTells', WHERE WHAT IT READS IS OF BULK AT MOST 1048576: true; the input reads as it did. -/
def vectorTellsUptoRow : OpenClaim := { program := "ytdlemjecocmbgaa", sum := "f0ed15b27b1a8c752cfabc433a2a40e4ce2e232e44845c49baad81510b7d3086", func := "ductus/ductuslaw04.VectorTells", spec := "vectorTells", inPlace := ["math/bits.Add64", "math/bits.Sub64"], unfollowed := true, recurses := true, named := ["math/bits.divideError", "math/bits.overflowError"], apart := false, narrowed := true }
def VectorTellsUptoSaid : Prop := vectorTellsUptoRow.holds Try.pinned (OpenSpec.upto vectorTellsSpec)

/-- 'ductuslaw09.BezierHalves', WHERE WHAT IT READS IS OF BULK AT MOST 1048576: true; the input reads as it did. -/
def bezierHalvesUptoRow : OpenClaim := { program := "ytdlemjecocmbgaa", sum := "f0ed15b27b1a8c752cfabc433a2a40e4ce2e232e44845c49baad81510b7d3086", func := "ductus/ductuslaw09.BezierHalves", spec := "bezierHalves", inPlace := ["math/bits.Sub64", "math/bits.Add64"], unfollowed := true, recurses := true, named := ["math/bits.divideError", "math/bits.overflowError"], apart := false, narrowed := true }
def BezierHalvesUptoSaid : Prop := bezierHalvesUptoRow.holds Try.pinned (OpenSpec.upto bezierHalvesSpec)

/-- 'ductuslaw09.BezierShifts', WHERE WHAT IT READS IS OF BULK AT MOST 1048576: true; the input reads as it did. -/
def bezierShiftsUptoRow : OpenClaim := { program := "ytdlemjecocmbgaa", sum := "f0ed15b27b1a8c752cfabc433a2a40e4ce2e232e44845c49baad81510b7d3086", func := "ductus/ductuslaw09.BezierShifts", spec := "bezierShifts", inPlace := ["math/bits.Sub64", "math/bits.Add64"], unfollowed := true, recurses := true, named := ["math/bits.divideError", "math/bits.overflowError"], apart := false, narrowed := true }
def BezierShiftsUptoSaid : Prop := bezierShiftsUptoRow.holds Try.pinned (OpenSpec.upto bezierShiftsSpec)

end Rows
end Go.Proofs.Ytdlemjecocmbgaa
