/-
  No cell of these rows narrows 'for every input' (looked for: loops, veiled, ifaces, maps, wideKeys, modest, calm, conditions, laid).
  DERIVED. THE GIVEN ROWS OF THIS SEAT. 8 by the template 'for every input the law returns true; each argument reads behind the call as it read before'; 0 by the template 'total and deterministic' (their statements: YtcdnekhpeghkiaaTotals.lean).
  GIVEN WITH THE SEED: the statements are not yours to turn. If you find one false, say at which input.
  Laid BY PROGRAM, IN A SANDBOX (cutbox-rows.mjs): the forced cells as the released guide's own fill.sh prints them over the translation 5dcd4640726f622a… (all of the seat's roots in one cut). By AI agents, Wed Nov 11 2026. No macro, syntax, notation, axiom, sorry.
-/
import Derived.Test.YtcdnekhpeghkiaaChecked
import GoSem.Claim
import GoSem.ClaimJoined
import GoSem.ClaimMapViews
import Derived.JoinedTies
import Derived.KernelRfl
namespace Go.Proofs.Ytcdnekhpeghkiaa
/- THE CELL 'sum', in the pinned program and in every row, IS THE sha256 OF THE DUMP (.gsa) THAT YtcdnekhpeghkiaaProg.lean LOADS. Nothing in Lean hashes anything: it is a label: what it is worth is what the hold of that sum in a sandbox is worth. -/
noncomputable def Try.pinned : Pinned := { name := "ytcdnekhpeghkiaa", sum := "5dcd4640726f622aaffb07bc7198f4987542bbcb1802cb95941daa4756682b84", checked := Try.checked }
namespace Rows
def none {H : Type} : Left H := { results := [], args := [] }

/-- 'ductuslaw10.FlattenPoints': WHATEVER THE INPUT: true; the input reads as it did. -/
def flattenPointsSpec : ChangeSpec := { name := "flattenPoints", fn := fun _ => fun
  | [d1, d2] => { results := [.lit (.bool true)], args := [d1, d2] }
  | _ => none }
def flattenPointsRow : OpenClaim := { program := "ytcdnekhpeghkiaa", sum := "5dcd4640726f622aaffb07bc7198f4987542bbcb1802cb95941daa4756682b84", func := "ductus/ductuslaw10.FlattenPoints", spec := "flattenPoints", inPlace := ["math/bits.Sub64", "math/bits.Add64"], unfollowed := true, recurses := true, named := ["math/bits.divideError", "math/bits.overflowError"], apart := false }
def FlattenPointsSaid : Prop := flattenPointsRow.holds Try.pinned (OpenSpec.ofChange flattenPointsSpec)

/-- ITS FALSE NEIGHBOUR: 'it returns false'. Refute it at one input. -/
def flattenPointsWrong : ChangeSpec := { name := "flattenPoints", fn := fun _ => fun
  | [d1, d2] => { results := [.lit (.bool false)], args := [d1, d2] }
  | _ => none }
def FlattenPointsWrongFalsely : Prop := flattenPointsRow.holds Try.pinned (OpenSpec.ofChange flattenPointsWrong)

/-- 'ductuslaw12.ChainCuts': WHATEVER THE INPUT: true; the input reads as it did. -/
def chainCutsSpec : ChangeSpec := { name := "chainCuts", fn := fun _ => fun
  | [d1, d2, d3] => { results := [.lit (.bool true)], args := [d1, d2, d3] }
  | _ => none }
def chainCutsRow : OpenClaim := { program := "ytcdnekhpeghkiaa", sum := "5dcd4640726f622aaffb07bc7198f4987542bbcb1802cb95941daa4756682b84", func := "ductus/ductuslaw12.ChainCuts", spec := "chainCuts", inPlace := ["math/bits.Add64", "math/bits.Sub64"], unfollowed := true, recurses := true, named := ["math/bits.divideError", "math/bits.overflowError"], apart := false }
def ChainCutsSaid : Prop := chainCutsRow.holds Try.pinned (OpenSpec.ofChange chainCutsSpec)

/-- ITS FALSE NEIGHBOUR: 'it returns false'. Refute it at one input. -/
def chainCutsWrong : ChangeSpec := { name := "chainCuts", fn := fun _ => fun
  | [d1, d2, d3] => { results := [.lit (.bool false)], args := [d1, d2, d3] }
  | _ => none }
def ChainCutsWrongFalsely : Prop := chainCutsRow.holds Try.pinned (OpenSpec.ofChange chainCutsWrong)

/-- 'ductuslaw12.ChainWhole': WHATEVER THE INPUT: true; the input reads as it did. -/
def chainWholeSpec : ChangeSpec := { name := "chainWhole", fn := fun _ => fun
  | [d] => { results := [.lit (.bool true)], args := [d] }
  | _ => none }
def chainWholeRow : OpenClaim := { program := "ytcdnekhpeghkiaa", sum := "5dcd4640726f622aaffb07bc7198f4987542bbcb1802cb95941daa4756682b84", func := "ductus/ductuslaw12.ChainWhole", spec := "chainWhole", inPlace := ["math/bits.Add64", "math/bits.Sub64"], unfollowed := true, recurses := true, named := ["math/bits.divideError", "math/bits.overflowError"], apart := false }
def ChainWholeSaid : Prop := chainWholeRow.holds Try.pinned (OpenSpec.ofChange chainWholeSpec)

/-- ITS FALSE NEIGHBOUR: 'it returns false'. Refute it at one input. -/
def chainWholeWrong : ChangeSpec := { name := "chainWhole", fn := fun _ => fun
  | [d] => { results := [.lit (.bool false)], args := [d] }
  | _ => none }
def ChainWholeWrongFalsely : Prop := chainWholeRow.holds Try.pinned (OpenSpec.ofChange chainWholeWrong)

/-- 'ductuslaw12.ChainWays': WHATEVER THE INPUT: true; the input reads as it did. -/
def chainWaysSpec : ChangeSpec := { name := "chainWays", fn := fun _ => fun
  | [d1, d2] => { results := [.lit (.bool true)], args := [d1, d2] }
  | _ => none }
def chainWaysRow : OpenClaim := { program := "ytcdnekhpeghkiaa", sum := "5dcd4640726f622aaffb07bc7198f4987542bbcb1802cb95941daa4756682b84", func := "ductus/ductuslaw12.ChainWays", spec := "chainWays", inPlace := ["math/bits.Add64", "math/bits.Sub64"], unfollowed := true, recurses := true, named := ["math/bits.divideError", "math/bits.overflowError"], apart := false }
def ChainWaysSaid : Prop := chainWaysRow.holds Try.pinned (OpenSpec.ofChange chainWaysSpec)

/-- ITS FALSE NEIGHBOUR: 'it returns false'. Refute it at one input. -/
def chainWaysWrong : ChangeSpec := { name := "chainWays", fn := fun _ => fun
  | [d1, d2] => { results := [.lit (.bool false)], args := [d1, d2] }
  | _ => none }
def ChainWaysWrongFalsely : Prop := chainWaysRow.holds Try.pinned (OpenSpec.ofChange chainWaysWrong)

/-- 'ductuslaw12.ChainParts': WHATEVER THE INPUT: true; the input reads as it did. -/
def chainPartsSpec : ChangeSpec := { name := "chainParts", fn := fun _ => fun
  | [d1, d2, d3, d4] => { results := [.lit (.bool true)], args := [d1, d2, d3, d4] }
  | _ => none }
def chainPartsRow : OpenClaim := { program := "ytcdnekhpeghkiaa", sum := "5dcd4640726f622aaffb07bc7198f4987542bbcb1802cb95941daa4756682b84", func := "ductus/ductuslaw12.ChainParts", spec := "chainParts", inPlace := ["math/bits.Add64", "math/bits.Sub64"], unfollowed := true, recurses := true, named := ["math/bits.divideError", "math/bits.overflowError"], apart := false }
def ChainPartsSaid : Prop := chainPartsRow.holds Try.pinned (OpenSpec.ofChange chainPartsSpec)

/-- ITS FALSE NEIGHBOUR: 'it returns false'. Refute it at one input. -/
def chainPartsWrong : ChangeSpec := { name := "chainParts", fn := fun _ => fun
  | [d1, d2, d3, d4] => { results := [.lit (.bool false)], args := [d1, d2, d3, d4] }
  | _ => none }
def ChainPartsWrongFalsely : Prop := chainPartsRow.holds Try.pinned (OpenSpec.ofChange chainPartsWrong)

/-- 'ductuslaw12.ChainBack': WHATEVER THE INPUT: true; the input reads as it did. -/
def chainBackSpec : ChangeSpec := { name := "chainBack", fn := fun _ => fun
  | [d1, d2] => { results := [.lit (.bool true)], args := [d1, d2] }
  | _ => none }
def chainBackRow : OpenClaim := { program := "ytcdnekhpeghkiaa", sum := "5dcd4640726f622aaffb07bc7198f4987542bbcb1802cb95941daa4756682b84", func := "ductus/ductuslaw12.ChainBack", spec := "chainBack", inPlace := ["math/bits.Add64", "math/bits.Sub64"], unfollowed := true, recurses := true, named := ["math/bits.divideError", "math/bits.overflowError"], apart := false }
def ChainBackSaid : Prop := chainBackRow.holds Try.pinned (OpenSpec.ofChange chainBackSpec)

/-- ITS FALSE NEIGHBOUR: 'it returns false'. Refute it at one input. -/
def chainBackWrong : ChangeSpec := { name := "chainBack", fn := fun _ => fun
  | [d1, d2] => { results := [.lit (.bool false)], args := [d1, d2] }
  | _ => none }
def ChainBackWrongFalsely : Prop := chainBackRow.holds Try.pinned (OpenSpec.ofChange chainBackWrong)

/-- 'ductuslaw10.FlattenChains': WHATEVER THE INPUT: true; the input reads as it did. -/
def flattenChainsSpec : ChangeSpec := { name := "flattenChains", fn := fun _ => fun
  | [d1, d2] => { results := [.lit (.bool true)], args := [d1, d2] }
  | _ => none }
def flattenChainsRow : OpenClaim := { program := "ytcdnekhpeghkiaa", sum := "5dcd4640726f622aaffb07bc7198f4987542bbcb1802cb95941daa4756682b84", func := "ductus/ductuslaw10.FlattenChains", spec := "flattenChains", inPlace := ["math/bits.Sub64", "math/bits.Add64"], unfollowed := true, recurses := true, named := ["math/bits.divideError", "math/bits.overflowError"], apart := false }
def FlattenChainsSaid : Prop := flattenChainsRow.holds Try.pinned (OpenSpec.ofChange flattenChainsSpec)

/-- ITS FALSE NEIGHBOUR: 'it returns false'. Refute it at one input. -/
def flattenChainsWrong : ChangeSpec := { name := "flattenChains", fn := fun _ => fun
  | [d1, d2] => { results := [.lit (.bool false)], args := [d1, d2] }
  | _ => none }
def FlattenChainsWrongFalsely : Prop := flattenChainsRow.holds Try.pinned (OpenSpec.ofChange flattenChainsWrong)

/-- 'ductuslaw10.FlattenAll': WHATEVER THE INPUT: true; the input reads as it did. -/
def flattenAllSpec : ChangeSpec := { name := "flattenAll", fn := fun _ => fun
  | [d1, d2] => { results := [.lit (.bool true)], args := [d1, d2] }
  | _ => none }
def flattenAllRow : OpenClaim := { program := "ytcdnekhpeghkiaa", sum := "5dcd4640726f622aaffb07bc7198f4987542bbcb1802cb95941daa4756682b84", func := "ductus/ductuslaw10.FlattenAll", spec := "flattenAll", inPlace := ["math/bits.Sub64", "math/bits.Add64"], unfollowed := true, recurses := true, named := ["math/bits.divideError", "math/bits.overflowError"], apart := false }
def FlattenAllSaid : Prop := flattenAllRow.holds Try.pinned (OpenSpec.ofChange flattenAllSpec)

/-- ITS FALSE NEIGHBOUR: 'it returns false'. Refute it at one input. -/
def flattenAllWrong : ChangeSpec := { name := "flattenAll", fn := fun _ => fun
  | [d1, d2] => { results := [.lit (.bool false)], args := [d1, d2] }
  | _ => none }
def FlattenAllWrongFalsely : Prop := flattenAllRow.holds Try.pinned (OpenSpec.ofChange flattenAllWrong)

/- THE SECOND FORM. 'bulk': how many values and letters a reading holds, each counted each time it is reached (what is shared counts as often as it is met; a slice's spare places count too). A statement '..UptoSaid' is the law's where the arguments, and the package variables that the reading takes, are together of bulk at most 1048576: NARROWER than '..Said'. Prove '..Said' where nothing that the law and all that it calls make is longer than what came in: it says more and counts as full. Else prove '..UptoSaid'. A law counts once. -/
mutual
def uptoBulk {H : Type} : DataW H → Nat
  | .lit (.string bytes) => bytes.length + 1
  | .lit _ => 1
  | .nil => 1
  | .ptr d => uptoBulk d + 1
  | .slice elems spare => uptoBulkAll elems + uptoBulkAll spare + 1
  | .agg parts => uptoBulkAll parts + 1
  | .iface _ d => uptoBulk d + 1
  | .map entries => uptoBulkEntries entries + 1
  | .held _ => 1
def uptoBulkAll {H : Type} : List (DataW H) → Nat
  | [] => 0
  | d :: r => uptoBulk d + uptoBulkAll r
def uptoBulkEntries {H : Type} : List (Lit × DataW H) → Nat
  | [] => 0
  | x :: r => uptoBulkEntry x + uptoBulkEntries r
def uptoBulkEntry {H : Type} : Lit × DataW H → Nat
  | (.string bytes, d) => bytes.length + uptoBulk d + 1
  | (_, d) => uptoBulk d + 1
 end
def uptoSmall : (H : Type) → List (DataW H) → Bool := fun _ ds => decide (uptoBulkAll ds ≤ 1048576)
def OpenSpec.upto (s : _root_.Go.ChangeSpec) : _root_.Go.OpenSpec := { _root_.Go.OpenSpec.ofChange s with cond := some uptoSmall }

/-- 'ductuslaw10.FlattenPoints', WHERE WHAT IT READS IS OF BULK AT MOST 1048576: true; the input reads as it did. -/
def flattenPointsUptoRow : OpenClaim := { program := "ytcdnekhpeghkiaa", sum := "5dcd4640726f622aaffb07bc7198f4987542bbcb1802cb95941daa4756682b84", func := "ductus/ductuslaw10.FlattenPoints", spec := "flattenPoints", inPlace := ["math/bits.Sub64", "math/bits.Add64"], unfollowed := true, recurses := true, named := ["math/bits.divideError", "math/bits.overflowError"], apart := false, narrowed := true }
def FlattenPointsUptoSaid : Prop := flattenPointsUptoRow.holds Try.pinned (OpenSpec.upto flattenPointsSpec)

/-- 'ductuslaw12.ChainCuts', WHERE WHAT IT READS IS OF BULK AT MOST 1048576: true; the input reads as it did. -/
def chainCutsUptoRow : OpenClaim := { program := "ytcdnekhpeghkiaa", sum := "5dcd4640726f622aaffb07bc7198f4987542bbcb1802cb95941daa4756682b84", func := "ductus/ductuslaw12.ChainCuts", spec := "chainCuts", inPlace := ["math/bits.Add64", "math/bits.Sub64"], unfollowed := true, recurses := true, named := ["math/bits.divideError", "math/bits.overflowError"], apart := false, narrowed := true }
def ChainCutsUptoSaid : Prop := chainCutsUptoRow.holds Try.pinned (OpenSpec.upto chainCutsSpec)

/-- 'ductuslaw12.ChainWhole', WHERE WHAT IT READS IS OF BULK AT MOST 1048576: true; the input reads as it did. -/
def chainWholeUptoRow : OpenClaim := { program := "ytcdnekhpeghkiaa", sum := "5dcd4640726f622aaffb07bc7198f4987542bbcb1802cb95941daa4756682b84", func := "ductus/ductuslaw12.ChainWhole", spec := "chainWhole", inPlace := ["math/bits.Add64", "math/bits.Sub64"], unfollowed := true, recurses := true, named := ["math/bits.divideError", "math/bits.overflowError"], apart := false, narrowed := true }
def ChainWholeUptoSaid : Prop := chainWholeUptoRow.holds Try.pinned (OpenSpec.upto chainWholeSpec)

/-- 'ductuslaw12.ChainWays', WHERE WHAT IT READS IS OF BULK AT MOST 1048576: true; the input reads as it did. -/
def chainWaysUptoRow : OpenClaim := { program := "ytcdnekhpeghkiaa", sum := "5dcd4640726f622aaffb07bc7198f4987542bbcb1802cb95941daa4756682b84", func := "ductus/ductuslaw12.ChainWays", spec := "chainWays", inPlace := ["math/bits.Add64", "math/bits.Sub64"], unfollowed := true, recurses := true, named := ["math/bits.divideError", "math/bits.overflowError"], apart := false, narrowed := true }
def ChainWaysUptoSaid : Prop := chainWaysUptoRow.holds Try.pinned (OpenSpec.upto chainWaysSpec)

/-- 'ductuslaw12.ChainParts', WHERE WHAT IT READS IS OF BULK AT MOST 1048576: true; the input reads as it did. -/
def chainPartsUptoRow : OpenClaim := { program := "ytcdnekhpeghkiaa", sum := "5dcd4640726f622aaffb07bc7198f4987542bbcb1802cb95941daa4756682b84", func := "ductus/ductuslaw12.ChainParts", spec := "chainParts", inPlace := ["math/bits.Add64", "math/bits.Sub64"], unfollowed := true, recurses := true, named := ["math/bits.divideError", "math/bits.overflowError"], apart := false, narrowed := true }
def ChainPartsUptoSaid : Prop := chainPartsUptoRow.holds Try.pinned (OpenSpec.upto chainPartsSpec)

/-- 'ductuslaw12.ChainBack', WHERE WHAT IT READS IS OF BULK AT MOST 1048576: true; the input reads as it did. -/
def chainBackUptoRow : OpenClaim := { program := "ytcdnekhpeghkiaa", sum := "5dcd4640726f622aaffb07bc7198f4987542bbcb1802cb95941daa4756682b84", func := "ductus/ductuslaw12.ChainBack", spec := "chainBack", inPlace := ["math/bits.Add64", "math/bits.Sub64"], unfollowed := true, recurses := true, named := ["math/bits.divideError", "math/bits.overflowError"], apart := false, narrowed := true }
def ChainBackUptoSaid : Prop := chainBackUptoRow.holds Try.pinned (OpenSpec.upto chainBackSpec)

/-- 'ductuslaw10.FlattenChains', WHERE WHAT IT READS IS OF BULK AT MOST 1048576: true; the input reads as it did. -/
def flattenChainsUptoRow : OpenClaim := { program := "ytcdnekhpeghkiaa", sum := "5dcd4640726f622aaffb07bc7198f4987542bbcb1802cb95941daa4756682b84", func := "ductus/ductuslaw10.FlattenChains", spec := "flattenChains", inPlace := ["math/bits.Sub64", "math/bits.Add64"], unfollowed := true, recurses := true, named := ["math/bits.divideError", "math/bits.overflowError"], apart := false, narrowed := true }
def FlattenChainsUptoSaid : Prop := flattenChainsUptoRow.holds Try.pinned (OpenSpec.upto flattenChainsSpec)

/-- 'ductuslaw10.FlattenAll', WHERE WHAT IT READS IS OF BULK AT MOST 1048576: true; the input reads as it did. -/
def flattenAllUptoRow : OpenClaim := { program := "ytcdnekhpeghkiaa", sum := "5dcd4640726f622aaffb07bc7198f4987542bbcb1802cb95941daa4756682b84", func := "ductus/ductuslaw10.FlattenAll", spec := "flattenAll", inPlace := ["math/bits.Sub64", "math/bits.Add64"], unfollowed := true, recurses := true, named := ["math/bits.divideError", "math/bits.overflowError"], apart := false, narrowed := true }
def FlattenAllUptoSaid : Prop := flattenAllUptoRow.holds Try.pinned (OpenSpec.upto flattenAllSpec)

end Rows
end Go.Proofs.Ytcdnekhpeghkiaa
