/-
  The halves of a segment that waits.
-/
import Derived.Test.YtdlemjecocmbgaaKD
namespace Go.Proofs.Ytdlemjecocmbgaa
set_option linter.unusedVariables false
open Go.RowKit


end Go.Proofs.Ytdlemjecocmbgaa
