/-
  Is a segment simple?
-/
import Derived.Test.YtdlemjecocmbgaaKD
import Derived.Test.YtdlemjecocmbgaaB6
namespace Go.Proofs.Ytdlemjecocmbgaa
set_option linter.unusedVariables false
open Go.RowKit


end Go.Proofs.Ytdlemjecocmbgaa
