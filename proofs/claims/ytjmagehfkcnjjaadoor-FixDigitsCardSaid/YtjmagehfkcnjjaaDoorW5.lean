/-
  The contracts of the reference's functions on wide numbers.
-/
import Derived.Test.YtjmagehfkcnjjaaDoorW4
namespace Go.Proofs.YtjmagehfkcnjjaaDoor
set_option linter.unusedVariables false
open Go.RowKit

end Go.Proofs.YtjmagehfkcnjjaaDoor
