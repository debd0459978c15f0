/-
  The law's fixed of layer 10: contract.
-/
import Derived.Test.YtbafhclandendaaLg
namespace Go.Proofs.Ytbafhclandendaa
open Go.J Go.RowKit
set_option linter.unusedVariables false
set_option linter.unusedSimpArgs false
set_option maxRecDepth 4000

end Go.Proofs.Ytbafhclandendaa
