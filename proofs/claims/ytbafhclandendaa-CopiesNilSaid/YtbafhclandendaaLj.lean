/-
  RingWants: the walk.
-/
import Derived.Test.YtbafhclandendaaLi
namespace Go.Proofs.Ytbafhclandendaa
open Go.J Go.RowKit
set_option linter.unusedVariables false
set_option linter.unusedSimpArgs false
set_option maxRecDepth 4000
theorem wantI_le (me : IDV) (xs : List IDV) (half : Int) : (wantI me xs half).length ≤ xs.length := Nat.le_trans (List.length_filter_le _ _) (sortI_le xs me)

end Go.Proofs.Ytbafhclandendaa
