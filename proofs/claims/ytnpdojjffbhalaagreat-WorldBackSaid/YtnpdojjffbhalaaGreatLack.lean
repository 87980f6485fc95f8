/-
  audit.Lacking walked.
-/
import Derived.Test.YtnpdojjffbhalaaGreatSpare
namespace Go.Proofs.YtnpdojjffbhalaaGreat
open Go.RowKit

end Go.Proofs.YtnpdojjffbhalaaGreat
