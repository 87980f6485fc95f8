/-
  audit.Blamed walked.
-/
import Derived.Test.YtnpdojjffbhalaaGreatLaws
import Derived.Test.YtnpdojjffbhalaaGreatRepair
import Derived.Deep.QuietTactic
import Derived.BigQuiet
namespace Go.Proofs.YtnpdojjffbhalaaGreat
open Go.RowKit

end Go.Proofs.YtnpdojjffbhalaaGreat
