/-
  judged, a closed fact of audits, walked.
-/
import Derived.Test.YtnpdojjffbhalaaGreatWovens
import Derived.Test.YtnpdojjffbhalaaGreatBlamed
import Derived.Test.YtnpdojjffbhalaaGreatLack
namespace Go.Proofs.YtnpdojjffbhalaaGreat
open Go.RowKit

def jdB : Me := ([([], 2, 4, 3)], [(true, 2, [(0, 0, [5, 9])]), (true, 2, [(0, 1, [8, 0])]), (true, 2, [(0, 2, [9, 22])]), (true, 2, [(0, 3, [11, 13])]), (true, 2, [])])
def jdG : Me := ([([], 2, 4, 3)], [(true, 2, [(0, 0, [5, 9])]), (true, 2, [(0, 1, [8, 0])]), (true, 2, [(0, 2, [9, 22])]), (false, 2, [(0, 3, [11, 13])]), (true, 2, [])])
theorem jdB_blame : blamedE jdB 0 = 0 ∧ blamedC jdB 0 = [1] := by decide +kernel
theorem jdG_lack : readyE jdG 0 = 0 ∧ lackV jdG 0 = 1 ∧ readyE jdG 1 = 4 := by decide +kernel

end Go.Proofs.YtnpdojjffbhalaaGreat
