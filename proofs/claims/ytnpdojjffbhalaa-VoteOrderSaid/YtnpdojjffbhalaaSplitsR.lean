/-
  The walk of the reference's Splits.
-/
import Derived.Test.YtnpdojjffbhalaaShareOf
namespace Go.Proofs.Ytnpdojjffbhalaa
open Go.RowKit

theorem sharesL_step (n : Nat) (data : List Int) (k r : Nat) : sharesL n data (k + 1) r = sharesL n data k r ++ [shareL n data r k] := by simp [sharesL, List.range_succ]

end Go.Proofs.Ytnpdojjffbhalaa
