/-
  The walk of the reference's Without.
-/
import Derived.Test.YtjakdgchfimhkaaGreatDeeps
import Derived.Test.YtjakdgchfimhkaaGreatMends
namespace Go.Proofs.YtjakdgchfimhkaaGreat
open Go.RowKit

theorem dropK_step {v : Int} {l : List Kp} {k : Nat} {x : Kp} (h : l[k]? = some x) : dropK v (l.take (k + 1)) = dropK v (l.take k) ++ (if x.1 ≠ v then [x] else []) := by
  unfold dropK
  rw [take_get h, List.filter_append]
  congr 1
  by_cases hx : x.1 = v <;> simp [hx]
theorem dropK_len (v : Int) (l : List Kp) : (dropK v l).length ≤ l.length := List.length_filter_le _ _

end Go.Proofs.YtjakdgchfimhkaaGreat
