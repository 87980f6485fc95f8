/-
  tale.Spare, audit.Lacking walked.
-/
import Derived.Test.YtnpdojjffbhalaaGreatLaws
import Derived.Test.YtnpdojjffbhalaaGreatSaves
import Derived.Test.YtnpdojjffbhalaaGreatCopies
import Derived.Deep.QuietTactic
import Derived.BigQuiet
namespace Go.Proofs.YtnpdojjffbhalaaGreat
open Go.RowKit

section
open Go.Maps
theorem OwnsSet.lenOnce {P : Program} {k e t : TypeId} {w : World} {b : Nat} {l : List Int} (h : OwnsSet P k e w b l) (ht : P.underlying t = some (.map k e)) (ty : TypeId) :
    (Builtin.len_ #[t] ty #[.map (some b)]).run P w = .ok (.int .i64 ((onceL l).length : Int)) w := by
  have h2 := World.ownsMap.len h ht ty
  rw [size_setOf _ _ (keyLit_ints l)] at h2
  have := addKey_map l []
  rw [List.map_nil] at this
  rw [this, List.length_map] at h2
  exact h2
end
theorem onceL_len (l : List Int) : (onceL l).length ≤ l.length := by
  have h : ∀ (l acc : List Int), (l.foldl (fun acc x => if x ∈ acc then acc else acc ++ [x]) acc).length ≤ acc.length + l.length := by
    intro l
    induction l with
    | nil => simp
    | cons x l ih =>
      intro acc
      rw [List.foldl_cons]
      have := ih (if x ∈ acc then acc else acc ++ [x])
      have h2 : (if x ∈ acc then acc else acc ++ [x]).length ≤ acc.length + 1 := by split <;> simp
      simp only [List.length_cons]
      omega
  simpa [onceL] using h l []
theorem ret_nE {a b c d : Int} (h : a = b) (g : c = d) : Ending.returned (.tuple #[.int .i64 a, .int .i64 c]) = .returned (.tuple #[.int .i64 b, .int .i64 d]) := by rw [h, g]
theorem zero_boolT (w : World) : (zeroValue 4).run Tryz.prog w = .ok (.bool false) w := by kernel_rfl
theorem numsS_none {v : Int} {p : Pr} (h : pickS v p = none) : ((pickS v p).map (·.1)).toList = [] := by rw [h]; rfl
theorem numsS_some {v : Int} {p : Pr} {s : Sh} (h : pickS v p = some s) : ((pickS v p).map (·.1)).toList = [s.1] := by rw [h]; rfl

end Go.Proofs.YtnpdojjffbhalaaGreat
