/-
  From what an argument reads as, to this proof's words for how it lies in memory.
-/
import Derived.Test.YtbodfbpikpkkbaaRows
import Derived.Test.YtbodfbpikpkkbaaLib
import Derived.ProofKit
import Derived.OpenShut
import Derived.SizedLaws
namespace Go.Proofs.Ytbodfbpikpkkbaa
open Go.ChangeShapes Go.WideShapes Go.ChangeAt Go.RowKit
section
variable {H : Type} {enc : TypeId × Value → H} {W : World} {base : Nat} {v : Value} {d : DataW H} {ps : List MemPlace}

theorem I64_of_wf {n : Int} (h : (Lit.int .i64 n).wf = true) : I64 n := by
  have hmin : IntKind.i64.min = -9223372036854775808 := rfl
  have hmax : IntKind.i64.max = 9223372036854775807 := rfl
  simp only [Lit.wf, Bool.and_eq_true, decide_eq_true_eq] at h
  unfold I64
  omega

theorem read_int (hv : Value.okWide Try.prog W .any base 3 v) (h : DataW.Trod enc Try.prog W 0 (fun _ => true) true 3 v d ps) (_hz : ∀ n ∈ d.weights Try.prog 3, n ≤ reachBytes) :
    ∃ x, IsInt v x := by
  obtain ⟨x, rfl, rfl, rfl, wx⟩ := open_int Try.underlying3 hv h
  exact ⟨x, rfl, I64_of_wf wx⟩

end
end Go.Proofs.Ytbodfbpikpkkbaa
