/-
  The reading of a slice of shares.
-/
import Derived.Test.YtnpdojjffbhalaaRowAll
namespace Go.Proofs.Ytnpdojjffbhalaa
variable {H : Type} {enc : TypeId × Value → H} {W : World} {base : Nat} {v : Value} {d : DataW H} {ps : List MemPlace}
set_option maxRecDepth 100000 in
theorem read_shares (hv : Value.okWide Try.prog W .any base 25 v) (h : DataW.Trod enc Try.prog W 0 (fun _ => true) true 25 v d ps) (hz : ∀ n ∈ d.weights Try.prog 25, n ≤ reachBytes) : ∃ ls, IsShares W v ls := by
  obtain ⟨l, hl⟩ := read_slice Try.underlying25 (reads_row Try.underlying25 cells_share (by omega) (by rw [show Try.prog.bytesOf 33 = 32 by kernel_rfl]; omega) reads_share) hv h hz
  exact ⟨l, isShares_of_row hl⟩
end Go.Proofs.Ytnpdojjffbhalaa
