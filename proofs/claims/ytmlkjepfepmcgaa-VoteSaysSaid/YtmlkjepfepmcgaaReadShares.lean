/-
  The reading of a slice of shares.
-/
import Derived.Test.YtmlkjepfepmcgaaRowAll
namespace Go.Proofs.Ytmlkjepfepmcgaa
variable {H : Type} {enc : TypeId × Value → H} {W : World} {base : Nat} {v : Value} {d : DataW H} {ps : List MemPlace}
set_option maxRecDepth 100000 in
theorem read_shares (hv : Value.okWide Try.prog W .any base 24 v) (h : DataW.Trod enc Try.prog W 0 (fun _ => true) true 24 v d ps) (hz : ∀ n ∈ d.weights Try.prog 24, n ≤ reachBytes) : ∃ ls, IsShares W v ls := by
  obtain ⟨l, hl⟩ := read_slice Try.underlying24 (reads_row Try.underlying24 cells_share (by omega) (by rw [show Try.prog.bytesOf 38 = 32 by kernel_rfl]; omega) reads_share) hv h hz
  exact ⟨l, isShares_of_row hl⟩
end Go.Proofs.Ytmlkjepfepmcgaa
