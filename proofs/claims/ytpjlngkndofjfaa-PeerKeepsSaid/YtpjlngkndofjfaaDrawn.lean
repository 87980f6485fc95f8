/-
  Worlds from which numbers were drawn.
-/
import Derived.Test.YtpjlngkndofjfaaLib
import Derived.Deep.DeepCutAuto
import Derived.Deep.QuietTactic
import Derived.Deep.RegionHeld3
namespace Go.Proofs.Ytpjlngkndofjfaa
open Go.RowKit

theorem since_drewN {g : Nat} {W w : World} (h : Since g W w) : ∀ n, Since g W (w.drewN n)
  | 0 => h
  | n + 1 => (since_drewN h n).drew
end Go.Proofs.Ytpjlngkndofjfaa
