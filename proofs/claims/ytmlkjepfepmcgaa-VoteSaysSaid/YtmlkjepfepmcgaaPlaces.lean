/-
  The walks of what checks a peer: the program's and the reference's.
  The walk of what checks a peer: the reference's.
  The walks of what checks peers: the program's and the reference's.
  Who gets a share, in plain lists: sorted, and as the reference gathers them.
  Meshes: what is there of a version, what is restored.
-/
import Derived.Test.YtmlkjepfepmcgaaPeers
import Derived.Test.YtmlkjepfepmcgaaBooks
import Derived.Test.YtmlkjepfepmcgaaRowAll
import Derived.Test.YtmlkjepfepmcgaaBase
import Derived.Test.YtmlkjepfepmcgaaShares
namespace Go.Proofs.Ytmlkjepfepmcgaa
open Go.RowKit

end Go.Proofs.Ytmlkjepfepmcgaa

namespace Go.Proofs.Ytmlkjepfepmcgaa
open Go.RowKit

end Go.Proofs.Ytmlkjepfepmcgaa

namespace Go.Proofs.Ytmlkjepfepmcgaa
open Go.RowKit

end Go.Proofs.Ytmlkjepfepmcgaa

namespace Go.Proofs.Ytmlkjepfepmcgaa

/-- How much room a peer has left; one's at a place. -/
def leftV (p : Pr) : Int := p.2.1 - (p.2.2.length : Int)
def leftAt (l : List Pr) (k : Int) : Int := ((l[k.toNat]?).map leftV).getD 0
/-- x comes ahead of y. -/
def ahead (l : List Pr) (x y : Int) : Prop := leftAt l y < leftAt l x ∨ (leftAt l x = leftAt l y ∧ x < y)
end Go.Proofs.Ytmlkjepfepmcgaa

namespace Go.Proofs.Ytmlkjepfepmcgaa

/-- A mesh: its versions, its peers. -/
abbrev Me := List Ver × List Pr
end Go.Proofs.Ytmlkjepfepmcgaa
