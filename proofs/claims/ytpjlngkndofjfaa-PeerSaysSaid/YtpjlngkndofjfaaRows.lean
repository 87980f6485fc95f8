/-
  No cell of these rows narrows 'for every input' (looked for: loops, veiled, ifaces, maps, wideKeys, modest, calm, conditions, laid).
  DERIVED. THE GIVEN ROWS OF THIS SEAT. 4 by the template 'for every input the law returns true; each argument reads behind the call as it read before'; 0 by the template 'total and deterministic' (their statements: YtpjlngkndofjfaaTotals.lean).
  GIVEN WITH THE SEED: the statements are not yours to turn. If you find one false, say at which input.
  Laid BY PROGRAM, IN A SANDBOX (cutbox-rows.mjs): the forced cells as the released guide's own fill.sh prints them over the translation 9145bdf85ff90a2b… (all of the seat's roots in one cut). By AI agents, Wed Nov 11 2026. No macro, syntax, notation, axiom, sorry.
-/
import Derived.Test.YtpjlngkndofjfaaChecked
import GoSem.Claim
import GoSem.ClaimJoined
import GoSem.ClaimMapViews
import Derived.JoinedTies
import Derived.KernelRfl
namespace Go.Proofs.Ytpjlngkndofjfaa
/- THE CELL 'sum', in the pinned program and in every row, IS THE sha256 OF THE DUMP (.gsa) THAT YtpjlngkndofjfaaProg.lean LOADS. Nothing in Lean hashes anything: it is a label: what it is worth is what the hold of that sum in a sandbox is worth. -/
noncomputable def Try.pinned : Pinned := { name := "ytpjlngkndofjfaa", sum := "9145bdf85ff90a2b5794e25219cad00a9b3ddbc9c6f2321536bf1640a9d75fb4", checked := Try.checked }
namespace Rows
def none {H : Type} : Left H := { results := [], args := [] }

/-- 'cellarmanlaw.PlaceSays': WHATEVER THE INPUT: true; the input reads as it did. -/
def placeSaysSpec : ChangeSpec := { name := "placeSays", fn := fun _ => fun
  | [d1, d2, d3, d4] => { results := [.lit (.bool true)], args := [d1, d2, d3, d4] }
  | _ => none }
def placeSaysRow : OpenClaim := { program := "ytpjlngkndofjfaa", sum := "9145bdf85ff90a2b5794e25219cad00a9b3ddbc9c6f2321536bf1640a9d75fb4", func := "cellarman/cellarmanlaw.PlaceSays", spec := "placeSays", unfollowed := true, recurses := true, apart := false }
def PlaceSaysSaid : Prop := placeSaysRow.holds Try.pinned (OpenSpec.ofChange placeSaysSpec)

/-- ITS FALSE NEIGHBOUR: 'it returns false'. Refute it at one input. -/
def placeSaysWrong : ChangeSpec := { name := "placeSays", fn := fun _ => fun
  | [d1, d2, d3, d4] => { results := [.lit (.bool false)], args := [d1, d2, d3, d4] }
  | _ => none }
def PlaceSaysWrongFalsely : Prop := placeSaysRow.holds Try.pinned (OpenSpec.ofChange placeSaysWrong)

/-- 'cellarmanlaw.PlaceFair': WHATEVER THE INPUT: true; the input reads as it did. -/
def placeFairSpec : ChangeSpec := { name := "placeFair", fn := fun _ => fun
  | [d1, d2, d3, d4] => { results := [.lit (.bool true)], args := [d1, d2, d3, d4] }
  | _ => none }
def placeFairRow : OpenClaim := { program := "ytpjlngkndofjfaa", sum := "9145bdf85ff90a2b5794e25219cad00a9b3ddbc9c6f2321536bf1640a9d75fb4", func := "cellarman/cellarmanlaw.PlaceFair", spec := "placeFair", unfollowed := true, recurses := true, apart := false }
def PlaceFairSaid : Prop := placeFairRow.holds Try.pinned (OpenSpec.ofChange placeFairSpec)

/-- ITS FALSE NEIGHBOUR: 'it returns false'. Refute it at one input. -/
def placeFairWrong : ChangeSpec := { name := "placeFair", fn := fun _ => fun
  | [d1, d2, d3, d4] => { results := [.lit (.bool false)], args := [d1, d2, d3, d4] }
  | _ => none }
def PlaceFairWrongFalsely : Prop := placeFairRow.holds Try.pinned (OpenSpec.ofChange placeFairWrong)

/-- 'cellarmanlaw.PeerKeeps': WHATEVER THE INPUT: true; the input reads as it did. -/
def peerKeepsSpec : ChangeSpec := { name := "peerKeeps", fn := fun _ => fun
  | [d1, d2, d3] => { results := [.lit (.bool true)], args := [d1, d2, d3] }
  | _ => none }
def peerKeepsRow : OpenClaim := { program := "ytpjlngkndofjfaa", sum := "9145bdf85ff90a2b5794e25219cad00a9b3ddbc9c6f2321536bf1640a9d75fb4", func := "cellarman/cellarmanlaw.PeerKeeps", spec := "peerKeeps", inPlace := ["slices.overlaps[cellarman/api.Kept]"], unfollowed := true, recurses := true, apart := false }
def PeerKeepsSaid : Prop := peerKeepsRow.holds Try.pinned (OpenSpec.ofChange peerKeepsSpec)

/-- ITS FALSE NEIGHBOUR: 'it returns false'. Refute it at one input. -/
def peerKeepsWrong : ChangeSpec := { name := "peerKeeps", fn := fun _ => fun
  | [d1, d2, d3] => { results := [.lit (.bool false)], args := [d1, d2, d3] }
  | _ => none }
def PeerKeepsWrongFalsely : Prop := peerKeepsRow.holds Try.pinned (OpenSpec.ofChange peerKeepsWrong)

/-- 'cellarmanlaw.PeerSays': WHATEVER THE INPUT: true; the input reads as it did. -/
def peerSaysSpec : ChangeSpec := { name := "peerSays", fn := fun _ => fun
  | [d1, d2, d3, d4, d5] => { results := [.lit (.bool true)], args := [d1, d2, d3, d4, d5] }
  | _ => none }
def peerSaysRow : OpenClaim := { program := "ytpjlngkndofjfaa", sum := "9145bdf85ff90a2b5794e25219cad00a9b3ddbc9c6f2321536bf1640a9d75fb4", func := "cellarman/cellarmanlaw.PeerSays", spec := "peerSays", inPlace := ["slices.overlaps[cellarman/api.Kept]"], unfollowed := true, recurses := true, apart := false }
def PeerSaysSaid : Prop := peerSaysRow.holds Try.pinned (OpenSpec.ofChange peerSaysSpec)

/-- ITS FALSE NEIGHBOUR: 'it returns false'. Refute it at one input. -/
def peerSaysWrong : ChangeSpec := { name := "peerSays", fn := fun _ => fun
  | [d1, d2, d3, d4, d5] => { results := [.lit (.bool false)], args := [d1, d2, d3, d4, d5] }
  | _ => none }
def PeerSaysWrongFalsely : Prop := peerSaysRow.holds Try.pinned (OpenSpec.ofChange peerSaysWrong)

/- THE SECOND FORM. 'bulk': how many values and letters a reading holds, each counted each time it is reached (what is shared counts as often as it is met; a slice's spare places count too). A statement '..UptoSaid' is the law's where the arguments, and the package variables that the reading takes, are together of bulk at most 1048576: NARROWER than '..Said'. Prove '..Said' where nothing that the law and all that it calls make is longer than what came in: it says more and counts as full. Else prove '..UptoSaid'. A law counts once. -/
mutual
def uptoBulk {H : Type} : DataW H → Nat
  | .lit (.string bytes) => bytes.length + 1
  | .lit _ => 1
  | .nil => 1
  | .ptr d => uptoBulk d + 1
  | .slice elems spare => uptoBulkAll elems + uptoBulkAll spare + 1
  | .agg parts => uptoBulkAll parts + 1
  | .iface _ d => uptoBulk d + 1
  | .map entries => uptoBulkEntries entries + 1
  | .held _ => 1
def uptoBulkAll {H : Type} : List (DataW H) → Nat
  | [] => 0
  | d :: r => uptoBulk d + uptoBulkAll r
def uptoBulkEntries {H : Type} : List (Lit × DataW H) → Nat
  | [] => 0
  | x :: r => uptoBulkEntry x + uptoBulkEntries r
def uptoBulkEntry {H : Type} : Lit × DataW H → Nat
  | (.string bytes, d) => bytes.length + uptoBulk d + 1
  | (_, d) => uptoBulk d + 1
 end
def uptoSmall : (H : Type) → List (DataW H) → Bool := fun _ ds => decide (uptoBulkAll ds ≤ 1048576)
def OpenSpec.upto (s : _root_.Go.ChangeSpec) : _root_.Go.OpenSpec := { _root_.Go.OpenSpec.ofChange s with cond := some uptoSmall }

/-- 'cellarmanlaw.PlaceSays', WHERE WHAT IT READS IS OF BULK AT MOST 1048576: true; the input reads as it did. -/
def placeSaysUptoRow : OpenClaim := { program := "ytpjlngkndofjfaa", sum := "9145bdf85ff90a2b5794e25219cad00a9b3ddbc9c6f2321536bf1640a9d75fb4", func := "cellarman/cellarmanlaw.PlaceSays", spec := "placeSays", unfollowed := true, recurses := true, apart := false, narrowed := true }
def PlaceSaysUptoSaid : Prop := placeSaysUptoRow.holds Try.pinned (OpenSpec.upto placeSaysSpec)

/-- 'cellarmanlaw.PlaceFair', WHERE WHAT IT READS IS OF BULK AT MOST 1048576: true; the input reads as it did. -/
def placeFairUptoRow : OpenClaim := { program := "ytpjlngkndofjfaa", sum := "9145bdf85ff90a2b5794e25219cad00a9b3ddbc9c6f2321536bf1640a9d75fb4", func := "cellarman/cellarmanlaw.PlaceFair", spec := "placeFair", unfollowed := true, recurses := true, apart := false, narrowed := true }
def PlaceFairUptoSaid : Prop := placeFairUptoRow.holds Try.pinned (OpenSpec.upto placeFairSpec)

/-- 'cellarmanlaw.PeerKeeps', WHERE WHAT IT READS IS OF BULK AT MOST 1048576: true; the input reads as it did. -/
def peerKeepsUptoRow : OpenClaim := { program := "ytpjlngkndofjfaa", sum := "9145bdf85ff90a2b5794e25219cad00a9b3ddbc9c6f2321536bf1640a9d75fb4", func := "cellarman/cellarmanlaw.PeerKeeps", spec := "peerKeeps", inPlace := ["slices.overlaps[cellarman/api.Kept]"], unfollowed := true, recurses := true, apart := false, narrowed := true }
def PeerKeepsUptoSaid : Prop := peerKeepsUptoRow.holds Try.pinned (OpenSpec.upto peerKeepsSpec)

/-- 'cellarmanlaw.PeerSays', WHERE WHAT IT READS IS OF BULK AT MOST 1048576: true; the input reads as it did. -/
def peerSaysUptoRow : OpenClaim := { program := "ytpjlngkndofjfaa", sum := "9145bdf85ff90a2b5794e25219cad00a9b3ddbc9c6f2321536bf1640a9d75fb4", func := "cellarman/cellarmanlaw.PeerSays", spec := "peerSays", inPlace := ["slices.overlaps[cellarman/api.Kept]"], unfollowed := true, recurses := true, apart := false, narrowed := true }
def PeerSaysUptoSaid : Prop := peerSaysUptoRow.holds Try.pinned (OpenSpec.upto peerSaysSpec)

end Rows
end Go.Proofs.Ytpjlngkndofjfaa
