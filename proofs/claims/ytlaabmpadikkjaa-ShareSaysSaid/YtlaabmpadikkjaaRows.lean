/-
  No cell of these rows narrows 'for every input' (looked for: loops, veiled, ifaces, maps, wideKeys, modest, calm, conditions, laid).
  DERIVED. THE GIVEN ROWS OF THIS SEAT. 10 by the template 'for every input the law returns true; each argument reads behind the call as it read before'; 0 by the template 'total and deterministic' (their statements: YtlaabmpadikkjaaTotals.lean).
  GIVEN WITH THE SEED: the statements are not yours to turn. If you find one false, say at which input.
  Laid BY PROGRAM, IN A SANDBOX (cutbox-rows.mjs): the forced cells as the released guide's own fill.sh prints them over the translation 2191b4b3147c3900… (all of the seat's roots in one cut). By AI agents, Wed Nov 11 2026. No macro, syntax, notation, axiom, sorry.
-/
import Derived.Test.YtlaabmpadikkjaaChecked
import GoSem.Claim
import GoSem.ClaimJoined
import GoSem.ClaimMapViews
import Derived.JoinedTies
import Derived.KernelRfl
namespace Go.Proofs.Ytlaabmpadikkjaa
/- THE CELL 'sum', in the pinned program and in every row, IS THE sha256 OF THE DUMP (.gsa) THAT YtlaabmpadikkjaaProg.lean LOADS. Nothing in Lean hashes anything: it is a label: what it is worth is what the hold of that sum in a sandbox is worth. -/
noncomputable def Try.pinned : Pinned := { name := "ytlaabmpadikkjaa", sum := "2191b4b3147c3900bdd18c0c2e7ef4bf3793bd9b4f5421fb17c57ecbed8eb139", checked := Try.checked }
namespace Rows
def none {H : Type} : Left H := { results := [], args := [] }

/-- 'cellarmanlaw.ShareBegins': WHATEVER THE INPUT: true; the input reads as it did. -/
def shareBeginsSpec : ChangeSpec := { name := "shareBegins", fn := fun _ => fun
  | [d1, d2] => { results := [.lit (.bool true)], args := [d1, d2] }
  | _ => none }
def shareBeginsRow : OpenClaim := { program := "ytlaabmpadikkjaa", sum := "2191b4b3147c3900bdd18c0c2e7ef4bf3793bd9b4f5421fb17c57ecbed8eb139", func := "cellarman/cellarmanlaw.ShareBegins", spec := "shareBegins", unfollowed := true, recurses := true, apart := false }
def ShareBeginsSaid : Prop := shareBeginsRow.holds Try.pinned (OpenSpec.ofChange shareBeginsSpec)

/-- ITS FALSE NEIGHBOUR: 'it returns false'. Refute it at one input. -/
def shareBeginsWrong : ChangeSpec := { name := "shareBegins", fn := fun _ => fun
  | [d1, d2] => { results := [.lit (.bool false)], args := [d1, d2] }
  | _ => none }
def ShareBeginsWrongFalsely : Prop := shareBeginsRow.holds Try.pinned (OpenSpec.ofChange shareBeginsWrong)

/-- 'cellarmanlaw.ShareAdds': WHATEVER THE INPUT: true; the input reads as it did. -/
def shareAddsSpec : ChangeSpec := { name := "shareAdds", fn := fun _ => fun
  | [d1, d2, d3] => { results := [.lit (.bool true)], args := [d1, d2, d3] }
  | _ => none }
def shareAddsRow : OpenClaim := { program := "ytlaabmpadikkjaa", sum := "2191b4b3147c3900bdd18c0c2e7ef4bf3793bd9b4f5421fb17c57ecbed8eb139", func := "cellarman/cellarmanlaw.ShareAdds", spec := "shareAdds", unfollowed := true, recurses := true, apart := false }
def ShareAddsSaid : Prop := shareAddsRow.holds Try.pinned (OpenSpec.ofChange shareAddsSpec)

/-- ITS FALSE NEIGHBOUR: 'it returns false'. Refute it at one input. -/
def shareAddsWrong : ChangeSpec := { name := "shareAdds", fn := fun _ => fun
  | [d1, d2, d3] => { results := [.lit (.bool false)], args := [d1, d2, d3] }
  | _ => none }
def ShareAddsWrongFalsely : Prop := shareAddsRow.holds Try.pinned (OpenSpec.ofChange shareAddsWrong)

/-- 'cellarmanlaw.ShareSays': WHATEVER THE INPUT: true; the input reads as it did. -/
def shareSaysSpec : ChangeSpec := { name := "shareSays", fn := fun _ => fun
  | [d1, d2, d3, d4, d5] => { results := [.lit (.bool true)], args := [d1, d2, d3, d4, d5] }
  | _ => none }
def shareSaysRow : OpenClaim := { program := "ytlaabmpadikkjaa", sum := "2191b4b3147c3900bdd18c0c2e7ef4bf3793bd9b4f5421fb17c57ecbed8eb139", func := "cellarman/cellarmanlaw.ShareSays", spec := "shareSays", unfollowed := true, recurses := true, apart := false }
def ShareSaysSaid : Prop := shareSaysRow.holds Try.pinned (OpenSpec.ofChange shareSaysSpec)

/-- ITS FALSE NEIGHBOUR: 'it returns false'. Refute it at one input. -/
def shareSaysWrong : ChangeSpec := { name := "shareSays", fn := fun _ => fun
  | [d1, d2, d3, d4, d5] => { results := [.lit (.bool false)], args := [d1, d2, d3, d4, d5] }
  | _ => none }
def ShareSaysWrongFalsely : Prop := shareSaysRow.holds Try.pinned (OpenSpec.ofChange shareSaysWrong)

/-- 'cellarmanlaw.ShareAny': WHATEVER THE INPUT: true; the input reads as it did. -/
def shareAnySpec : ChangeSpec := { name := "shareAny", fn := fun _ => fun
  | [d1, d2, d3, d4] => { results := [.lit (.bool true)], args := [d1, d2, d3, d4] }
  | _ => none }
def shareAnyRow : OpenClaim := { program := "ytlaabmpadikkjaa", sum := "2191b4b3147c3900bdd18c0c2e7ef4bf3793bd9b4f5421fb17c57ecbed8eb139", func := "cellarman/cellarmanlaw.ShareAny", spec := "shareAny", unfollowed := true, recurses := true, apart := false }
def ShareAnySaid : Prop := shareAnyRow.holds Try.pinned (OpenSpec.ofChange shareAnySpec)

/-- ITS FALSE NEIGHBOUR: 'it returns false'. Refute it at one input. -/
def shareAnyWrong : ChangeSpec := { name := "shareAny", fn := fun _ => fun
  | [d1, d2, d3, d4] => { results := [.lit (.bool false)], args := [d1, d2, d3, d4] }
  | _ => none }
def ShareAnyWrongFalsely : Prop := shareAnyRow.holds Try.pinned (OpenSpec.ofChange shareAnyWrong)

/-- 'cellarmanlaw.ShareTorn': WHATEVER THE INPUT: true; the input reads as it did. -/
def shareTornSpec : ChangeSpec := { name := "shareTorn", fn := fun _ => fun
  | [d1, d2, d3, d4, d5, d6] => { results := [.lit (.bool true)], args := [d1, d2, d3, d4, d5, d6] }
  | _ => none }
def shareTornRow : OpenClaim := { program := "ytlaabmpadikkjaa", sum := "2191b4b3147c3900bdd18c0c2e7ef4bf3793bd9b4f5421fb17c57ecbed8eb139", func := "cellarman/cellarmanlaw.ShareTorn", spec := "shareTorn", unfollowed := true, recurses := true, apart := false }
def ShareTornSaid : Prop := shareTornRow.holds Try.pinned (OpenSpec.ofChange shareTornSpec)

/-- ITS FALSE NEIGHBOUR: 'it returns false'. Refute it at one input. -/
def shareTornWrong : ChangeSpec := { name := "shareTorn", fn := fun _ => fun
  | [d1, d2, d3, d4, d5, d6] => { results := [.lit (.bool false)], args := [d1, d2, d3, d4, d5, d6] }
  | _ => none }
def ShareTornWrongFalsely : Prop := shareTornRow.holds Try.pinned (OpenSpec.ofChange shareTornWrong)

/-- 'cellarmanlaw.KinSays': WHATEVER THE INPUT: true; the input reads as it did. -/
def kinSaysSpec : ChangeSpec := { name := "kinSays", fn := fun _ => fun
  | [d1, d2, d3] => { results := [.lit (.bool true)], args := [d1, d2, d3] }
  | _ => none }
def kinSaysRow : OpenClaim := { program := "ytlaabmpadikkjaa", sum := "2191b4b3147c3900bdd18c0c2e7ef4bf3793bd9b4f5421fb17c57ecbed8eb139", func := "cellarman/cellarmanlaw.KinSays", spec := "kinSays", unfollowed := true, recurses := true, apart := false }
def KinSaysSaid : Prop := kinSaysRow.holds Try.pinned (OpenSpec.ofChange kinSaysSpec)

/-- ITS FALSE NEIGHBOUR: 'it returns false'. Refute it at one input. -/
def kinSaysWrong : ChangeSpec := { name := "kinSays", fn := fun _ => fun
  | [d1, d2, d3] => { results := [.lit (.bool false)], args := [d1, d2, d3] }
  | _ => none }
def KinSaysWrongFalsely : Prop := kinSaysRow.holds Try.pinned (OpenSpec.ofChange kinSaysWrong)

/-- 'cellarmanlaw.KinBoth': WHATEVER THE INPUT: true; the input reads as it did. -/
def kinBothSpec : ChangeSpec := { name := "kinBoth", fn := fun _ => fun
  | [d1, d2, d3] => { results := [.lit (.bool true)], args := [d1, d2, d3] }
  | _ => none }
def kinBothRow : OpenClaim := { program := "ytlaabmpadikkjaa", sum := "2191b4b3147c3900bdd18c0c2e7ef4bf3793bd9b4f5421fb17c57ecbed8eb139", func := "cellarman/cellarmanlaw.KinBoth", spec := "kinBoth", unfollowed := true, recurses := true, apart := false }
def KinBothSaid : Prop := kinBothRow.holds Try.pinned (OpenSpec.ofChange kinBothSpec)

/-- ITS FALSE NEIGHBOUR: 'it returns false'. Refute it at one input. -/
def kinBothWrong : ChangeSpec := { name := "kinBoth", fn := fun _ => fun
  | [d1, d2, d3] => { results := [.lit (.bool false)], args := [d1, d2, d3] }
  | _ => none }
def KinBothWrongFalsely : Prop := kinBothRow.holds Try.pinned (OpenSpec.ofChange kinBothWrong)

/-- 'cellarmanlaw.KinSelf': WHATEVER THE INPUT: true; the input reads as it did. -/
def kinSelfSpec : ChangeSpec := { name := "kinSelf", fn := fun _ => fun
  | [d1, d2, d3, d4] => { results := [.lit (.bool true)], args := [d1, d2, d3, d4] }
  | _ => none }
def kinSelfRow : OpenClaim := { program := "ytlaabmpadikkjaa", sum := "2191b4b3147c3900bdd18c0c2e7ef4bf3793bd9b4f5421fb17c57ecbed8eb139", func := "cellarman/cellarmanlaw.KinSelf", spec := "kinSelf", unfollowed := true, recurses := true, apart := false }
def KinSelfSaid : Prop := kinSelfRow.holds Try.pinned (OpenSpec.ofChange kinSelfSpec)

/-- ITS FALSE NEIGHBOUR: 'it returns false'. Refute it at one input. -/
def kinSelfWrong : ChangeSpec := { name := "kinSelf", fn := fun _ => fun
  | [d1, d2, d3, d4] => { results := [.lit (.bool false)], args := [d1, d2, d3, d4] }
  | _ => none }
def KinSelfWrongFalsely : Prop := kinSelfRow.holds Try.pinned (OpenSpec.ofChange kinSelfWrong)

/-- 'cellarmanlaw.BookSays': WHATEVER THE INPUT: true; the input reads as it did. -/
def bookSaysSpec : ChangeSpec := { name := "bookSays", fn := fun _ => fun
  | [d1, d2, d3, d4] => { results := [.lit (.bool true)], args := [d1, d2, d3, d4] }
  | _ => none }
def bookSaysRow : OpenClaim := { program := "ytlaabmpadikkjaa", sum := "2191b4b3147c3900bdd18c0c2e7ef4bf3793bd9b4f5421fb17c57ecbed8eb139", func := "cellarman/cellarmanlaw.BookSays", spec := "bookSays", unfollowed := true, recurses := true, apart := false }
def BookSaysSaid : Prop := bookSaysRow.holds Try.pinned (OpenSpec.ofChange bookSaysSpec)

/-- ITS FALSE NEIGHBOUR: 'it returns false'. Refute it at one input. -/
def bookSaysWrong : ChangeSpec := { name := "bookSays", fn := fun _ => fun
  | [d1, d2, d3, d4] => { results := [.lit (.bool false)], args := [d1, d2, d3, d4] }
  | _ => none }
def BookSaysWrongFalsely : Prop := bookSaysRow.holds Try.pinned (OpenSpec.ofChange bookSaysWrong)

/-- 'cellarmanlaw.BookGrows': WHATEVER THE INPUT: true; the input reads as it did. -/
def bookGrowsSpec : ChangeSpec := { name := "bookGrows", fn := fun _ => fun
  | [d1, d2, d3] => { results := [.lit (.bool true)], args := [d1, d2, d3] }
  | _ => none }
def bookGrowsRow : OpenClaim := { program := "ytlaabmpadikkjaa", sum := "2191b4b3147c3900bdd18c0c2e7ef4bf3793bd9b4f5421fb17c57ecbed8eb139", func := "cellarman/cellarmanlaw.BookGrows", spec := "bookGrows", unfollowed := true, recurses := true, apart := false }
def BookGrowsSaid : Prop := bookGrowsRow.holds Try.pinned (OpenSpec.ofChange bookGrowsSpec)

/-- ITS FALSE NEIGHBOUR: 'it returns false'. Refute it at one input. -/
def bookGrowsWrong : ChangeSpec := { name := "bookGrows", fn := fun _ => fun
  | [d1, d2, d3] => { results := [.lit (.bool false)], args := [d1, d2, d3] }
  | _ => none }
def BookGrowsWrongFalsely : Prop := bookGrowsRow.holds Try.pinned (OpenSpec.ofChange bookGrowsWrong)

/- THE SECOND FORM. 'bulk': how many values and letters a reading holds, each counted each time it is reached (what is shared counts as often as it is met; a slice's spare places count too). A statement '..UptoSaid' is the law's where the arguments, and the package variables that the reading takes, are together of bulk at most 1048576: NARROWER than '..Said'. Prove '..Said' where nothing that the law and all that it calls make is longer than what came in: it says more and counts as full. Else prove '..UptoSaid'. A law counts once. -/
mutual
def uptoBulk {H : Type} : DataW H → Nat
  | .lit (.string bytes) => bytes.length + 1
  | .lit _ => 1
  | .nil => 1
  | .ptr d => uptoBulk d + 1
  | .slice elems spare => uptoBulkAll elems + uptoBulkAll spare + 1
  | .agg parts => uptoBulkAll parts + 1
  | .iface _ d => uptoBulk d + 1
  | .map entries => uptoBulkEntries entries + 1
  | .held _ => 1
def uptoBulkAll {H : Type} : List (DataW H) → Nat
  | [] => 0
  | d :: r => uptoBulk d + uptoBulkAll r
def uptoBulkEntries {H : Type} : List (Lit × DataW H) → Nat
  | [] => 0
  | x :: r => uptoBulkEntry x + uptoBulkEntries r
def uptoBulkEntry {H : Type} : Lit × DataW H → Nat
  | (.string bytes, d) => bytes.length + uptoBulk d + 1
  | (_, d) => uptoBulk d + 1
 end
def uptoSmall : (H : Type) → List (DataW H) → Bool := fun _ ds => decide (uptoBulkAll ds ≤ 1048576)
def OpenSpec.upto (s : _root_.Go.ChangeSpec) : _root_.Go.OpenSpec := { _root_.Go.OpenSpec.ofChange s with cond := some uptoSmall }

/-- 'cellarmanlaw.ShareBegins', WHERE WHAT IT READS IS OF BULK AT MOST 1048576: true; the input reads as it did. -/
def shareBeginsUptoRow : OpenClaim := { program := "ytlaabmpadikkjaa", sum := "2191b4b3147c3900bdd18c0c2e7ef4bf3793bd9b4f5421fb17c57ecbed8eb139", func := "cellarman/cellarmanlaw.ShareBegins", spec := "shareBegins", unfollowed := true, recurses := true, apart := false, narrowed := true }
def ShareBeginsUptoSaid : Prop := shareBeginsUptoRow.holds Try.pinned (OpenSpec.upto shareBeginsSpec)

/-- 'cellarmanlaw.ShareAdds', WHERE WHAT IT READS IS OF BULK AT MOST 1048576: true; the input reads as it did. -/
def shareAddsUptoRow : OpenClaim := { program := "ytlaabmpadikkjaa", sum := "2191b4b3147c3900bdd18c0c2e7ef4bf3793bd9b4f5421fb17c57ecbed8eb139", func := "cellarman/cellarmanlaw.ShareAdds", spec := "shareAdds", unfollowed := true, recurses := true, apart := false, narrowed := true }
def ShareAddsUptoSaid : Prop := shareAddsUptoRow.holds Try.pinned (OpenSpec.upto shareAddsSpec)

/-- 'cellarmanlaw.ShareSays', WHERE WHAT IT READS IS OF BULK AT MOST 1048576: true; the input reads as it did. -/
def shareSaysUptoRow : OpenClaim := { program := "ytlaabmpadikkjaa", sum := "2191b4b3147c3900bdd18c0c2e7ef4bf3793bd9b4f5421fb17c57ecbed8eb139", func := "cellarman/cellarmanlaw.ShareSays", spec := "shareSays", unfollowed := true, recurses := true, apart := false, narrowed := true }
def ShareSaysUptoSaid : Prop := shareSaysUptoRow.holds Try.pinned (OpenSpec.upto shareSaysSpec)

/-- 'cellarmanlaw.ShareAny', WHERE WHAT IT READS IS OF BULK AT MOST 1048576: true; the input reads as it did. -/
def shareAnyUptoRow : OpenClaim := { program := "ytlaabmpadikkjaa", sum := "2191b4b3147c3900bdd18c0c2e7ef4bf3793bd9b4f5421fb17c57ecbed8eb139", func := "cellarman/cellarmanlaw.ShareAny", spec := "shareAny", unfollowed := true, recurses := true, apart := false, narrowed := true }
def ShareAnyUptoSaid : Prop := shareAnyUptoRow.holds Try.pinned (OpenSpec.upto shareAnySpec)

/-- 'cellarmanlaw.ShareTorn', WHERE WHAT IT READS IS OF BULK AT MOST 1048576: true; the input reads as it did. -/
def shareTornUptoRow : OpenClaim := { program := "ytlaabmpadikkjaa", sum := "2191b4b3147c3900bdd18c0c2e7ef4bf3793bd9b4f5421fb17c57ecbed8eb139", func := "cellarman/cellarmanlaw.ShareTorn", spec := "shareTorn", unfollowed := true, recurses := true, apart := false, narrowed := true }
def ShareTornUptoSaid : Prop := shareTornUptoRow.holds Try.pinned (OpenSpec.upto shareTornSpec)

/-- 'cellarmanlaw.KinSays', WHERE WHAT IT READS IS OF BULK AT MOST 1048576: true; the input reads as it did. -/
def kinSaysUptoRow : OpenClaim := { program := "ytlaabmpadikkjaa", sum := "2191b4b3147c3900bdd18c0c2e7ef4bf3793bd9b4f5421fb17c57ecbed8eb139", func := "cellarman/cellarmanlaw.KinSays", spec := "kinSays", unfollowed := true, recurses := true, apart := false, narrowed := true }
def KinSaysUptoSaid : Prop := kinSaysUptoRow.holds Try.pinned (OpenSpec.upto kinSaysSpec)

/-- 'cellarmanlaw.KinBoth', WHERE WHAT IT READS IS OF BULK AT MOST 1048576: true; the input reads as it did. -/
def kinBothUptoRow : OpenClaim := { program := "ytlaabmpadikkjaa", sum := "2191b4b3147c3900bdd18c0c2e7ef4bf3793bd9b4f5421fb17c57ecbed8eb139", func := "cellarman/cellarmanlaw.KinBoth", spec := "kinBoth", unfollowed := true, recurses := true, apart := false, narrowed := true }
def KinBothUptoSaid : Prop := kinBothUptoRow.holds Try.pinned (OpenSpec.upto kinBothSpec)

/-- 'cellarmanlaw.KinSelf', WHERE WHAT IT READS IS OF BULK AT MOST 1048576: true; the input reads as it did. -/
def kinSelfUptoRow : OpenClaim := { program := "ytlaabmpadikkjaa", sum := "2191b4b3147c3900bdd18c0c2e7ef4bf3793bd9b4f5421fb17c57ecbed8eb139", func := "cellarman/cellarmanlaw.KinSelf", spec := "kinSelf", unfollowed := true, recurses := true, apart := false, narrowed := true }
def KinSelfUptoSaid : Prop := kinSelfUptoRow.holds Try.pinned (OpenSpec.upto kinSelfSpec)

/-- 'cellarmanlaw.BookSays', WHERE WHAT IT READS IS OF BULK AT MOST 1048576: true; the input reads as it did. -/
def bookSaysUptoRow : OpenClaim := { program := "ytlaabmpadikkjaa", sum := "2191b4b3147c3900bdd18c0c2e7ef4bf3793bd9b4f5421fb17c57ecbed8eb139", func := "cellarman/cellarmanlaw.BookSays", spec := "bookSays", unfollowed := true, recurses := true, apart := false, narrowed := true }
def BookSaysUptoSaid : Prop := bookSaysUptoRow.holds Try.pinned (OpenSpec.upto bookSaysSpec)

/-- 'cellarmanlaw.BookGrows', WHERE WHAT IT READS IS OF BULK AT MOST 1048576: true; the input reads as it did. -/
def bookGrowsUptoRow : OpenClaim := { program := "ytlaabmpadikkjaa", sum := "2191b4b3147c3900bdd18c0c2e7ef4bf3793bd9b4f5421fb17c57ecbed8eb139", func := "cellarman/cellarmanlaw.BookGrows", spec := "bookGrows", unfollowed := true, recurses := true, apart := false, narrowed := true }
def BookGrowsUptoSaid : Prop := bookGrowsUptoRow.holds Try.pinned (OpenSpec.upto bookGrowsSpec)

end Rows
end Go.Proofs.Ytlaabmpadikkjaa
