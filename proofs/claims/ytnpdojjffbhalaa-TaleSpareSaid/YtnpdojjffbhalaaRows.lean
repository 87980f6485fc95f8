/-
  No cell of these rows narrows 'for every input' (looked for: loops, veiled, ifaces, maps, wideKeys, modest, calm, conditions, laid).
  DERIVED. THE GIVEN ROWS OF THIS SEAT. 10 by the template 'for every input the law returns true; each argument reads behind the call as it read before'; 0 by the template 'total and deterministic' (their statements: YtnpdojjffbhalaaTotals.lean).
  GIVEN WITH THE SEED: the statements are not yours to turn. If you find one false, say at which input.
  Laid BY PROGRAM, IN A SANDBOX (cutbox-rows.mjs): the forced cells as the released guide's own fill.sh prints them over the translation 4147592c85a81e10… (all of the seat's roots in one cut). By AI agents, Wed Nov 11 2026. No macro, syntax, notation, axiom, sorry.
-/
import Derived.Test.YtnpdojjffbhalaaChecked
import GoSem.Claim
import GoSem.ClaimJoined
import GoSem.ClaimMapViews
import Derived.JoinedTies
import Derived.KernelRfl
namespace Go.Proofs.Ytnpdojjffbhalaa
/- THE CELL 'sum', in the pinned program and in every row, IS THE sha256 OF THE DUMP (.gsa) THAT YtnpdojjffbhalaaProg.lean LOADS. Nothing in Lean hashes anything: it is a label: what it is worth is what the hold of that sum in a sandbox is worth. -/
noncomputable def Try.pinned : Pinned := { name := "ytnpdojjffbhalaa", sum := "4147592c85a81e109ed490e8d20f0944f4d7a4e8743bef557651ea1b803c128e", checked := Try.checked }
namespace Rows
def none {H : Type} : Left H := { results := [], args := [] }

/-- 'cellarmanlaw.VoteFinds': WHATEVER THE INPUT: true; the input reads as it did. -/
def voteFindsSpec : ChangeSpec := { name := "voteFinds", fn := fun _ => fun
  | [d1, d2, d3, d4, d5] => { results := [.lit (.bool true)], args := [d1, d2, d3, d4, d5] }
  | _ => none }
def voteFindsRow : OpenClaim := { program := "ytnpdojjffbhalaa", sum := "4147592c85a81e109ed490e8d20f0944f4d7a4e8743bef557651ea1b803c128e", func := "cellarman/cellarmanlaw.VoteFinds", spec := "voteFinds", unfollowed := true, recurses := true, apart := false }
def VoteFindsSaid : Prop := voteFindsRow.holds Try.pinned (OpenSpec.ofChange voteFindsSpec)

/-- ITS FALSE NEIGHBOUR: 'it returns false'. Refute it at one input. -/
def voteFindsWrong : ChangeSpec := { name := "voteFinds", fn := fun _ => fun
  | [d1, d2, d3, d4, d5] => { results := [.lit (.bool false)], args := [d1, d2, d3, d4, d5] }
  | _ => none }
def VoteFindsWrongFalsely : Prop := voteFindsRow.holds Try.pinned (OpenSpec.ofChange voteFindsWrong)

/-- 'cellarmanlaw.VoteMost': WHATEVER THE INPUT: true; the input reads as it did. -/
def voteMostSpec : ChangeSpec := { name := "voteMost", fn := fun _ => fun
  | [d1, d2, d3] => { results := [.lit (.bool true)], args := [d1, d2, d3] }
  | _ => none }
def voteMostRow : OpenClaim := { program := "ytnpdojjffbhalaa", sum := "4147592c85a81e109ed490e8d20f0944f4d7a4e8743bef557651ea1b803c128e", func := "cellarman/cellarmanlaw.VoteMost", spec := "voteMost", unfollowed := true, recurses := true, apart := false }
def VoteMostSaid : Prop := voteMostRow.holds Try.pinned (OpenSpec.ofChange voteMostSpec)

/-- ITS FALSE NEIGHBOUR: 'it returns false'. Refute it at one input. -/
def voteMostWrong : ChangeSpec := { name := "voteMost", fn := fun _ => fun
  | [d1, d2, d3] => { results := [.lit (.bool false)], args := [d1, d2, d3] }
  | _ => none }
def VoteMostWrongFalsely : Prop := voteMostRow.holds Try.pinned (OpenSpec.ofChange voteMostWrong)

/-- 'cellarmanlaw.VoteOrder': WHATEVER THE INPUT: true; the input reads as it did. -/
def voteOrderSpec : ChangeSpec := { name := "voteOrder", fn := fun _ => fun
  | [d1, d2, d3, d4] => { results := [.lit (.bool true)], args := [d1, d2, d3, d4] }
  | _ => none }
def voteOrderRow : OpenClaim := { program := "ytnpdojjffbhalaa", sum := "4147592c85a81e109ed490e8d20f0944f4d7a4e8743bef557651ea1b803c128e", func := "cellarman/cellarmanlaw.VoteOrder", spec := "voteOrder", unfollowed := true, recurses := true, apart := false }
def VoteOrderSaid : Prop := voteOrderRow.holds Try.pinned (OpenSpec.ofChange voteOrderSpec)

/-- ITS FALSE NEIGHBOUR: 'it returns false'. Refute it at one input. -/
def voteOrderWrong : ChangeSpec := { name := "voteOrder", fn := fun _ => fun
  | [d1, d2, d3, d4] => { results := [.lit (.bool false)], args := [d1, d2, d3, d4] }
  | _ => none }
def VoteOrderWrongFalsely : Prop := voteOrderRow.holds Try.pinned (OpenSpec.ofChange voteOrderWrong)

/-- 'cellarmanlaw.VoteSays': WHATEVER THE INPUT: true; the input reads as it did. -/
def voteSaysSpec : ChangeSpec := { name := "voteSays", fn := fun _ => fun
  | [d1, d2] => { results := [.lit (.bool true)], args := [d1, d2] }
  | _ => none }
def voteSaysRow : OpenClaim := { program := "ytnpdojjffbhalaa", sum := "4147592c85a81e109ed490e8d20f0944f4d7a4e8743bef557651ea1b803c128e", func := "cellarman/cellarmanlaw.VoteSays", spec := "voteSays", unfollowed := true, recurses := true, apart := false }
def VoteSaysSaid : Prop := voteSaysRow.holds Try.pinned (OpenSpec.ofChange voteSaysSpec)

/-- ITS FALSE NEIGHBOUR: 'it returns false'. Refute it at one input. -/
def voteSaysWrong : ChangeSpec := { name := "voteSays", fn := fun _ => fun
  | [d1, d2] => { results := [.lit (.bool false)], args := [d1, d2] }
  | _ => none }
def VoteSaysWrongFalsely : Prop := voteSaysRow.holds Try.pinned (OpenSpec.ofChange voteSaysWrong)

/-- 'cellarmanlaw.MeshSaves': WHATEVER THE INPUT: true; the input reads as it did. -/
def meshSavesSpec : ChangeSpec := { name := "meshSaves", fn := fun _ => fun
  | [d1, d2, d3, d4, d5, d6] => { results := [.lit (.bool true)], args := [d1, d2, d3, d4, d5, d6] }
  | _ => none }
def meshSavesRow : OpenClaim := { program := "ytnpdojjffbhalaa", sum := "4147592c85a81e109ed490e8d20f0944f4d7a4e8743bef557651ea1b803c128e", func := "cellarman/cellarmanlaw.MeshSaves", spec := "meshSaves", inPlace := ["slices.overlaps[cellarman/api.Kept]"], unfollowed := true, recurses := true, apart := false }
def MeshSavesSaid : Prop := meshSavesRow.holds Try.pinned (OpenSpec.ofChange meshSavesSpec)

/-- ITS FALSE NEIGHBOUR: 'it returns false'. Refute it at one input. -/
def meshSavesWrong : ChangeSpec := { name := "meshSaves", fn := fun _ => fun
  | [d1, d2, d3, d4, d5, d6] => { results := [.lit (.bool false)], args := [d1, d2, d3, d4, d5, d6] }
  | _ => none }
def MeshSavesWrongFalsely : Prop := meshSavesRow.holds Try.pinned (OpenSpec.ofChange meshSavesWrong)

/-- 'cellarmanlaw.MeshAway': WHATEVER THE INPUT: true; the input reads as it did. -/
def meshAwaySpec : ChangeSpec := { name := "meshAway", fn := fun _ => fun
  | [d1, d2] => { results := [.lit (.bool true)], args := [d1, d2] }
  | _ => none }
def meshAwayRow : OpenClaim := { program := "ytnpdojjffbhalaa", sum := "4147592c85a81e109ed490e8d20f0944f4d7a4e8743bef557651ea1b803c128e", func := "cellarman/cellarmanlaw.MeshAway", spec := "meshAway", inPlace := ["slices.overlaps[cellarman/api.Kept]"], unfollowed := true, recurses := true, apart := false }
def MeshAwaySaid : Prop := meshAwayRow.holds Try.pinned (OpenSpec.ofChange meshAwaySpec)

/-- ITS FALSE NEIGHBOUR: 'it returns false'. Refute it at one input. -/
def meshAwayWrong : ChangeSpec := { name := "meshAway", fn := fun _ => fun
  | [d1, d2] => { results := [.lit (.bool false)], args := [d1, d2] }
  | _ => none }
def MeshAwayWrongFalsely : Prop := meshAwayRow.holds Try.pinned (OpenSpec.ofChange meshAwayWrong)

/-- 'cellarmanlaw.AuditFinds': WHATEVER THE INPUT: true; the input reads as it did. -/
def auditFindsSpec : ChangeSpec := { name := "auditFinds", fn := fun _ => fun
  | [d1, d2, d3, d4, d5] => { results := [.lit (.bool true)], args := [d1, d2, d3, d4, d5] }
  | _ => none }
def auditFindsRow : OpenClaim := { program := "ytnpdojjffbhalaa", sum := "4147592c85a81e109ed490e8d20f0944f4d7a4e8743bef557651ea1b803c128e", func := "cellarman/cellarmanlaw.AuditFinds", spec := "auditFinds", inPlace := ["slices.overlaps[cellarman/api.Kept]"], unfollowed := true, recurses := true, apart := false }
def AuditFindsSaid : Prop := auditFindsRow.holds Try.pinned (OpenSpec.ofChange auditFindsSpec)

/-- ITS FALSE NEIGHBOUR: 'it returns false'. Refute it at one input. -/
def auditFindsWrong : ChangeSpec := { name := "auditFinds", fn := fun _ => fun
  | [d1, d2, d3, d4, d5] => { results := [.lit (.bool false)], args := [d1, d2, d3, d4, d5] }
  | _ => none }
def AuditFindsWrongFalsely : Prop := auditFindsRow.holds Try.pinned (OpenSpec.ofChange auditFindsWrong)

/-- 'cellarmanlaw.AuditMends': WHATEVER THE INPUT: true; the input reads as it did. -/
def auditMendsSpec : ChangeSpec := { name := "auditMends", fn := fun _ => fun
  | [d1, d2] => { results := [.lit (.bool true)], args := [d1, d2] }
  | _ => none }
def auditMendsRow : OpenClaim := { program := "ytnpdojjffbhalaa", sum := "4147592c85a81e109ed490e8d20f0944f4d7a4e8743bef557651ea1b803c128e", func := "cellarman/cellarmanlaw.AuditMends", spec := "auditMends", inPlace := ["slices.overlaps[cellarman/api.Kept]"], unfollowed := true, recurses := true, apart := false }
def AuditMendsSaid : Prop := auditMendsRow.holds Try.pinned (OpenSpec.ofChange auditMendsSpec)

/-- ITS FALSE NEIGHBOUR: 'it returns false'. Refute it at one input. -/
def auditMendsWrong : ChangeSpec := { name := "auditMends", fn := fun _ => fun
  | [d1, d2] => { results := [.lit (.bool false)], args := [d1, d2] }
  | _ => none }
def AuditMendsWrongFalsely : Prop := auditMendsRow.holds Try.pinned (OpenSpec.ofChange auditMendsWrong)

/-- 'cellarmanlaw.MeshMends': WHATEVER THE INPUT: true; the input reads as it did. -/
def meshMendsSpec : ChangeSpec := { name := "meshMends", fn := fun _ => fun
  | [d1, d2] => { results := [.lit (.bool true)], args := [d1, d2] }
  | _ => none }
def meshMendsRow : OpenClaim := { program := "ytnpdojjffbhalaa", sum := "4147592c85a81e109ed490e8d20f0944f4d7a4e8743bef557651ea1b803c128e", func := "cellarman/cellarmanlaw.MeshMends", spec := "meshMends", inPlace := ["slices.overlaps[cellarman/api.Kept]"], unfollowed := true, recurses := true, apart := false }
def MeshMendsSaid : Prop := meshMendsRow.holds Try.pinned (OpenSpec.ofChange meshMendsSpec)

/-- ITS FALSE NEIGHBOUR: 'it returns false'. Refute it at one input. -/
def meshMendsWrong : ChangeSpec := { name := "meshMends", fn := fun _ => fun
  | [d1, d2] => { results := [.lit (.bool false)], args := [d1, d2] }
  | _ => none }
def MeshMendsWrongFalsely : Prop := meshMendsRow.holds Try.pinned (OpenSpec.ofChange meshMendsWrong)

/-- 'cellarmanlaw.TaleSpare': WHATEVER THE INPUT: true; the input reads as it did. -/
def taleSpareSpec : ChangeSpec := { name := "taleSpare", fn := fun _ => fun
  | [d1, d2, d3] => { results := [.lit (.bool true)], args := [d1, d2, d3] }
  | _ => none }
def taleSpareRow : OpenClaim := { program := "ytnpdojjffbhalaa", sum := "4147592c85a81e109ed490e8d20f0944f4d7a4e8743bef557651ea1b803c128e", func := "cellarman/cellarmanlaw.TaleSpare", spec := "taleSpare", inPlace := ["slices.overlaps[cellarman/api.Kept]"], unfollowed := true, recurses := true, apart := false }
def TaleSpareSaid : Prop := taleSpareRow.holds Try.pinned (OpenSpec.ofChange taleSpareSpec)

/-- ITS FALSE NEIGHBOUR: 'it returns false'. Refute it at one input. -/
def taleSpareWrong : ChangeSpec := { name := "taleSpare", fn := fun _ => fun
  | [d1, d2, d3] => { results := [.lit (.bool false)], args := [d1, d2, d3] }
  | _ => none }
def TaleSpareWrongFalsely : Prop := taleSpareRow.holds Try.pinned (OpenSpec.ofChange taleSpareWrong)

/- THE SECOND FORM. 'bulk': how many values and letters a reading holds, each counted each time it is reached (what is shared counts as often as it is met; a slice's spare places count too). A statement '..UptoSaid' is the law's where the arguments, and the package variables that the reading takes, are together of bulk at most 1048576: NARROWER than '..Said'. Prove '..Said' where nothing that the law and all that it calls make is longer than what came in: it says more and counts as full. Else prove '..UptoSaid'. A law counts once. -/
mutual
def uptoBulk {H : Type} : DataW H → Nat
  | .lit (.string bytes) => bytes.length + 1
  | .lit _ => 1
  | .nil => 1
  | .ptr d => uptoBulk d + 1
  | .slice elems spare => uptoBulkAll elems + uptoBulkAll spare + 1
  | .agg parts => uptoBulkAll parts + 1
  | .iface _ d => uptoBulk d + 1
  | .map entries => uptoBulkEntries entries + 1
  | .held _ => 1
def uptoBulkAll {H : Type} : List (DataW H) → Nat
  | [] => 0
  | d :: r => uptoBulk d + uptoBulkAll r
def uptoBulkEntries {H : Type} : List (Lit × DataW H) → Nat
  | [] => 0
  | x :: r => uptoBulkEntry x + uptoBulkEntries r
def uptoBulkEntry {H : Type} : Lit × DataW H → Nat
  | (.string bytes, d) => bytes.length + uptoBulk d + 1
  | (_, d) => uptoBulk d + 1
 end
def uptoSmall : (H : Type) → List (DataW H) → Bool := fun _ ds => decide (uptoBulkAll ds ≤ 1048576)
def OpenSpec.upto (s : _root_.Go.ChangeSpec) : _root_.Go.OpenSpec := { _root_.Go.OpenSpec.ofChange s with cond := some uptoSmall }

/-- 'cellarmanlaw.VoteFinds', WHERE WHAT IT READS IS OF BULK AT MOST 1048576: true; the input reads as it did. -/
def voteFindsUptoRow : OpenClaim := { program := "ytnpdojjffbhalaa", sum := "4147592c85a81e109ed490e8d20f0944f4d7a4e8743bef557651ea1b803c128e", func := "cellarman/cellarmanlaw.VoteFinds", spec := "voteFinds", unfollowed := true, recurses := true, apart := false, narrowed := true }
def VoteFindsUptoSaid : Prop := voteFindsUptoRow.holds Try.pinned (OpenSpec.upto voteFindsSpec)

/-- 'cellarmanlaw.VoteMost', WHERE WHAT IT READS IS OF BULK AT MOST 1048576: true; the input reads as it did. -/
def voteMostUptoRow : OpenClaim := { program := "ytnpdojjffbhalaa", sum := "4147592c85a81e109ed490e8d20f0944f4d7a4e8743bef557651ea1b803c128e", func := "cellarman/cellarmanlaw.VoteMost", spec := "voteMost", unfollowed := true, recurses := true, apart := false, narrowed := true }
def VoteMostUptoSaid : Prop := voteMostUptoRow.holds Try.pinned (OpenSpec.upto voteMostSpec)

/-- 'cellarmanlaw.VoteOrder', WHERE WHAT IT READS IS OF BULK AT MOST 1048576: true; the input reads as it did. -/
def voteOrderUptoRow : OpenClaim := { program := "ytnpdojjffbhalaa", sum := "4147592c85a81e109ed490e8d20f0944f4d7a4e8743bef557651ea1b803c128e", func := "cellarman/cellarmanlaw.VoteOrder", spec := "voteOrder", unfollowed := true, recurses := true, apart := false, narrowed := true }
def VoteOrderUptoSaid : Prop := voteOrderUptoRow.holds Try.pinned (OpenSpec.upto voteOrderSpec)

/-- 'cellarmanlaw.VoteSays', WHERE WHAT IT READS IS OF BULK AT MOST 1048576: true; the input reads as it did. -/
def voteSaysUptoRow : OpenClaim := { program := "ytnpdojjffbhalaa", sum := "4147592c85a81e109ed490e8d20f0944f4d7a4e8743bef557651ea1b803c128e", func := "cellarman/cellarmanlaw.VoteSays", spec := "voteSays", unfollowed := true, recurses := true, apart := false, narrowed := true }
def VoteSaysUptoSaid : Prop := voteSaysUptoRow.holds Try.pinned (OpenSpec.upto voteSaysSpec)

/-- 'cellarmanlaw.MeshSaves', WHERE WHAT IT READS IS OF BULK AT MOST 1048576: true; the input reads as it did. -/
def meshSavesUptoRow : OpenClaim := { program := "ytnpdojjffbhalaa", sum := "4147592c85a81e109ed490e8d20f0944f4d7a4e8743bef557651ea1b803c128e", func := "cellarman/cellarmanlaw.MeshSaves", spec := "meshSaves", inPlace := ["slices.overlaps[cellarman/api.Kept]"], unfollowed := true, recurses := true, apart := false, narrowed := true }
def MeshSavesUptoSaid : Prop := meshSavesUptoRow.holds Try.pinned (OpenSpec.upto meshSavesSpec)

/-- 'cellarmanlaw.MeshAway', WHERE WHAT IT READS IS OF BULK AT MOST 1048576: true; the input reads as it did. -/
def meshAwayUptoRow : OpenClaim := { program := "ytnpdojjffbhalaa", sum := "4147592c85a81e109ed490e8d20f0944f4d7a4e8743bef557651ea1b803c128e", func := "cellarman/cellarmanlaw.MeshAway", spec := "meshAway", inPlace := ["slices.overlaps[cellarman/api.Kept]"], unfollowed := true, recurses := true, apart := false, narrowed := true }
def MeshAwayUptoSaid : Prop := meshAwayUptoRow.holds Try.pinned (OpenSpec.upto meshAwaySpec)

/-- 'cellarmanlaw.AuditFinds', WHERE WHAT IT READS IS OF BULK AT MOST 1048576: true; the input reads as it did. -/
def auditFindsUptoRow : OpenClaim := { program := "ytnpdojjffbhalaa", sum := "4147592c85a81e109ed490e8d20f0944f4d7a4e8743bef557651ea1b803c128e", func := "cellarman/cellarmanlaw.AuditFinds", spec := "auditFinds", inPlace := ["slices.overlaps[cellarman/api.Kept]"], unfollowed := true, recurses := true, apart := false, narrowed := true }
def AuditFindsUptoSaid : Prop := auditFindsUptoRow.holds Try.pinned (OpenSpec.upto auditFindsSpec)

/-- 'cellarmanlaw.AuditMends', WHERE WHAT IT READS IS OF BULK AT MOST 1048576: true; the input reads as it did. -/
def auditMendsUptoRow : OpenClaim := { program := "ytnpdojjffbhalaa", sum := "4147592c85a81e109ed490e8d20f0944f4d7a4e8743bef557651ea1b803c128e", func := "cellarman/cellarmanlaw.AuditMends", spec := "auditMends", inPlace := ["slices.overlaps[cellarman/api.Kept]"], unfollowed := true, recurses := true, apart := false, narrowed := true }
def AuditMendsUptoSaid : Prop := auditMendsUptoRow.holds Try.pinned (OpenSpec.upto auditMendsSpec)

/-- 'cellarmanlaw.MeshMends', WHERE WHAT IT READS IS OF BULK AT MOST 1048576: true; the input reads as it did. -/
def meshMendsUptoRow : OpenClaim := { program := "ytnpdojjffbhalaa", sum := "4147592c85a81e109ed490e8d20f0944f4d7a4e8743bef557651ea1b803c128e", func := "cellarman/cellarmanlaw.MeshMends", spec := "meshMends", inPlace := ["slices.overlaps[cellarman/api.Kept]"], unfollowed := true, recurses := true, apart := false, narrowed := true }
def MeshMendsUptoSaid : Prop := meshMendsUptoRow.holds Try.pinned (OpenSpec.upto meshMendsSpec)

/-- 'cellarmanlaw.TaleSpare', WHERE WHAT IT READS IS OF BULK AT MOST 1048576: true; the input reads as it did. -/
def taleSpareUptoRow : OpenClaim := { program := "ytnpdojjffbhalaa", sum := "4147592c85a81e109ed490e8d20f0944f4d7a4e8743bef557651ea1b803c128e", func := "cellarman/cellarmanlaw.TaleSpare", spec := "taleSpare", inPlace := ["slices.overlaps[cellarman/api.Kept]"], unfollowed := true, recurses := true, apart := false, narrowed := true }
def TaleSpareUptoSaid : Prop := taleSpareUptoRow.holds Try.pinned (OpenSpec.upto taleSpareSpec)

end Rows
end Go.Proofs.Ytnpdojjffbhalaa
