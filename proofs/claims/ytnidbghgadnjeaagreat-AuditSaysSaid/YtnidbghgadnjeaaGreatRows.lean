/-
  No cell of these rows narrows 'for every input' (looked for: loops, veiled, ifaces, maps, wideKeys, modest, calm, conditions, laid).
  DERIVED. THE GIVEN ROWS OF THIS SEAT. 8 by the template 'for every input the law returns true; each argument reads behind the call as it read before'; 0 by the template 'total and deterministic' (their statements: YtnidbghgadnjeaaGreatTotals.lean).
  GIVEN WITH THE SEED: the statements are not yours to turn. If you find one false, say at which input.
  Laid BY PROGRAM, IN A SANDBOX (cutbox-rows.mjs): the forced cells as the released guide's own fill.sh prints them over the translation bece74f1ce8addac… (all of the seat's roots in one cut). By AI agents, Wed Nov 11 2026. No macro, syntax, notation, axiom, sorry.
-/
import Derived.Test.YtnidbghgadnjeaaGreatChecked
import GoSem.Claim
import GoSem.ClaimJoined
import GoSem.ClaimMapViews
import Derived.JoinedTies
import Derived.KernelRfl
namespace Go.Proofs.YtnidbghgadnjeaaGreat
/- THE CELL 'sum', in the pinned program and in every row, IS THE sha256 OF THE DUMP (.gsa) THAT YtnidbghgadnjeaaGreatProg.lean LOADS. Nothing in Lean hashes anything: it is a label: what it is worth is what the hold of that sum in a sandbox is worth. -/
noncomputable def Tryz.pinned : Pinned := { name := "ytnidbghgadnjeaagreat", sum := "bece74f1ce8addac2a47ca53d768baa5387d14812fff48d2f452075dbb16cfde", checked := Tryz.checked }
namespace Rows
def none {H : Type} : Left H := { results := [], args := [] }

/-- 'cellarmanlaw.TaleKeeps': WHATEVER THE INPUT: true; the input reads as it did. -/
def taleKeepsSpec : ChangeSpec := { name := "taleKeeps", fn := fun _ => fun
  | [d1, d2] => { results := [.lit (.bool true)], args := [d1, d2] }
  | _ => none }
def taleKeepsRow : OpenClaim := { program := "ytnidbghgadnjeaagreat", sum := "bece74f1ce8addac2a47ca53d768baa5387d14812fff48d2f452075dbb16cfde", func := "cellarman/cellarmanlaw.TaleKeeps", spec := "taleKeeps", inPlace := ["slices.overlaps[cellarman/api.Kept]"], unfollowed := true, recurses := true, apart := false }
def TaleKeepsSaid : Prop := taleKeepsRow.holds Tryz.pinned (OpenSpec.ofChange taleKeepsSpec)

/-- ITS FALSE NEIGHBOUR: 'it returns false'. Refute it at one input. -/
def taleKeepsWrong : ChangeSpec := { name := "taleKeeps", fn := fun _ => fun
  | [d1, d2] => { results := [.lit (.bool false)], args := [d1, d2] }
  | _ => none }
def TaleKeepsWrongFalsely : Prop := taleKeepsRow.holds Tryz.pinned (OpenSpec.ofChange taleKeepsWrong)

/-- 'cellarmanlaw.TaleMends': WHATEVER THE INPUT: true; the input reads as it did. -/
def taleMendsSpec : ChangeSpec := { name := "taleMends", fn := fun _ => fun
  | [d1, d2, d3, d4] => { results := [.lit (.bool true)], args := [d1, d2, d3, d4] }
  | _ => none }
def taleMendsRow : OpenClaim := { program := "ytnidbghgadnjeaagreat", sum := "bece74f1ce8addac2a47ca53d768baa5387d14812fff48d2f452075dbb16cfde", func := "cellarman/cellarmanlaw.TaleMends", spec := "taleMends", inPlace := ["slices.overlaps[cellarman/api.Kept]"], unfollowed := true, recurses := true, apart := false }
def TaleMendsSaid : Prop := taleMendsRow.holds Tryz.pinned (OpenSpec.ofChange taleMendsSpec)

/-- ITS FALSE NEIGHBOUR: 'it returns false'. Refute it at one input. -/
def taleMendsWrong : ChangeSpec := { name := "taleMends", fn := fun _ => fun
  | [d1, d2, d3, d4] => { results := [.lit (.bool false)], args := [d1, d2, d3, d4] }
  | _ => none }
def TaleMendsWrongFalsely : Prop := taleMendsRow.holds Tryz.pinned (OpenSpec.ofChange taleMendsWrong)

/-- 'cellarmanlaw.WorldParts': WHATEVER THE INPUT: true; the input reads as it did. -/
def worldPartsSpec : ChangeSpec := { name := "worldParts", fn := fun _ => fun
  | [d1, d2, d3] => { results := [.lit (.bool true)], args := [d1, d2, d3] }
  | _ => none }
def worldPartsRow : OpenClaim := { program := "ytnidbghgadnjeaagreat", sum := "bece74f1ce8addac2a47ca53d768baa5387d14812fff48d2f452075dbb16cfde", func := "cellarman/cellarmanlaw.WorldParts", spec := "worldParts", inPlace := ["slices.overlaps[cellarman/api.Kept]"], unfollowed := true, recurses := true, apart := false }
def WorldPartsSaid : Prop := worldPartsRow.holds Tryz.pinned (OpenSpec.ofChange worldPartsSpec)

/-- ITS FALSE NEIGHBOUR: 'it returns false'. Refute it at one input. -/
def worldPartsWrong : ChangeSpec := { name := "worldParts", fn := fun _ => fun
  | [d1, d2, d3] => { results := [.lit (.bool false)], args := [d1, d2, d3] }
  | _ => none }
def WorldPartsWrongFalsely : Prop := worldPartsRow.holds Tryz.pinned (OpenSpec.ofChange worldPartsWrong)

/-- 'cellarmanlaw.AuditSays': WHATEVER THE INPUT: true; the input reads as it did. -/
def auditSaysSpec : ChangeSpec := { name := "auditSays", fn := fun _ => fun
  | [d1, d2] => { results := [.lit (.bool true)], args := [d1, d2] }
  | _ => none }
def auditSaysRow : OpenClaim := { program := "ytnidbghgadnjeaagreat", sum := "bece74f1ce8addac2a47ca53d768baa5387d14812fff48d2f452075dbb16cfde", func := "cellarman/cellarmanlaw.AuditSays", spec := "auditSays", inPlace := ["slices.overlaps[cellarman/api.Kept]"], unfollowed := true, recurses := true, apart := false }
def AuditSaysSaid : Prop := auditSaysRow.holds Tryz.pinned (OpenSpec.ofChange auditSaysSpec)

/-- ITS FALSE NEIGHBOUR: 'it returns false'. Refute it at one input. -/
def auditSaysWrong : ChangeSpec := { name := "auditSays", fn := fun _ => fun
  | [d1, d2] => { results := [.lit (.bool false)], args := [d1, d2] }
  | _ => none }
def AuditSaysWrongFalsely : Prop := auditSaysRow.holds Tryz.pinned (OpenSpec.ofChange auditSaysWrong)

/-- 'cellarmanlaw.MeshSays': WHATEVER THE INPUT: true; the input reads as it did. -/
def meshSaysSpec : ChangeSpec := { name := "meshSays", fn := fun _ => fun
  | [d1, d2, d3, d4, d5, d6, d7] => { results := [.lit (.bool true)], args := [d1, d2, d3, d4, d5, d6, d7] }
  | _ => none }
def meshSaysRow : OpenClaim := { program := "ytnidbghgadnjeaagreat", sum := "bece74f1ce8addac2a47ca53d768baa5387d14812fff48d2f452075dbb16cfde", func := "cellarman/cellarmanlaw.MeshSays", spec := "meshSays", inPlace := ["slices.overlaps[cellarman/api.Kept]"], unfollowed := true, recurses := true, apart := false }
def MeshSaysSaid : Prop := meshSaysRow.holds Tryz.pinned (OpenSpec.ofChange meshSaysSpec)

/-- ITS FALSE NEIGHBOUR: 'it returns false'. Refute it at one input. -/
def meshSaysWrong : ChangeSpec := { name := "meshSays", fn := fun _ => fun
  | [d1, d2, d3, d4, d5, d6, d7] => { results := [.lit (.bool false)], args := [d1, d2, d3, d4, d5, d6, d7] }
  | _ => none }
def MeshSaysWrongFalsely : Prop := meshSaysRow.holds Tryz.pinned (OpenSpec.ofChange meshSaysWrong)

/-- 'cellarmanlaw.WorldDoes': WHATEVER THE INPUT: true; the input reads as it did. -/
def worldDoesSpec : ChangeSpec := { name := "worldDoes", fn := fun _ => fun
  | [d1, d2] => { results := [.lit (.bool true)], args := [d1, d2] }
  | _ => none }
def worldDoesRow : OpenClaim := { program := "ytnidbghgadnjeaagreat", sum := "bece74f1ce8addac2a47ca53d768baa5387d14812fff48d2f452075dbb16cfde", func := "cellarman/cellarmanlaw.WorldDoes", spec := "worldDoes", inPlace := ["slices.overlaps[cellarman/api.Kept]"], unfollowed := true, recurses := true, apart := false }
def WorldDoesSaid : Prop := worldDoesRow.holds Tryz.pinned (OpenSpec.ofChange worldDoesSpec)

/-- ITS FALSE NEIGHBOUR: 'it returns false'. Refute it at one input. -/
def worldDoesWrong : ChangeSpec := { name := "worldDoes", fn := fun _ => fun
  | [d1, d2] => { results := [.lit (.bool false)], args := [d1, d2] }
  | _ => none }
def WorldDoesWrongFalsely : Prop := worldDoesRow.holds Tryz.pinned (OpenSpec.ofChange worldDoesWrong)

/-- 'cellarmanlaw.WorldRuns': WHATEVER THE INPUT: true; the input reads as it did. -/
def worldRunsSpec : ChangeSpec := { name := "worldRuns", fn := fun _ => fun
  | [d1, d2] => { results := [.lit (.bool true)], args := [d1, d2] }
  | _ => none }
def worldRunsRow : OpenClaim := { program := "ytnidbghgadnjeaagreat", sum := "bece74f1ce8addac2a47ca53d768baa5387d14812fff48d2f452075dbb16cfde", func := "cellarman/cellarmanlaw.WorldRuns", spec := "worldRuns", inPlace := ["slices.overlaps[cellarman/api.Kept]"], unfollowed := true, recurses := true, apart := false }
def WorldRunsSaid : Prop := worldRunsRow.holds Tryz.pinned (OpenSpec.ofChange worldRunsSpec)

/-- ITS FALSE NEIGHBOUR: 'it returns false'. Refute it at one input. -/
def worldRunsWrong : ChangeSpec := { name := "worldRuns", fn := fun _ => fun
  | [d1, d2] => { results := [.lit (.bool false)], args := [d1, d2] }
  | _ => none }
def WorldRunsWrongFalsely : Prop := worldRunsRow.holds Tryz.pinned (OpenSpec.ofChange worldRunsWrong)

/-- 'cellarmanlaw.TaleSays': WHATEVER THE INPUT: true; the input reads as it did. -/
def taleSaysSpec : ChangeSpec := { name := "taleSays", fn := fun _ => fun
  | [d1, d2, d3, d4] => { results := [.lit (.bool true)], args := [d1, d2, d3, d4] }
  | _ => none }
def taleSaysRow : OpenClaim := { program := "ytnidbghgadnjeaagreat", sum := "bece74f1ce8addac2a47ca53d768baa5387d14812fff48d2f452075dbb16cfde", func := "cellarman/cellarmanlaw.TaleSays", spec := "taleSays", inPlace := ["slices.overlaps[cellarman/api.Kept]"], unfollowed := true, recurses := true, apart := false }
def TaleSaysSaid : Prop := taleSaysRow.holds Tryz.pinned (OpenSpec.ofChange taleSaysSpec)

/-- ITS FALSE NEIGHBOUR: 'it returns false'. Refute it at one input. -/
def taleSaysWrong : ChangeSpec := { name := "taleSays", fn := fun _ => fun
  | [d1, d2, d3, d4] => { results := [.lit (.bool false)], args := [d1, d2, d3, d4] }
  | _ => none }
def TaleSaysWrongFalsely : Prop := taleSaysRow.holds Tryz.pinned (OpenSpec.ofChange taleSaysWrong)

/- THE SECOND FORM. 'bulk': how many values and letters a reading holds, each counted each time it is reached (what is shared counts as often as it is met; a slice's spare places count too). A statement '..UptoSaid' is the law's where the arguments, and the package variables that the reading takes, are together of bulk at most 1048576: NARROWER than '..Said'. Prove '..Said' where nothing that the law and all that it calls make is longer than what came in: it says more and counts as full. Else prove '..UptoSaid'. A law counts once. -/
mutual
def uptoBulk {H : Type} : DataW H → Nat
  | .lit (.string bytes) => bytes.length + 1
  | .lit _ => 1
  | .nil => 1
  | .ptr d => uptoBulk d + 1
  | .slice elems spare => uptoBulkAll elems + uptoBulkAll spare + 1
  | .agg parts => uptoBulkAll parts + 1
  | .iface _ d => uptoBulk d + 1
  | .map entries => uptoBulkEntries entries + 1
  | .held _ => 1
def uptoBulkAll {H : Type} : List (DataW H) → Nat
  | [] => 0
  | d :: r => uptoBulk d + uptoBulkAll r
def uptoBulkEntries {H : Type} : List (Lit × DataW H) → Nat
  | [] => 0
  | x :: r => uptoBulkEntry x + uptoBulkEntries r
def uptoBulkEntry {H : Type} : Lit × DataW H → Nat
  | (.string bytes, d) => bytes.length + uptoBulk d + 1
  | (_, d) => uptoBulk d + 1
 end
def uptoSmall : (H : Type) → List (DataW H) → Bool := fun _ ds => decide (uptoBulkAll ds ≤ 1048576)
def OpenSpec.upto (s : _root_.Go.ChangeSpec) : _root_.Go.OpenSpec := { _root_.Go.OpenSpec.ofChange s with cond := some uptoSmall }

/-- 'cellarmanlaw.TaleKeeps', WHERE WHAT IT READS IS OF BULK AT MOST 1048576: true; the input reads as it did. -/
def taleKeepsUptoRow : OpenClaim := { program := "ytnidbghgadnjeaagreat", sum := "bece74f1ce8addac2a47ca53d768baa5387d14812fff48d2f452075dbb16cfde", func := "cellarman/cellarmanlaw.TaleKeeps", spec := "taleKeeps", inPlace := ["slices.overlaps[cellarman/api.Kept]"], unfollowed := true, recurses := true, apart := false, narrowed := true }
def TaleKeepsUptoSaid : Prop := taleKeepsUptoRow.holds Tryz.pinned (OpenSpec.upto taleKeepsSpec)

/-- 'cellarmanlaw.TaleMends', WHERE WHAT IT READS IS OF BULK AT MOST 1048576: true; the input reads as it did. -/
def taleMendsUptoRow : OpenClaim := { program := "ytnidbghgadnjeaagreat", sum := "bece74f1ce8addac2a47ca53d768baa5387d14812fff48d2f452075dbb16cfde", func := "cellarman/cellarmanlaw.TaleMends", spec := "taleMends", inPlace := ["slices.overlaps[cellarman/api.Kept]"], unfollowed := true, recurses := true, apart := false, narrowed := true }
def TaleMendsUptoSaid : Prop := taleMendsUptoRow.holds Tryz.pinned (OpenSpec.upto taleMendsSpec)

/-- 'cellarmanlaw.WorldParts', WHERE WHAT IT READS IS OF BULK AT MOST 1048576: true; the input reads as it did. -/
def worldPartsUptoRow : OpenClaim := { program := "ytnidbghgadnjeaagreat", sum := "bece74f1ce8addac2a47ca53d768baa5387d14812fff48d2f452075dbb16cfde", func := "cellarman/cellarmanlaw.WorldParts", spec := "worldParts", inPlace := ["slices.overlaps[cellarman/api.Kept]"], unfollowed := true, recurses := true, apart := false, narrowed := true }
def WorldPartsUptoSaid : Prop := worldPartsUptoRow.holds Tryz.pinned (OpenSpec.upto worldPartsSpec)

/-- 'cellarmanlaw.AuditSays', WHERE WHAT IT READS IS OF BULK AT MOST 1048576: true; the input reads as it did. -/
def auditSaysUptoRow : OpenClaim := { program := "ytnidbghgadnjeaagreat", sum := "bece74f1ce8addac2a47ca53d768baa5387d14812fff48d2f452075dbb16cfde", func := "cellarman/cellarmanlaw.AuditSays", spec := "auditSays", inPlace := ["slices.overlaps[cellarman/api.Kept]"], unfollowed := true, recurses := true, apart := false, narrowed := true }
def AuditSaysUptoSaid : Prop := auditSaysUptoRow.holds Tryz.pinned (OpenSpec.upto auditSaysSpec)

/-- 'cellarmanlaw.MeshSays', WHERE WHAT IT READS IS OF BULK AT MOST 1048576: true; the input reads as it did. -/
def meshSaysUptoRow : OpenClaim := { program := "ytnidbghgadnjeaagreat", sum := "bece74f1ce8addac2a47ca53d768baa5387d14812fff48d2f452075dbb16cfde", func := "cellarman/cellarmanlaw.MeshSays", spec := "meshSays", inPlace := ["slices.overlaps[cellarman/api.Kept]"], unfollowed := true, recurses := true, apart := false, narrowed := true }
def MeshSaysUptoSaid : Prop := meshSaysUptoRow.holds Tryz.pinned (OpenSpec.upto meshSaysSpec)

/-- 'cellarmanlaw.WorldDoes', WHERE WHAT IT READS IS OF BULK AT MOST 1048576: true; the input reads as it did. -/
def worldDoesUptoRow : OpenClaim := { program := "ytnidbghgadnjeaagreat", sum := "bece74f1ce8addac2a47ca53d768baa5387d14812fff48d2f452075dbb16cfde", func := "cellarman/cellarmanlaw.WorldDoes", spec := "worldDoes", inPlace := ["slices.overlaps[cellarman/api.Kept]"], unfollowed := true, recurses := true, apart := false, narrowed := true }
def WorldDoesUptoSaid : Prop := worldDoesUptoRow.holds Tryz.pinned (OpenSpec.upto worldDoesSpec)

/-- 'cellarmanlaw.WorldRuns', WHERE WHAT IT READS IS OF BULK AT MOST 1048576: true; the input reads as it did. -/
def worldRunsUptoRow : OpenClaim := { program := "ytnidbghgadnjeaagreat", sum := "bece74f1ce8addac2a47ca53d768baa5387d14812fff48d2f452075dbb16cfde", func := "cellarman/cellarmanlaw.WorldRuns", spec := "worldRuns", inPlace := ["slices.overlaps[cellarman/api.Kept]"], unfollowed := true, recurses := true, apart := false, narrowed := true }
def WorldRunsUptoSaid : Prop := worldRunsUptoRow.holds Tryz.pinned (OpenSpec.upto worldRunsSpec)

/-- 'cellarmanlaw.TaleSays', WHERE WHAT IT READS IS OF BULK AT MOST 1048576: true; the input reads as it did. -/
def taleSaysUptoRow : OpenClaim := { program := "ytnidbghgadnjeaagreat", sum := "bece74f1ce8addac2a47ca53d768baa5387d14812fff48d2f452075dbb16cfde", func := "cellarman/cellarmanlaw.TaleSays", spec := "taleSays", inPlace := ["slices.overlaps[cellarman/api.Kept]"], unfollowed := true, recurses := true, apart := false, narrowed := true }
def TaleSaysUptoSaid : Prop := taleSaysUptoRow.holds Tryz.pinned (OpenSpec.upto taleSaysSpec)

end Rows
end Go.Proofs.YtnidbghgadnjeaaGreat
