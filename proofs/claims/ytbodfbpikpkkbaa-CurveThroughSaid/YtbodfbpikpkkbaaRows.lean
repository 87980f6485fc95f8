/-
  No cell of these rows narrows 'for every input' (looked for: loops, veiled, ifaces, maps, wideKeys, modest, calm, conditions, laid).
  DERIVED. THE GIVEN ROWS OF THIS SEAT. 12 by the template 'for every input the law returns true; each argument reads behind the call as it read before'; 0 by the template 'total and deterministic' (their statements: YtbodfbpikpkkbaaTotals.lean).
  GIVEN WITH THE SEED: the statements are not yours to turn. If you find one false, say at which input.
  Laid BY PROGRAM, IN A SANDBOX (cutbox-rows.mjs): the forced cells as the released guide's own fill.sh prints them over the translation cf1a0548afd22aff… (all of the seat's roots in one cut). By AI agents, Wed Nov 11 2026. No macro, syntax, notation, axiom, sorry.
-/
import Derived.Test.YtbodfbpikpkkbaaChecked
import GoSem.Claim
import GoSem.ClaimJoined
import GoSem.ClaimMapViews
import Derived.JoinedTies
import Derived.KernelRfl
namespace Go.Proofs.Ytbodfbpikpkkbaa
/- THE CELL 'sum', in the pinned program and in every row, IS THE sha256 OF THE DUMP (.gsa) THAT YtbodfbpikpkkbaaProg.lean LOADS. Nothing in Lean hashes anything: it is a label: what it is worth is what the hold of that sum in a sandbox is worth. -/
noncomputable def Try.pinned : Pinned := { name := "ytbodfbpikpkkbaa", sum := "cf1a0548afd22aff68f31956ba5fe40929e644fbc6e9c63a8e4260ce574f4a09", checked := Try.checked }
namespace Rows
def none {H : Type} : Left H := { results := [], args := [] }

/-- 'cellarmanlaw.Names': WHATEVER THE INPUT: true; the input reads as it did. -/
def namesSpec : ChangeSpec := { name := "names", fn := fun _ => fun
  | [] => { results := [.lit (.bool true)], args := [] }
  | _ => none }
def namesRow : OpenClaim := { program := "ytbodfbpikpkkbaa", sum := "cf1a0548afd22aff68f31956ba5fe40929e644fbc6e9c63a8e4260ce574f4a09", func := "cellarman/cellarmanlaw.Names", spec := "names", apart := false }
def NamesSaid : Prop := namesRow.holds Try.pinned (OpenSpec.ofChange namesSpec)

/-- ITS FALSE NEIGHBOUR: 'it returns false'. Refute it at one input. -/
def namesWrong : ChangeSpec := { name := "names", fn := fun _ => fun
  | [] => { results := [.lit (.bool false)], args := [] }
  | _ => none }
def NamesWrongFalsely : Prop := namesRow.holds Try.pinned (OpenSpec.ofChange namesWrong)

/-- 'cellarmanlaw.FieldSays': WHATEVER THE INPUT: true; the input reads as it did. -/
def fieldSaysSpec : ChangeSpec := { name := "fieldSays", fn := fun _ => fun
  | [d1, d2] => { results := [.lit (.bool true)], args := [d1, d2] }
  | _ => none }
def fieldSaysRow : OpenClaim := { program := "ytbodfbpikpkkbaa", sum := "cf1a0548afd22aff68f31956ba5fe40929e644fbc6e9c63a8e4260ce574f4a09", func := "cellarman/cellarmanlaw.FieldSays", spec := "fieldSays", apart := false }
def FieldSaysSaid : Prop := fieldSaysRow.holds Try.pinned (OpenSpec.ofChange fieldSaysSpec)

/-- ITS FALSE NEIGHBOUR: 'it returns false'. Refute it at one input. -/
def fieldSaysWrong : ChangeSpec := { name := "fieldSays", fn := fun _ => fun
  | [d1, d2] => { results := [.lit (.bool false)], args := [d1, d2] }
  | _ => none }
def FieldSaysWrongFalsely : Prop := fieldSaysRow.holds Try.pinned (OpenSpec.ofChange fieldSaysWrong)

/-- 'cellarmanlaw.FieldRules': WHATEVER THE INPUT: true; the input reads as it did. -/
def fieldRulesSpec : ChangeSpec := { name := "fieldRules", fn := fun _ => fun
  | [d1, d2, d3] => { results := [.lit (.bool true)], args := [d1, d2, d3] }
  | _ => none }
def fieldRulesRow : OpenClaim := { program := "ytbodfbpikpkkbaa", sum := "cf1a0548afd22aff68f31956ba5fe40929e644fbc6e9c63a8e4260ce574f4a09", func := "cellarman/cellarmanlaw.FieldRules", spec := "fieldRules", unfollowed := true, recurses := true, apart := false }
def FieldRulesSaid : Prop := fieldRulesRow.holds Try.pinned (OpenSpec.ofChange fieldRulesSpec)

/-- ITS FALSE NEIGHBOUR: 'it returns false'. Refute it at one input. -/
def fieldRulesWrong : ChangeSpec := { name := "fieldRules", fn := fun _ => fun
  | [d1, d2, d3] => { results := [.lit (.bool false)], args := [d1, d2, d3] }
  | _ => none }
def FieldRulesWrongFalsely : Prop := fieldRulesRow.holds Try.pinned (OpenSpec.ofChange fieldRulesWrong)

/-- 'cellarmanlaw.FieldParts': WHATEVER THE INPUT: true; the input reads as it did. -/
def fieldPartsSpec : ChangeSpec := { name := "fieldParts", fn := fun _ => fun
  | [d1, d2, d3] => { results := [.lit (.bool true)], args := [d1, d2, d3] }
  | _ => none }
def fieldPartsRow : OpenClaim := { program := "ytbodfbpikpkkbaa", sum := "cf1a0548afd22aff68f31956ba5fe40929e644fbc6e9c63a8e4260ce574f4a09", func := "cellarman/cellarmanlaw.FieldParts", spec := "fieldParts", apart := false }
def FieldPartsSaid : Prop := fieldPartsRow.holds Try.pinned (OpenSpec.ofChange fieldPartsSpec)

/-- ITS FALSE NEIGHBOUR: 'it returns false'. Refute it at one input. -/
def fieldPartsWrong : ChangeSpec := { name := "fieldParts", fn := fun _ => fun
  | [d1, d2, d3] => { results := [.lit (.bool false)], args := [d1, d2, d3] }
  | _ => none }
def FieldPartsWrongFalsely : Prop := fieldPartsRow.holds Try.pinned (OpenSpec.ofChange fieldPartsWrong)

/-- 'cellarmanlaw.CurveFlat': WHATEVER THE INPUT: true; the input reads as it did. -/
def curveFlatSpec : ChangeSpec := { name := "curveFlat", fn := fun _ => fun
  | [d1, d2, d3, d4] => { results := [.lit (.bool true)], args := [d1, d2, d3, d4] }
  | _ => none }
def curveFlatRow : OpenClaim := { program := "ytbodfbpikpkkbaa", sum := "cf1a0548afd22aff68f31956ba5fe40929e644fbc6e9c63a8e4260ce574f4a09", func := "cellarman/cellarmanlaw.CurveFlat", spec := "curveFlat", apart := false }
def CurveFlatSaid : Prop := curveFlatRow.holds Try.pinned (OpenSpec.ofChange curveFlatSpec)

/-- ITS FALSE NEIGHBOUR: 'it returns false'. Refute it at one input. -/
def curveFlatWrong : ChangeSpec := { name := "curveFlat", fn := fun _ => fun
  | [d1, d2, d3, d4] => { results := [.lit (.bool false)], args := [d1, d2, d3, d4] }
  | _ => none }
def CurveFlatWrongFalsely : Prop := curveFlatRow.holds Try.pinned (OpenSpec.ofChange curveFlatWrong)

/-- 'cellarmanlaw.CurveAdds': WHATEVER THE INPUT: true; the input reads as it did. -/
def curveAddsSpec : ChangeSpec := { name := "curveAdds", fn := fun _ => fun
  | [d1, d2, d3, d4] => { results := [.lit (.bool true)], args := [d1, d2, d3, d4] }
  | _ => none }
def curveAddsRow : OpenClaim := { program := "ytbodfbpikpkkbaa", sum := "cf1a0548afd22aff68f31956ba5fe40929e644fbc6e9c63a8e4260ce574f4a09", func := "cellarman/cellarmanlaw.CurveAdds", spec := "curveAdds", apart := false }
def CurveAddsSaid : Prop := curveAddsRow.holds Try.pinned (OpenSpec.ofChange curveAddsSpec)

/-- ITS FALSE NEIGHBOUR: 'it returns false'. Refute it at one input. -/
def curveAddsWrong : ChangeSpec := { name := "curveAdds", fn := fun _ => fun
  | [d1, d2, d3, d4] => { results := [.lit (.bool false)], args := [d1, d2, d3, d4] }
  | _ => none }
def CurveAddsWrongFalsely : Prop := curveAddsRow.holds Try.pinned (OpenSpec.ofChange curveAddsWrong)

/-- 'cellarmanlaw.CurveSays': WHATEVER THE INPUT: true; the input reads as it did. -/
def curveSaysSpec : ChangeSpec := { name := "curveSays", fn := fun _ => fun
  | [d1, d2, d3] => { results := [.lit (.bool true)], args := [d1, d2, d3] }
  | _ => none }
def curveSaysRow : OpenClaim := { program := "ytbodfbpikpkkbaa", sum := "cf1a0548afd22aff68f31956ba5fe40929e644fbc6e9c63a8e4260ce574f4a09", func := "cellarman/cellarmanlaw.CurveSays", spec := "curveSays", apart := false }
def CurveSaysSaid : Prop := curveSaysRow.holds Try.pinned (OpenSpec.ofChange curveSaysSpec)

/-- ITS FALSE NEIGHBOUR: 'it returns false'. Refute it at one input. -/
def curveSaysWrong : ChangeSpec := { name := "curveSays", fn := fun _ => fun
  | [d1, d2, d3] => { results := [.lit (.bool false)], args := [d1, d2, d3] }
  | _ => none }
def CurveSaysWrongFalsely : Prop := curveSaysRow.holds Try.pinned (OpenSpec.ofChange curveSaysWrong)

/-- 'cellarmanlaw.CurveThrough': WHATEVER THE INPUT: true; the input reads as it did. -/
def curveThroughSpec : ChangeSpec := { name := "curveThrough", fn := fun _ => fun
  | [d1, d2, d3, d4] => { results := [.lit (.bool true)], args := [d1, d2, d3, d4] }
  | _ => none }
def curveThroughRow : OpenClaim := { program := "ytbodfbpikpkkbaa", sum := "cf1a0548afd22aff68f31956ba5fe40929e644fbc6e9c63a8e4260ce574f4a09", func := "cellarman/cellarmanlaw.CurveThrough", spec := "curveThrough", unfollowed := true, recurses := true, apart := false }
def CurveThroughSaid : Prop := curveThroughRow.holds Try.pinned (OpenSpec.ofChange curveThroughSpec)

/-- ITS FALSE NEIGHBOUR: 'it returns false'. Refute it at one input. -/
def curveThroughWrong : ChangeSpec := { name := "curveThrough", fn := fun _ => fun
  | [d1, d2, d3, d4] => { results := [.lit (.bool false)], args := [d1, d2, d3, d4] }
  | _ => none }
def CurveThroughWrongFalsely : Prop := curveThroughRow.holds Try.pinned (OpenSpec.ofChange curveThroughWrong)

/-- 'cellarmanlaw.ShareBegins': WHATEVER THE INPUT: true; the input reads as it did. -/
def shareBeginsSpec : ChangeSpec := { name := "shareBegins", fn := fun _ => fun
  | [d1, d2] => { results := [.lit (.bool true)], args := [d1, d2] }
  | _ => none }
def shareBeginsRow : OpenClaim := { program := "ytbodfbpikpkkbaa", sum := "cf1a0548afd22aff68f31956ba5fe40929e644fbc6e9c63a8e4260ce574f4a09", func := "cellarman/cellarmanlaw.ShareBegins", spec := "shareBegins", unfollowed := true, recurses := true, apart := false }
def ShareBeginsSaid : Prop := shareBeginsRow.holds Try.pinned (OpenSpec.ofChange shareBeginsSpec)

/-- ITS FALSE NEIGHBOUR: 'it returns false'. Refute it at one input. -/
def shareBeginsWrong : ChangeSpec := { name := "shareBegins", fn := fun _ => fun
  | [d1, d2] => { results := [.lit (.bool false)], args := [d1, d2] }
  | _ => none }
def ShareBeginsWrongFalsely : Prop := shareBeginsRow.holds Try.pinned (OpenSpec.ofChange shareBeginsWrong)

/-- 'cellarmanlaw.ShareAdds': WHATEVER THE INPUT: true; the input reads as it did. -/
def shareAddsSpec : ChangeSpec := { name := "shareAdds", fn := fun _ => fun
  | [d1, d2, d3] => { results := [.lit (.bool true)], args := [d1, d2, d3] }
  | _ => none }
def shareAddsRow : OpenClaim := { program := "ytbodfbpikpkkbaa", sum := "cf1a0548afd22aff68f31956ba5fe40929e644fbc6e9c63a8e4260ce574f4a09", func := "cellarman/cellarmanlaw.ShareAdds", spec := "shareAdds", unfollowed := true, recurses := true, apart := false }
def ShareAddsSaid : Prop := shareAddsRow.holds Try.pinned (OpenSpec.ofChange shareAddsSpec)

/-- ITS FALSE NEIGHBOUR: 'it returns false'. Refute it at one input. -/
def shareAddsWrong : ChangeSpec := { name := "shareAdds", fn := fun _ => fun
  | [d1, d2, d3] => { results := [.lit (.bool false)], args := [d1, d2, d3] }
  | _ => none }
def ShareAddsWrongFalsely : Prop := shareAddsRow.holds Try.pinned (OpenSpec.ofChange shareAddsWrong)

/-- 'cellarmanlaw.ShareSays': WHATEVER THE INPUT: true; the input reads as it did. -/
def shareSaysSpec : ChangeSpec := { name := "shareSays", fn := fun _ => fun
  | [d1, d2, d3, d4, d5] => { results := [.lit (.bool true)], args := [d1, d2, d3, d4, d5] }
  | _ => none }
def shareSaysRow : OpenClaim := { program := "ytbodfbpikpkkbaa", sum := "cf1a0548afd22aff68f31956ba5fe40929e644fbc6e9c63a8e4260ce574f4a09", func := "cellarman/cellarmanlaw.ShareSays", spec := "shareSays", unfollowed := true, recurses := true, apart := false }
def ShareSaysSaid : Prop := shareSaysRow.holds Try.pinned (OpenSpec.ofChange shareSaysSpec)

/-- ITS FALSE NEIGHBOUR: 'it returns false'. Refute it at one input. -/
def shareSaysWrong : ChangeSpec := { name := "shareSays", fn := fun _ => fun
  | [d1, d2, d3, d4, d5] => { results := [.lit (.bool false)], args := [d1, d2, d3, d4, d5] }
  | _ => none }
def ShareSaysWrongFalsely : Prop := shareSaysRow.holds Try.pinned (OpenSpec.ofChange shareSaysWrong)

/-- 'cellarmanlaw.ShareAny': WHATEVER THE INPUT: true; the input reads as it did. -/
def shareAnySpec : ChangeSpec := { name := "shareAny", fn := fun _ => fun
  | [d1, d2, d3, d4] => { results := [.lit (.bool true)], args := [d1, d2, d3, d4] }
  | _ => none }
def shareAnyRow : OpenClaim := { program := "ytbodfbpikpkkbaa", sum := "cf1a0548afd22aff68f31956ba5fe40929e644fbc6e9c63a8e4260ce574f4a09", func := "cellarman/cellarmanlaw.ShareAny", spec := "shareAny", unfollowed := true, recurses := true, apart := false }
def ShareAnySaid : Prop := shareAnyRow.holds Try.pinned (OpenSpec.ofChange shareAnySpec)

/-- ITS FALSE NEIGHBOUR: 'it returns false'. Refute it at one input. -/
def shareAnyWrong : ChangeSpec := { name := "shareAny", fn := fun _ => fun
  | [d1, d2, d3, d4] => { results := [.lit (.bool false)], args := [d1, d2, d3, d4] }
  | _ => none }
def ShareAnyWrongFalsely : Prop := shareAnyRow.holds Try.pinned (OpenSpec.ofChange shareAnyWrong)

/- THE SECOND FORM. 'bulk': how many values and letters a reading holds, each counted each time it is reached (what is shared counts as often as it is met; a slice's spare places count too). A statement '..UptoSaid' is the law's where the arguments, and the package variables that the reading takes, are together of bulk at most 1048576: NARROWER than '..Said'. Prove '..Said' where nothing that the law and all that it calls make is longer than what came in: it says more and counts as full. Else prove '..UptoSaid'. A law counts once. -/
mutual
def uptoBulk {H : Type} : DataW H → Nat
  | .lit (.string bytes) => bytes.length + 1
  | .lit _ => 1
  | .nil => 1
  | .ptr d => uptoBulk d + 1
  | .slice elems spare => uptoBulkAll elems + uptoBulkAll spare + 1
  | .agg parts => uptoBulkAll parts + 1
  | .iface _ d => uptoBulk d + 1
  | .map entries => uptoBulkEntries entries + 1
  | .held _ => 1
def uptoBulkAll {H : Type} : List (DataW H) → Nat
  | [] => 0
  | d :: r => uptoBulk d + uptoBulkAll r
def uptoBulkEntries {H : Type} : List (Lit × DataW H) → Nat
  | [] => 0
  | x :: r => uptoBulkEntry x + uptoBulkEntries r
def uptoBulkEntry {H : Type} : Lit × DataW H → Nat
  | (.string bytes, d) => bytes.length + uptoBulk d + 1
  | (_, d) => uptoBulk d + 1
 end
def uptoSmall : (H : Type) → List (DataW H) → Bool := fun _ ds => decide (uptoBulkAll ds ≤ 1048576)
def OpenSpec.upto (s : _root_.Go.ChangeSpec) : _root_.Go.OpenSpec := { _root_.Go.OpenSpec.ofChange s with cond := some uptoSmall }

/-- 'cellarmanlaw.Names', WHERE WHAT IT READS IS OF BULK AT MOST 1048576: true; the input reads as it did. -/
def namesUptoRow : OpenClaim := { program := "ytbodfbpikpkkbaa", sum := "cf1a0548afd22aff68f31956ba5fe40929e644fbc6e9c63a8e4260ce574f4a09", func := "cellarman/cellarmanlaw.Names", spec := "names", apart := false, narrowed := true }
def NamesUptoSaid : Prop := namesUptoRow.holds Try.pinned (OpenSpec.upto namesSpec)

/-- 'cellarmanlaw.FieldSays', WHERE WHAT IT READS IS OF BULK AT MOST 1048576: true; the input reads as it did. -/
def fieldSaysUptoRow : OpenClaim := { program := "ytbodfbpikpkkbaa", sum := "cf1a0548afd22aff68f31956ba5fe40929e644fbc6e9c63a8e4260ce574f4a09", func := "cellarman/cellarmanlaw.FieldSays", spec := "fieldSays", apart := false, narrowed := true }
def FieldSaysUptoSaid : Prop := fieldSaysUptoRow.holds Try.pinned (OpenSpec.upto fieldSaysSpec)

/-- 'cellarmanlaw.FieldRules', WHERE WHAT IT READS IS OF BULK AT MOST 1048576: true; the input reads as it did. -/
def fieldRulesUptoRow : OpenClaim := { program := "ytbodfbpikpkkbaa", sum := "cf1a0548afd22aff68f31956ba5fe40929e644fbc6e9c63a8e4260ce574f4a09", func := "cellarman/cellarmanlaw.FieldRules", spec := "fieldRules", unfollowed := true, recurses := true, apart := false, narrowed := true }
def FieldRulesUptoSaid : Prop := fieldRulesUptoRow.holds Try.pinned (OpenSpec.upto fieldRulesSpec)

/-- 'cellarmanlaw.FieldParts', WHERE WHAT IT READS IS OF BULK AT MOST 1048576: true; the input reads as it did. -/
def fieldPartsUptoRow : OpenClaim := { program := "ytbodfbpikpkkbaa", sum := "cf1a0548afd22aff68f31956ba5fe40929e644fbc6e9c63a8e4260ce574f4a09", func := "cellarman/cellarmanlaw.FieldParts", spec := "fieldParts", apart := false, narrowed := true }
def FieldPartsUptoSaid : Prop := fieldPartsUptoRow.holds Try.pinned (OpenSpec.upto fieldPartsSpec)

/-- 'cellarmanlaw.CurveFlat', WHERE WHAT IT READS IS OF BULK AT MOST 1048576: true; the input reads as it did. -/
def curveFlatUptoRow : OpenClaim := { program := "ytbodfbpikpkkbaa", sum := "cf1a0548afd22aff68f31956ba5fe40929e644fbc6e9c63a8e4260ce574f4a09", func := "cellarman/cellarmanlaw.CurveFlat", spec := "curveFlat", apart := false, narrowed := true }
def CurveFlatUptoSaid : Prop := curveFlatUptoRow.holds Try.pinned (OpenSpec.upto curveFlatSpec)

/-- 'cellarmanlaw.CurveAdds', WHERE WHAT IT READS IS OF BULK AT MOST 1048576: true; the input reads as it did. -/
def curveAddsUptoRow : OpenClaim := { program := "ytbodfbpikpkkbaa", sum := "cf1a0548afd22aff68f31956ba5fe40929e644fbc6e9c63a8e4260ce574f4a09", func := "cellarman/cellarmanlaw.CurveAdds", spec := "curveAdds", apart := false, narrowed := true }
def CurveAddsUptoSaid : Prop := curveAddsUptoRow.holds Try.pinned (OpenSpec.upto curveAddsSpec)

/-- 'cellarmanlaw.CurveSays', WHERE WHAT IT READS IS OF BULK AT MOST 1048576: true; the input reads as it did. -/
def curveSaysUptoRow : OpenClaim := { program := "ytbodfbpikpkkbaa", sum := "cf1a0548afd22aff68f31956ba5fe40929e644fbc6e9c63a8e4260ce574f4a09", func := "cellarman/cellarmanlaw.CurveSays", spec := "curveSays", apart := false, narrowed := true }
def CurveSaysUptoSaid : Prop := curveSaysUptoRow.holds Try.pinned (OpenSpec.upto curveSaysSpec)

/-- 'cellarmanlaw.CurveThrough', WHERE WHAT IT READS IS OF BULK AT MOST 1048576: true; the input reads as it did. -/
def curveThroughUptoRow : OpenClaim := { program := "ytbodfbpikpkkbaa", sum := "cf1a0548afd22aff68f31956ba5fe40929e644fbc6e9c63a8e4260ce574f4a09", func := "cellarman/cellarmanlaw.CurveThrough", spec := "curveThrough", unfollowed := true, recurses := true, apart := false, narrowed := true }
def CurveThroughUptoSaid : Prop := curveThroughUptoRow.holds Try.pinned (OpenSpec.upto curveThroughSpec)

/-- 'cellarmanlaw.ShareBegins', WHERE WHAT IT READS IS OF BULK AT MOST 1048576: true; the input reads as it did. -/
def shareBeginsUptoRow : OpenClaim := { program := "ytbodfbpikpkkbaa", sum := "cf1a0548afd22aff68f31956ba5fe40929e644fbc6e9c63a8e4260ce574f4a09", func := "cellarman/cellarmanlaw.ShareBegins", spec := "shareBegins", unfollowed := true, recurses := true, apart := false, narrowed := true }
def ShareBeginsUptoSaid : Prop := shareBeginsUptoRow.holds Try.pinned (OpenSpec.upto shareBeginsSpec)

/-- 'cellarmanlaw.ShareAdds', WHERE WHAT IT READS IS OF BULK AT MOST 1048576: true; the input reads as it did. -/
def shareAddsUptoRow : OpenClaim := { program := "ytbodfbpikpkkbaa", sum := "cf1a0548afd22aff68f31956ba5fe40929e644fbc6e9c63a8e4260ce574f4a09", func := "cellarman/cellarmanlaw.ShareAdds", spec := "shareAdds", unfollowed := true, recurses := true, apart := false, narrowed := true }
def ShareAddsUptoSaid : Prop := shareAddsUptoRow.holds Try.pinned (OpenSpec.upto shareAddsSpec)

/-- 'cellarmanlaw.ShareSays', WHERE WHAT IT READS IS OF BULK AT MOST 1048576: true; the input reads as it did. -/
def shareSaysUptoRow : OpenClaim := { program := "ytbodfbpikpkkbaa", sum := "cf1a0548afd22aff68f31956ba5fe40929e644fbc6e9c63a8e4260ce574f4a09", func := "cellarman/cellarmanlaw.ShareSays", spec := "shareSays", unfollowed := true, recurses := true, apart := false, narrowed := true }
def ShareSaysUptoSaid : Prop := shareSaysUptoRow.holds Try.pinned (OpenSpec.upto shareSaysSpec)

/-- 'cellarmanlaw.ShareAny', WHERE WHAT IT READS IS OF BULK AT MOST 1048576: true; the input reads as it did. -/
def shareAnyUptoRow : OpenClaim := { program := "ytbodfbpikpkkbaa", sum := "cf1a0548afd22aff68f31956ba5fe40929e644fbc6e9c63a8e4260ce574f4a09", func := "cellarman/cellarmanlaw.ShareAny", spec := "shareAny", unfollowed := true, recurses := true, apart := false, narrowed := true }
def ShareAnyUptoSaid : Prop := shareAnyUptoRow.holds Try.pinned (OpenSpec.upto shareAnySpec)

end Rows
end Go.Proofs.Ytbodfbpikpkkbaa
