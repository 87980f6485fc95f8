/-
  Kept shares, peers: how they lie in memory, and the readings.
  Peers in plain lists: what is wrong with one; what is found, kept, dropped.
  Walks: what a peer keeps is found; slices.IndexFunc and slices.EqualFunc at what is kept, with whatever closure.
-/
import Derived.Test.YtmlkjepfepmcgaaRowAll
import Derived.Test.YtmlkjepfepmcgaaBooks
import Derived.Test.YtmlkjepfepmcgaaCurves
import Derived.Test.YtmlkjepfepmcgaaBase
namespace Go.Proofs.Ytmlkjepfepmcgaa
open Go.ChangeShapes Go.WideShapes Go.ChangeAt Go.RowKit Go.Deep

/-- What is kept: its version, the share. -/
abbrev Kp := Int × Sh
/-- A peer: is it there, its room, what it keeps. -/
abbrev Pr := Bool × Int × List Kp
def RKept : Rd Kp := fun w cs x => ∃ v, cs = [.int .i64 x.1, .int .i64 x.2.1, v] ∧ IsInts w v x.2.2 ∧ I64 x.1 ∧ I64 x.2.1
theorem RKept.stays : RKept.Stays := by
  rintro w cs x ⟨v, rfl, h, i⟩ w' hw
  exact ⟨v, rfl, h.framed (fun _ _ _ => id) hw, i⟩
/-- The value is a slice of these kept shares. -/
abbrev IsKepts (w : World) (v : Value) (l : List Kp) : Prop := IsRow 3 RKept w v l
def RPeer : Rd Pr := fun w cs x => ∃ v, cs = [.bool x.1, .int .i64 x.2.1, v] ∧ IsKepts w v x.2.2 ∧ I64 x.2.1
theorem RPeer.stays : RPeer.Stays := by
  rintro w cs x ⟨v, rfl, h, i⟩ w' hw
  exact ⟨v, rfl, h.later RKept.stays hw, i⟩
section
variable {H : Type} {enc : TypeId × Value → H} {W : World} {base : Nat} {v : Value} {d : DataW H} {ps : List MemPlace}
/-- The value is this kept share, this peer. -/
def IsKept (w : World) (v : Value) (x : Kp) : Prop := ∃ u, v = .agg #[.int .i64 x.1, .int .i64 x.2.1, u] ∧ IsInts w u x.2.2 ∧ I64 x.1 ∧ I64 x.2.1
end
end Go.Proofs.Ytmlkjepfepmcgaa

namespace Go.Proofs.Ytmlkjepfepmcgaa

end Go.Proofs.Ytmlkjepfepmcgaa

namespace Go.Proofs.Ytmlkjepfepmcgaa
open Go.RowKit

theorem IsKept.stays {w w' : World} {v : Value} {x : Kp} (h : IsKept w v x) (hb : Below w.heap.size w w') : IsKept w' v x := by
  obtain ⟨u, rfl, hu, i⟩ := h
  exact ⟨u, rfl, hu.stays hb, i⟩

end Go.Proofs.Ytmlkjepfepmcgaa
