/-
  The walks of a peer's copy, and of a share's.
  What a peer keeps, peers: as the call's own, to the last number; no two things in one block.
  The walk of a peer's copy.
  The walk of slices.Insert of one kept share into an own row.
  The walk of peer.Keep.
  What mesh.put does, in plain Lean.
  Meshes as the call's own: peers being copied.
-/
import Derived.Test.YtmlkjepfepmcgaaPlaces
import Derived.Test.YtmlkjepfepmcgaaRowAll
import Derived.Deep.RegionHeld3
import Derived.Lib.Overlaps
import Derived.Deep.RegionLaw
namespace Go.Proofs.Ytmlkjepfepmcgaa
open Go.RowKit

theorem RKept.one : RKept.One := by
  rintro w cs x ⟨v, rfl, h, _⟩ c hc
  obtain ⟨a, cp, rfl, _⟩ := h.opened
  simp at hc
  rcases hc with rfl | rfl | rfl <;> rfl
end Go.Proofs.Ytmlkjepfepmcgaa

namespace Go.Proofs.Ytmlkjepfepmcgaa
open Go.RowKit

/-- A kept share and the slice of its numbers. -/
abbrev KpD := Kp × Value
/-- Its cells. -/
def RC : Rd KpD := fun _ cs y => cs = [.int .i64 y.1.1, .int .i64 y.1.2.1, y.2] ∧ ∃ a n c, y.2 = .slice a n c
theorem RC.stays : RC.Stays := fun _ _ _ h _ _ => h
theorem RC.one : RC.One := by
  rintro w cs y ⟨rfl, a, n, c, e⟩ u hu
  simp at hu
  rcases hu with rfl | rfl | rfl
  · rfl
  · rfl
  · rw [e]; rfl
theorem RC.anyE {E E' : Nat → Prop} {w : World} {sz : Nat} {e : TypeId} {base : Nat} {v : Value} {l : List KpD} (h : OwnRow sz RC E w e base v l) : OwnRow sz RC E' w e base v l := by
  have := h.conv (R' := RC) (E' := E') id (fun cs x _ hf w' _ => hf.now)
  simpa using this
/-- The blocks in which they lie. -/
def footK (v : Value) (ys : List KpD) (k : Nat) : Prop := v.ownBlock = some k ∨ ∃ y ∈ ys, y.2.ownBlock = some k
theorem lies_own {v : Value} {k : Nat} (h : Value.lies v k) : v.ownBlock = some k := by
  obtain ⟨a, n, c, rfl, rfl⟩ := h
  rfl
theorem OwnInts.same {w w' : World} {e : TypeId} {base : Nat} {v : Value} {l : List Int} (h : OwnInts w e base v l) (hb : ∀ k, v.ownBlock = some k → w'.heap[k]? = w.heap[k]?) : OwnInts w' e base v l := by
  obtain ⟨⟨h1, h2⟩, h3⟩ := h
  refine ⟨⟨h1, ?_⟩, h3⟩
  rcases h2 with h2 | ⟨g, cap, cur, h4, h5, h6, h7⟩
  · exact .inl h2
  · exact .inr ⟨g, cap, cur, h4, h5, (hb g (by rw [h4]; rfl)).trans h6, h7⟩
section
variable {w w' : World} {base : Nat} {v : Value} {ys : List KpD}
end

/-- An own row's kept share at a place. -/
theorem ownRC_at {E : Nat → Prop} {w : World} {e : TypeId} {base : Nat} {v : Value} {zs : List KpD} (h : OwnRow 3 RC E w e base v zs) {i : Nat} {y : KpD} (hy : zs[i]? = some y) :
    ∃ g cap, v = .slice (some ⟨g, 0, none⟩) zs.length cap ∧ base ≤ g ∧ g < w.heap.size ∧ zs.length ≤ cap ∧ w.cell? ⟨g, i * 3, none⟩ = some (.int .i64 y.1.1) ∧ w.cell? ⟨g, i * 3 + 1, none⟩ = some (.int .i64 y.1.2.1) ∧ w.cell? ⟨g, i * 3 + 2, none⟩ = some y.2 ∧ (∀ j, w.frozen? ⟨g, j, none⟩ = false) := by
  obtain ⟨r, g, hg, hl, h1, hc, hf⟩ := h.get hy
  rcases h.shape with ⟨rfl, rfl⟩ | ⟨g', cap, cur, rfl, hb, hlt, hnc, _⟩
  · simp at hy
  · simp only [Value.ownBlock, Option.some.injEq] at hg
    subst hg
    obtain ⟨rfl, _⟩ := hf.now
    exact ⟨g', cap, rfl, hb, hlt, hnc, hc 0 _ rfl, hc 1 _ rfl, hc 2 _ rfl, fun j => h.free rfl j⟩
/-- A peer: is it there, its room, the slice of what it keeps; what it keeps. -/
abbrev PrD := (Bool × Int × Value) × List KpD
def toPr (z : PrD) : Pr := (z.1.1, z.1.2.1, z.2.map (·.1))
def RPC : Rd PrD := fun _ cs z => cs = [.bool z.1.1, .int .i64 z.1.2.1, z.1.2.2] ∧ ∃ a n c, z.1.2.2 = .slice a n c
theorem RPC.stays : RPC.Stays := fun _ _ _ h _ _ => h
theorem RPC.one : RPC.One := by
  rintro w cs y ⟨rfl, a, n, c, e⟩ u hu
  simp at hu
  rcases hu with rfl | rfl | rfl
  · rfl
  · rfl
  · rw [e]; rfl
theorem RPC.anyE {E E' : Nat → Prop} {w : World} {sz : Nat} {e : TypeId} {base : Nat} {v : Value} {l : List PrD} (h : OwnRow sz RPC E w e base v l) : OwnRow sz RPC E' w e base v l := by
  have := h.conv (R' := RPC) (E' := E') id (fun cs x _ hf w' _ => hf.now)
  simpa using this
def footZ (z : PrD) (k : Nat) : Prop := footK z.1.2.2 z.2 k
def footP (v : Value) (zs : List PrD) (k : Nat) : Prop := v.ownBlock = some k ∨ ∃ z ∈ zs, footZ z k
section
variable {w w' : World} {base : Nat} {v : Value} {zs : List PrD}
theorem pairwise_set {α : Type} {R : α → α → Prop} (hs : ∀ a b, R a b → R b a) : ∀ {l : List α} {i : Nat} {x : α}, l.Pairwise R → (∀ (j : Nat) y, j ≠ i → l[j]? = some y → R x y) → (l.set i x).Pairwise R
  | [], _, _, _, _ => by simp
  | a :: l, 0, x, h, hx => by
    rw [List.set_cons_zero, List.pairwise_cons]
    refine ⟨fun y hy => ?_, (List.pairwise_cons.1 h).2⟩
    obtain ⟨j, hj⟩ := List.getElem?_of_mem hy
    exact hx (j + 1) y (by omega) (by simpa using hj)
  | a :: l, i + 1, x, h, hx => by
    rw [List.set_cons_succ, List.pairwise_cons]
    refine ⟨fun y hy => ?_, pairwise_set hs (List.pairwise_cons.1 h).2 (fun j y hj hy => hx (j + 1) y (by omega) (by simpa using hy))⟩
    rcases List.mem_or_eq_of_mem_set hy with hy | rfl
    · exact (List.pairwise_cons.1 h).1 y hy
    · exact hs _ _ (hx 0 a (by omega) rfl)
theorem footZ_symm (a b : PrD) (h : ∀ k, footZ a k → ¬ footZ b k) : ∀ k, footZ b k → ¬ footZ a k := fun k hb ha => h k ha hb
end
end Go.Proofs.Ytmlkjepfepmcgaa

namespace Go.Proofs.Ytmlkjepfepmcgaa
open Go.RowKit

section
variable {ys : List KpD} {b : List Kp} {base k : Nat} {V : Value} {w w' : World}
end

section
variable {w w' : World} {base : Nat} {v : Value} {l : List Kp}
end

end Go.Proofs.Ytmlkjepfepmcgaa

namespace Go.Proofs.Ytmlkjepfepmcgaa
open Go.RowKit

end Go.Proofs.Ytmlkjepfepmcgaa

namespace Go.Proofs.Ytmlkjepfepmcgaa
open Go.RowKit

end Go.Proofs.Ytmlkjepfepmcgaa

namespace Go.Proofs.Ytmlkjepfepmcgaa
open Go.RowKit

end Go.Proofs.Ytmlkjepfepmcgaa

namespace Go.Proofs.Ytmlkjepfepmcgaa
open Go.RowKit

section
variable {ys : List PrD} {ps : List Pr} {base k : Nat} {V : Value} {w w' : World}
end
end Go.Proofs.Ytmlkjepfepmcgaa
