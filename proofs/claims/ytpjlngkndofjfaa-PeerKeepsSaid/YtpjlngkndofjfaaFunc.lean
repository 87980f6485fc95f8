/-
  slices.IndexFunc and ContainsFunc at ints, with whatever closure that asks.
-/
import Derived.Test.YtpjlngkndofjfaaSlices
import Derived.Shelf.Abstract
namespace Go.Proofs.Ytpjlngkndofjfaa
open Go.RowKit

/-- The first place at which it is so, from k on; -1: there is none. -/
def findFrom {α : Type} (p : α → Bool) : List α → Nat → Int
  | [], _ => -1
  | y :: l, k => if p y then (k : Int) else findFrom p l (k + 1)
theorem findFrom_nonneg {α : Type} (p : α → Bool) : ∀ (l : List α) (k : Nat), decide (0 ≤ findFrom p l k) = l.any p
  | [], k => by simp [findFrom]
  | y :: l, k => by
    by_cases h : p y = true
    · simp [findFrom, h]
    · simp only [Bool.not_eq_true] at h
      simp [findFrom, h, findFrom_nonneg p l (k + 1)]
theorem findFrom_bd {α : Type} (p : α → Bool) : ∀ (l : List α) (k : Nat), -1 ≤ findFrom p l k ∧ findFrom p l k < (k + l.length : Nat)
  | [], k => by simp [findFrom]; omega
  | y :: l, k => by
    have := findFrom_bd p l (k + 1)
    unfold findFrom
    split
    · simp; omega
    · simp at this ⊢; omega

end Go.Proofs.Ytpjlngkndofjfaa
