/-
  Two lists held against each other, one by one.
-/
import Derived.Test.YtpjlngkndofjfaaLib
namespace Go.Proofs.Ytpjlngkndofjfaa

/-- Are lists alike, one by one? -/
def eqBy {α β : Type} (p : α → β → Bool) : List α → List β → Bool
  | [], [] => true
  | a :: l, b :: r => p a b && eqBy p l r
  | _, _ => false
theorem eqBy_len {α β : Type} (p : α → β → Bool) : ∀ {l : List α} {r : List β}, l.length ≠ r.length → eqBy p l r = false
  | [], [], h => absurd rfl h
  | [], _ :: _, _ => rfl
  | _ :: _, [], _ => rfl
  | a :: l, b :: r, h => by simp [eqBy, eqBy_len p (l := l) (r := r) (by simpa using h)]
theorem eqBy_iff {α : Type} {p : α → α → Bool} (h : ∀ x y, p x y = true ↔ x = y) : ∀ {l r : List α}, eqBy p l r = true ↔ l = r
  | [], [] => by simp [eqBy]
  | [], _ :: _ => by simp [eqBy]
  | _ :: _, [] => by simp [eqBy]
  | a :: l, b :: r => by simp [eqBy, h, eqBy_iff h (l := l) (r := r)]
theorem eqBy_self {α : Type} {p : α → α → Bool} (h : ∀ x, p x x = true) : ∀ l : List α, eqBy p l l = true
  | [] => rfl
  | a :: l => by simp [eqBy, h, eqBy_self h l]
end Go.Proofs.Ytpjlngkndofjfaa
