/-
  Sorting by putting in one after the other, in plain lists.
-/
import Derived.Test.YtpjlngkndofjfaaLib
namespace Go.Proofs.Ytpjlngkndofjfaa

/-- x goes into a list that stands with its last one ahead: behind all that it isn't less than. -/
def insA {α : Type} (lt : α → α → Bool) (x : α) : List α → List α
  | [] => [x]
  | y :: r => if lt x y = true then y :: insA lt x r else x :: y :: r
/-- The list sorted, its last one ahead. -/
def srtR {α : Type} (lt : α → α → Bool) (l : List α) : List α := l.foldl (fun acc x => insA lt x acc) []
def srtL {α : Type} (lt : α → α → Bool) (l : List α) : List α := (srtR lt l).reverse
section
variable {α : Type} {lt : α → α → Bool}
theorem srtR_step {l : List α} {i : Nat} {x : α} (h : l[i]? = some x) : srtR lt (l.take (i + 1)) = insA lt x (srtR lt (l.take i)) := by
  unfold srtR
  rw [take_get h, List.foldl_append]
  rfl
theorem insA_perm (x : α) : ∀ r : List α, (insA lt x r).Perm (x :: r)
  | [] => List.Perm.refl _
  | y :: r => by
    unfold insA
    split
    · exact (List.Perm.cons y (insA_perm x r)).trans (List.Perm.swap x y r)
    · exact List.Perm.refl _
theorem insA_len (x : α) (r : List α) : (insA lt x r).length = r.length + 1 := by rw [(insA_perm (lt := lt) x r).length_eq, List.length_cons]
theorem foldA_perm : ∀ (l acc : List α), (l.foldl (fun acc x => insA lt x acc) acc).Perm (l ++ acc)
  | [], acc => List.Perm.refl _
  | x :: l, acc => by
    rw [List.foldl_cons]
    refine (foldA_perm l _).trans ?_
    refine (List.Perm.append_left l (insA_perm x acc)).trans ?_
    exact List.perm_middle
theorem srtR_perm (l : List α) : (srtR lt l).Perm l := by simpa [srtR] using foldA_perm (lt := lt) l []
theorem srtL_perm (l : List α) : (srtL lt l).Perm l := (List.reverse_perm _).trans (srtR_perm l)
theorem srtR_len (l : List α) : (srtR lt l).length = l.length := (srtR_perm l).length_eq
theorem srtL_len (l : List α) : (srtL lt l).length = l.length := (srtL_perm l).length_eq
theorem srt_start (l : List α) : (srtR lt (l.take 1)).reverse ++ l.drop 1 = l := by
  cases l with
  | nil => rfl
  | cons x r => simp [srtR, insA]
/-- x is at its place. -/
theorem insA_stop {x : α} {A : List α} (h : A = [] ∨ ∃ A' y, A = A' ++ [y] ∧ lt x y = false) : (insA lt x A.reverse).reverse = A ++ [x] := by
  rcases h with rfl | ⟨A', y, rfl, hy⟩
  · rfl
  · rw [List.reverse_append, List.reverse_singleton, List.singleton_append]
    unfold insA
    rw [if_neg (by rw [hy]; decide)]
    simp
theorem insA_go {x y : α} {A' : List α} (h : lt x y = true) : (insA lt x (A' ++ [y]).reverse).reverse = (insA lt x A'.reverse).reverse ++ [y] := by
  rw [List.reverse_append, List.reverse_singleton, List.singleton_append]
  conv => lhs; unfold insA
  rw [if_pos h]
  simp
end
end Go.Proofs.Ytpjlngkndofjfaa
