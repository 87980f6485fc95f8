/-
  What Split makes, in plain lists.
-/
import Derived.Test.YtnpdojjffbhalaaCurveMath
namespace Go.Proofs.Ytnpdojjffbhalaa

/-- The places 0 to below n. -/
def placesL (n : Nat) : List Int := (List.range n).map fun (k : Nat) => (k : Int)
/-- Row r of a content, n numbers, noughts behind it. -/
def rowL (n : Nat) (data : List Int) (r : Nat) : List Int := (List.range n).map fun j => data.getD (r * n + j) 0
/-- The number that share k has of row r. -/
def partV (n : Nat) (data : List Int) (k r : Nat) : Int := atV (placesL n) (rowL n data r) k
/-- Share k, of the first r rows. -/
def shareL (n : Nat) (data : List Int) (r k : Nat) : Int × List Int := ((k : Int), (List.range r).map (partV n data k))
def sharesL (n : Nat) (data : List Int) (o r : Nat) : List (Int × List Int) := (List.range o).map (shareL n data r)
/-- On the way: r rows are done, and of the next one the first m shares. -/
def stL (n : Nat) (data : List Int) (o r m : Nat) : List (Int × List Int) :=
  (List.range o).map fun k => (if 0 < r ∨ k < m then (k : Int) else 0, (List.range (if k < m then r + 1 else r)).map (partV n data k))

theorem placesL_len (n : Nat) : (placesL n).length = n := by simp [placesL]
theorem rowL_len (n : Nat) (data : List Int) (r : Nat) : (rowL n data r).length = n := by simp [rowL]
theorem stL_start (n : Nat) (data : List Int) (o : Nat) : stL n data o 0 0 = List.replicate o (0, []) := by
  apply List.ext_getElem (by simp [stL])
  intro i h1 h2
  simp [stL]
theorem stL_next (n : Nat) (data : List Int) (o r : Nat) : stL n data o r o = stL n data o (r + 1) 0 := by
  apply List.ext_getElem (by simp [stL])
  intro i h1 h2
  have : i < o := by simpa [stL] using h1
  simp [stL, this]
theorem stL_done (n : Nat) (data : List Int) (o r : Nat) (hr : 0 < r) : stL n data o r 0 = sharesL n data o r := by
  apply List.ext_getElem (by simp [stL, sharesL])
  intro i h1 h2
  simp [stL, sharesL, shareL, hr]
theorem stL_at (n : Nat) (data : List Int) (o r m : Nat) (hm : m < o) : ∃ N, (stL n data o r m)[m]? = some (N, (List.range r).map (partV n data m)) := by
  refine ⟨if 0 < r then (m : Int) else 0, ?_⟩
  simp [stL, hm]
theorem stL_step (n : Nat) (data : List Int) (o r m : Nat) : (stL n data o r m).set m ((m : Int), (List.range r).map (partV n data m) ++ [partV n data m r]) = stL n data o r (m + 1) := by
  apply List.ext_getElem (by simp [stL])
  intro i h1 h2
  rw [List.getElem_set]
  by_cases him : m = i
  · subst him
    simp [stL, List.range_succ]
  · rw [if_neg him]
    simp only [stL, List.getElem_map, List.getElem_range]
    by_cases hlt : i < m
    · simp [hlt, show i < m + 1 by omega]
    · simp [hlt, show ¬ i < m + 1 by omega]

theorem numsL_places {n : Nat} (hn : n ≤ 8) : ∀ a ∈ placesL n, 0 ≤ a ∧ a < 31 := by
  intro a ha
  obtain ⟨k, hk, rfl⟩ := List.mem_map.1 ha
  have := List.mem_range.1 hk
  omega
theorem numsL_row {n : Nat} {data : List Int} (hd : ∀ z ∈ data, 0 ≤ z ∧ z < 31) (r : Nat) : ∀ a ∈ rowL n data r, 0 ≤ a ∧ a < 31 := by
  intro a ha
  obtain ⟨k, _, rfl⟩ := List.mem_map.1 ha
  exact AllNum.getD hd _
theorem ptsOk_row {n : Nat} {data : List Int} (hn1 : 1 ≤ n) (hn : n ≤ 4) (hd : ∀ z ∈ data, 0 ≤ z ∧ z < 31) (r : Nat) : PtsOk (placesL n) (rowL n data r) := by
  refine ⟨by rw [placesL_len, rowL_len], by rw [placesL_len]; exact hn1, by rw [placesL_len]; omega, numsL_places (by omega), numsL_row hd r, ?_⟩
  unfold placesL
  refine List.pairwise_map.2 (List.Pairwise.imp ?_ List.pairwise_lt_range)
  intro a b hab e
  omega
/-- A row as it is copied: what is left of the content, noughts behind it. -/
theorem row_copied (n : Nat) (data : List Int) (r : Nat) (h : r * n ≤ data.length) :
    (data.drop (r * n)).take (List.replicate n (0 : Int)).length ++ (List.replicate n (0 : Int)).drop (data.drop (r * n)).length = rowL n data r := by
  apply List.ext_getElem
  · simp [rowL]; omega
  · intro i h1 h2
    have hi : i < n := by simpa [rowL] using h2
    simp only [rowL, List.getElem_map, List.getElem_range, List.getD_eq_getElem?_getD]
    rw [List.getElem_append]
    split
    · rename_i hlt
      simp at hlt
      simp only [List.getElem_take, List.getElem_drop]
      rw [List.getElem?_eq_getElem (by omega)]
      rfl
    · rename_i hge
      simp at hge
      rw [List.getElem?_eq_none (by omega)]
      simp

end Go.Proofs.Ytnpdojjffbhalaa
