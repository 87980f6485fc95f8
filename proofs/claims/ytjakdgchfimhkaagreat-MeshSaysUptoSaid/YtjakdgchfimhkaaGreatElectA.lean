/-
  Words of the walk of the reference's Elect: what its loops have.
-/
import Derived.Test.YtjakdgchfimhkaaGreatElectLaw
import Derived.Test.YtjakdgchfimhkaaGreatCompare
import Derived.Test.YtjakdgchfimhkaaGreatVotes
import Derived.Test.YtjakdgchfimhkaaGreatMosts
namespace Go.Proofs.YtjakdgchfimhkaaGreat
open Go.RowKit

def picksTo (n len m : Nat) : List (List Int) := ((List.range m).map (bitsI len)).filter fun c => decide (c.length = n)
theorem picksTo_all (n len : Nat) : picksTo n len (2 ^ len) = picksL n len := rfl
theorem bits_step (i set : Nat) : bitsI (i + 1) set = if set.testBit i = true then bitsI i set ++ [(i : Int)] else bitsI i set := by
  unfold bitsI
  rw [List.range_succ, List.filter_append, List.map_append]
  by_cases h : set.testBit i = true
  · rw [if_pos h]; simp [h]
  · rw [if_neg h]; simp [h]
theorem bits_len (i set : Nat) : (bitsI i set).length ≤ i := by
  unfold bitsI
  rw [List.length_map]
  exact Nat.le_trans (List.length_filter_le _ _) (by simp)
theorem bits_one {i set : Nat} (h : set.testBit i = true) : bitsI (i + 1) set = bitsI i set ++ [(i : Int)] := by rw [bits_step, if_pos h]
theorem bits_none {i set : Nat} (h : set.testBit i = false) : bitsI (i + 1) set = bitsI i set := by rw [bits_step, if_neg (by simp [h])]
theorem picks_one {n len m : Nat} (h : (bitsI len m).length = n) : picksTo n len (m + 1) = picksTo n len m ++ [bitsI len m] := by
  unfold picksTo
  rw [List.range_succ, List.map_append, List.filter_append]; simp [h]
theorem picks_none {n len m : Nat} (h : (bitsI len m).length ≠ n) : picksTo n len (m + 1) = picksTo n len m := by
  unfold picksTo
  rw [List.range_succ, List.map_append, List.filter_append]; simp [h]
theorem picks_len (n len m : Nat) : (picksTo n len m).length ≤ m := by
  unfold picksTo
  exact Nat.le_trans (List.length_filter_le _ _) (by simp)
theorem bit_word : ∀ m, m < 257 → ∀ k, k < 8 → (bits BinOp.and IntKind.i64 (((m : Nat) : Int) / 2 ^ k) 1 == 1) = m.testBit k := by decide +kernel
theorem rpick_stays : Rd.Stays RInts := by
  rintro w cs x ⟨v, rfl, h⟩ w' hw
  exact ⟨v, rfl, h.framed (fun _ _ _ => id) hw⟩
end Go.Proofs.YtjakdgchfimhkaaGreat
