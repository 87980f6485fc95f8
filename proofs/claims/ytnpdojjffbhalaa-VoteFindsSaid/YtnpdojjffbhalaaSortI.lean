/-
  slices.Sort at ints of the call's own.
-/
import Derived.Test.YtnpdojjffbhalaaBase
import Derived.Test.YtnpdojjffbhalaaSortInts
import Derived.Sort.OwnSortedInts
namespace Go.Proofs.Ytnpdojjffbhalaa
open Go.RowKit Go.Sort

def sortV (l : List Int) : List Int := l.mergeSort fun x y => decide (x ≤ y)
theorem sortV_perm (l : List Int) : (sortV l).Perm l := List.mergeSort_perm _ _
theorem sortV_len (l : List Int) : (sortV l).length = l.length := (sortV_perm l).length_eq
theorem SortInts_any (base : Nat) (v : Value) (l : List Int) (W : World) (ho : OwnInts W 3 base v l) :
    Calls Try.prog 18 #[v] W fun e w' => e = .returned (.tuple #[]) ∧ OwnInts w' 3 base v (sortV l) ∧ W.grownBy w' v.ownBlock := by
  obtain ⟨ho1, hb, hl⟩ := ho
  rcases ho1.2 with ⟨rfl, hn⟩ | ⟨g, cap, cur, rfl, hbg, hg, hnc, hcm, hcs, htk⟩
  · obtain rfl : l = [] := List.eq_nil_of_length_eq_zero hn
    refine (AnyG.slices_Sort_int_none sortInts none 0 W).mono ?_
    rintro e w' ⟨rfl, rfl⟩
    exact ⟨rfl, by rw [show sortV [] = [] by simp [sortV]]; exact OwnInts.nil _ _ _, World.grownBy.refl _ _⟩
  · rw [Nat.mul_one] at htk
    refine (AnyG.slices_Sort_int sortInts g 0 cap l W (holds_of_blockI hg htk) (Array.getElem?_eq_some_iff.1 hg).1 (by omega)).mono ?_
    rintro e w' ⟨rfl, n, os, rfl⟩
    refine ⟨rfl, ⟨?_, fun x hx => hb x ((sortV_perm l).mem_iff.1 hx), by rw [sortV_len]; exact hl⟩, grownBy_sortedI _⟩
    rw [sortV_len]
    exact ownsRow_sortedI (ts := sortV l) (sortV_len l) hbg hg hnc hcm hcs
end Go.Proofs.Ytnpdojjffbhalaa
