/-
  The walk of slices.IsSorted at ints that rise.
-/
import Derived.Test.YtlaabmpadikkjaaKinBothWalk
namespace Go.Proofs.Ytlaabmpadikkjaa
open Go.RowKit

set_option maxRecDepth 100000 in
theorem isNaN_any (a : Int) (w : World) : Calls Try.prog 87 #[.int .i64 a] w fun e w' => e = .returned (.bool false) ∧ w = w' := by
  have h : (a != a) = false := by simp
  go_enter Try.func87, Try.ntmps87
  go_wp2_with fail
  go_ret
  exact ⟨rfl, rfl⟩
set_option maxRecDepth 100000 in
theorem Less_any (a b : Int) (w : World) : Calls Try.prog 79 #[.int .i64 a, .int .i64 b] w fun e w' => e = .returned (.bool (decide (a < b))) ∧ w = w' := by
  by_cases h : a < b
  · have hd : decide (a < b) = true := by simpa using h
    rw [hd]
    go_enter Try.func79, Try.ntmps79
    go_wp2_with fail
    refine (isNaN_any a _).mono ?_
    rintro e w' ⟨rfl, rfl⟩
    go_wp2_with fail
    go_ret
    exact ⟨rfl, rfl⟩
  · have hd : decide (a < b) = false := by simpa using h
    rw [hd]
    go_enter Try.func79, Try.ntmps79
    go_wp2_with fail
    refine (isNaN_any a _).mono ?_
    rintro e w' ⟨rfl, rfl⟩
    go_wp2_with fail
    go_ret
    exact ⟨rfl, rfl⟩

set_option maxRecDepth 100000 in
set_option maxHeartbeats 2000000 in
theorem IsSorted_any (v : Value) (l : List Int) (W : World) (hv : IsInts W v l) (hl : l.Pairwise (· < ·)) :
    Calls Try.prog 48 #[v] W fun e w' => e = .returned (.bool true) ∧ Below W.heap.size W w' := by
  obtain ⟨a, c, rfl, hcap, ⟨hm, hcm, _⟩, hi⟩ := hv.opened
  have HL := Lib.hid hl
  clear hl
  go_enter Try.func48, Try.ntmps48
  go_wp2_with fail
  go_loopw [3] (fun i wr => ∃ k : Int, i = .int .i64 k ∧ -1 ≤ k ∧ k < l.length ∧ Since W.heap.size W wr) (fun i _ => (intOf i + 1).toNat)
  case atStart => exact ⟨(l.length : Int) - 1, by go_num, by omega, by omega, Since.refl W⟩
  case round =>
    obtain ⟨k, rfl, hk0, hk1, hS⟩ := hrel
    by_cases hlt : 0 < k
    · obtain ⟨j, rfl⟩ : ∃ j : Nat, k = (j : Int) + 1 := ⟨(k - 1).toNat, by omega⟩
      have hj : j + 1 < l.length := by omega
      obtain ⟨b1, o1, z1, rfl, h1, h4, h5⟩ := hi (j + 1) hj
      obtain ⟨b2, o2, z2, e2, g1, g4, g5⟩ := hi j (by omega)
      cases e2
      have hz : z2 < z1 := by
        have := List.pairwise_iff_getElem.1 HL.out j (j + 1) (by omega) hj (by omega)
        rw [List.getElem?_eq_getElem hj] at h4
        rw [List.getElem?_eq_getElem (show j < l.length by omega)] at g4
        cases h4
        cases g4
        exact this
      have hd : decide (z1 < z2) = false := by simpa using (by omega : z2 ≤ z1)
      have c1 := (hS.below.cell (p := ⟨b1, o1 + (j + 1), none⟩) (cell_lt h1)).trans h1
      have c2 := (hS.below.cell (p := ⟨b1, o1 + j, none⟩) (cell_lt g1)).trans g1
      have s1 : (0 : Int) ≤ (j : Int) + 1 := by omega
      have s2 : (j : Int) + 1 < (l.length : Int) := by omega
      have s3 : ((j : Int) + 1).toNat = j + 1 := by omega
      have s4 : IntKind.i64.wrap ((j : Int) + 1 - 1) = (j : Int) := by rw [show (j : Int) + 1 - 1 = (j : Int) by omega]; exact IntWalk.i64_in _ (by omega)
      have s5 : (0 : Int) ≤ (j : Int) := by omega
      have s6 : (j : Int) < (l.length : Int) := by omega
      have HLS : Hid (∀ w, Calls Try.prog 79 #[.int .i64 z1, .int .i64 z2] w fun e w' => e = .returned (.bool false) ∧ w = w') := Lib.hid (fun w => by have := Less_any z1 z2 w; rw [hd] at this; exact this)
      clear h1 h4 g1 g4 hz hi hd
      go_wp2_with (go_quiet (refine Calls.quiet_of_same ((HLS.out _).mono fun e w' h => ⟨h.1, h.2.symm⟩)))
      exact ⟨⟨_, rfl, by omega, by omega, hS.drewN nq⟩, by simp [intOf]; omega⟩
    · have hd : decide ((0 : Int) < k) = false := by simpa using hlt
      go_wp2_with fail
      go_ret
      exact ⟨rfl, hS.below⟩

end Go.Proofs.Ytlaabmpadikkjaa
