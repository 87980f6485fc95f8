/-
  The walk of Names.
-/
import Derived.Test.YtbodfbpikpkkbaaField
import Derived.Test.YtbodfbpikpkkbaaSlices
namespace Go.Proofs.Ytbodfbpikpkkbaa
open Go.RowKit

set_option maxHeartbeats 1000000 in
theorem Names_walk (W : World) :
    Calls Try.prog 3 #[] W fun e w' => e = .returned (.bool true) ∧ Below W.heap.size W w' := by
  obtain ⟨w1, hw1⟩ : ∃ w1, w1 = W.alloc (.cells #[.int .i64 0, .int .i64 1, .int .i64 2, .int .i64 3, .int .i64 4, .int .i64 5, .int .i64 6, .int .i64 7, .int .i64 8, .int .i64 9] 22) := ⟨_, rfl⟩
  have c0 : w1.cell? ⟨W.heap.size, 0, none⟩ = some (.int .i64 0) := by rw [hw1]; go_simp
  have c1 : w1.cell? ⟨W.heap.size, 1, none⟩ = some (.int .i64 1) := by rw [hw1]; go_simp
  have c2 : w1.cell? ⟨W.heap.size, 2, none⟩ = some (.int .i64 2) := by rw [hw1]; go_simp
  have c3 : w1.cell? ⟨W.heap.size, 3, none⟩ = some (.int .i64 3) := by rw [hw1]; go_simp
  have c4 : w1.cell? ⟨W.heap.size, 4, none⟩ = some (.int .i64 4) := by rw [hw1]; go_simp
  have c5 : w1.cell? ⟨W.heap.size, 5, none⟩ = some (.int .i64 5) := by rw [hw1]; go_simp
  have c6 : w1.cell? ⟨W.heap.size, 6, none⟩ = some (.int .i64 6) := by rw [hw1]; go_simp
  have c7 : w1.cell? ⟨W.heap.size, 7, none⟩ = some (.int .i64 7) := by rw [hw1]; go_simp
  have c8 : w1.cell? ⟨W.heap.size, 8, none⟩ = some (.int .i64 8) := by rw [hw1]; go_simp
  have c9 : w1.cell? ⟨W.heap.size, 9, none⟩ = some (.int .i64 9) := by rw [hw1]; go_simp
  have hbl : Below W.heap.size W w1 := by rw [hw1]; exact (Below.refl _ _).alloc (Nat.le_refl _) _
  have HC : ∀ k : Nat, k < 10 → w1.cell? ⟨W.heap.size, k, none⟩ = some (.int .i64 k) := by
    intro k hk
    rcases (by omega : k = 0 ∨ k = 1 ∨ k = 2 ∨ k = 3 ∨ k = 4 ∨ k = 5 ∨ k = 6 ∨ k = 7 ∨ k = 8 ∨ k = 9) with rfl | rfl | rfl | rfl | rfl | rfl | rfl | rfl | rfl | rfl <;> assumption
  clear c0 c1 c2 c3 c4 c5 c6 c7 c8 c9
  have HD := Lib.hid HC
  clear HC
  have HW := Lib.hid hw1
  clear hw1
  go_enter Try.func3, Try.ntmps3
  go_wp2
  rw [← HW.out]
  go_loop [9] (fun i => ∃ k : Nat, k ≤ 10 ∧ i = .int .i64 k) (fun i => 10 - (intOf i).toNat)
  case atStart => exact ⟨0, by omega, rfl⟩
  case round =>
    obtain ⟨k, hk, rfl⟩ := hrel
    by_cases hlt : k < 10
    · have hc := HD.out k hlt
      have hne : ((k : Int) != (k : Int)) = false := by simp
      go_wp2
      go_round
      case rel => exact ⟨k + 1, by omega, by go_num⟩
      case measure => simp [intOf]; omega
    · obtain rfl : k = 10 := by omega
      clear hk hlt
      have hbl2 := hbl.size
      generalize w1 = w1 at *
      have wf1 : ∀ x ∈ [31, 4, 8, 24, 12, 8, 20, 100], I64 x := by unfold I64; decide
      have wf2 : ∀ x ∈ [1, 2, 3, 4, 5, 6, 7], I64 x := by unfold I64; decide
      have A0 := Lib.hid (IsInts.fresh w1 3 [31, 4, 8, 24, 12, 8, 20, 100] (by decide) wf1 _ rfl)
      have W1 := Lib.hid wf1
      have W2 := Lib.hid wf2
      clear wf1 wf2
      have E1 := Lib.hid (show eqInts [31, 4, 8, 24, 12, 8, 20, 100] [31, 4, 8, 24, 12, 8, 20, 100] = true from by decide)
      have E2 := Lib.hid (show eqInts [1, 2, 3, 4, 5, 6, 7] [1, 2, 3, 4, 5, 6, 7] = true from by decide)
      go_wp2_with fail
      refine (Equal_ints _ _ [31, 4, 8, 24, 12, 8, 20, 100] [31, 4, 8, 24, 12, 8, 20, 100] _ ((A0.out.stays (below_alloc _ _)).stays (below_alloc _ _)) (IsInts.fresh _ _ [31, 4, 8, 24, 12, 8, 20, 100] (by decide) W1.out _ (by simp))).mono ?_
      rintro e w2 ⟨rfl, hb2⟩
      rw [E1.out]
      have B0 := (IsInts.fresh (w1.alloc (.cells #[.int .i64 31, .int .i64 4, .int .i64 8, .int .i64 24, .int .i64 12, .int .i64 8, .int .i64 20, .int .i64 100] 3)) 3 [1, 2, 3, 4, 5, 6, 7] (by decide) W2.out _ rfl)
      have B1 := Lib.hid ((B0.stays (below_alloc _ (.cells #[.int .i64 31, .int .i64 4, .int .i64 8, .int .i64 24, .int .i64 12, .int .i64 8, .int .i64 20, .int .i64 100] 3))).stays hb2)
      clear B0
      have hb3 : Below W.heap.size W w2 := by
        refine ((((hbl.alloc hbl2 _).alloc ?_ _).alloc ?_ _).trans (hb2.mono ?_)) <;> simp <;> omega
      clear hb2 hbl
      have hs3 := hb3.size
      go_wp2_with fail
      refine (Equal_ints _ _ [1, 2, 3, 4, 5, 6, 7] [1, 2, 3, 4, 5, 6, 7] _ (by simpa using B1.out.stays (below_alloc _ _)) (IsInts.fresh _ _ [1, 2, 3, 4, 5, 6, 7] (by decide) W2.out _ (by simp))).mono ?_
      rintro e w3 ⟨rfl, hb4⟩
      rw [E2.out]
      go_wp2_with fail
      go_ret
      exact ⟨rfl, (hb3.alloc hs3 _).trans (hb4.mono (by simp; omega))⟩

end Go.Proofs.Ytbodfbpikpkkbaa
