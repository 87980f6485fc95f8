/-
  The walks of a number's checks, and of the law's 'at'.
-/
import Derived.Test.YtpjlngkndofjfaaRows
import Derived.Test.YtpjlngkndofjfaaLib
import Derived.Test.YtpjlngkndofjfaaMath
namespace Go.Proofs.Ytpjlngkndofjfaa
open Go.RowKit

theorem inB_yes {n a b : Int} (h0 : a ≤ n) (h1 : n ≤ b) : inB n a b = true := by simp [inB, h0, h1]
theorem inB_no {n a b : Int} (h : n < a ∨ b < n) : inB n a b = false := by simp [inB]; omega

set_option maxHeartbeats 400000 in
theorem Check_yes (a : Int) (w : World) (h0 : 0 ≤ a) (h1 : a < 31) :
    Calls Try.prog 57 #[.int .i64 a] w fun e w' => e = .returned (.int .i64 0) ∧ w = w' := by
  go_enter Try.func57, Try.ntmps57
  go_wp2
  go_ret
  exact ⟨rfl, rfl⟩

set_option maxHeartbeats 400000 in
theorem Check_no (a : Int) (w : World) (h : a < 0 ∨ 31 ≤ a) :
    Calls Try.prog 57 #[.int .i64 a] w fun e w' => e = .returned (.int .i64 2) ∧ w = w' := by
  rcases h with h | h
  · go_enter Try.func57, Try.ntmps57
    go_wp2
    go_ret
    exact ⟨rfl, rfl⟩
  · go_enter Try.func57, Try.ntmps57
    go_wp2
    all_goals go_ret
    all_goals exact ⟨rfl, rfl⟩

set_option maxHeartbeats 400000 in
theorem in_any (n a b : Int) (w : World) :
    Calls Try.prog 32 #[.int .i64 n, .int .i64 a, .int .i64 b] w fun e w' => e = .returned (.bool (inB n a b)) ∧ w = w' := by
  by_cases h1 : a ≤ n
  · by_cases h2 : n ≤ b
    · have H : inB n a b = true := by simp [inB, h1, h2]
      have H := Lib.hid H
      go_enter Try.func32, Try.ntmps32
      go_wp2
      go_ret
      exact ⟨ret_bool H.out.symm, rfl⟩
    · have H : inB n a b = false := by simp [inB]; omega
      have K := Lib.hid H
      clear H
      have h3 : decide (n ≤ b) = false := by simp; omega
      go_enter Try.func32, Try.ntmps32
      go_wp2
      go_ret
      exact ⟨ret_bool K.out.symm, rfl⟩
  · have H : inB n a b = false := by simp [inB]; omega
    have K := Lib.hid H
    clear H
    have h3 : decide (a ≤ n) = false := by simp; omega
    go_enter Try.func32, Try.ntmps32
    go_wp2
    go_ret
    exact ⟨ret_bool K.out.symm, rfl⟩

set_option maxHeartbeats 400000 in
theorem IsNumber_any (a : Int) (w : World) :
    Calls Try.prog 61 #[.int .i64 a] w fun e w' => e = .returned (.bool (isNum a)) ∧ w = w' := by
  go_enter Try.func61, Try.ntmps61
  go_wp2_with fail
  refine (in_any _ _ _ _).mono ?_
  rintro e w' ⟨rfl, rfl⟩
  go_wp2_with fail
  go_ret
  exact ⟨rfl, rfl⟩

end Go.Proofs.Ytpjlngkndofjfaa
