/-
  The walk of FieldSays.
-/
import Derived.Test.YtbodfbpikpkkbaaField
namespace Go.Proofs.Ytbodfbpikpkkbaa
open Go.RowKit

set_option maxHeartbeats 1000000 in
theorem fieldSays_ok (a b : Int) (w : World) (h0 : 0 ≤ a) (h1 : a < 31) (h2 : 0 ≤ b) (h3 : b < 31) :
    Calls Try.prog 4 #[.int .i64 a, .int .i64 b] w fun e w' => e = .returned (.bool true) ∧ w = w' := by
  have ia := isNum_true h0 h1
  have ib := isNum_true h2 h3
  have hm := mul_bd h0 h1 h2 h3
  obtain ⟨m0, m1⟩ := hm
  have e1 : (addV a b != (a + b) % 31) = false := by simp [addV]
  have e2 : (mulV a b != a * b % 31) = false := by simp [mulV]
  by_cases hb : b = 0
  · have hb1 : (b == 0) = true := by simpa using hb
    have hb2 : b ≤ 0 := by omega
    clear hb
    go_enter Try.func4, Try.ntmps4
    go_wp2_with (first | (go_at_call 16; refine (Add_yes _ _ _ (by omega) (by omega) (by omega) (by omega)).mono ?_; rintro e w' ⟨rfl, rfl⟩) | (go_at_call 17; refine (Mul_yes _ _ _ (by omega) (by omega) (by omega) (by omega)).mono ?_; rintro e w' ⟨rfl, rfl⟩) | (go_at_call 18; refine (Div_no _ _ _ (by omega)).mono ?_; rintro e w' ⟨rfl, rfl⟩) | (go_at_call 19; refine (IsNumber_any _ _).mono ?_; rintro e w' ⟨rfl, rfl⟩) | (go_at_call 20; refine (reckoned_any _).mono ?_; rintro e w' ⟨rfl, rfl⟩) | (go_at_call 21; refine (Check_yes _ _ (by omega) (by omega)).mono ?_; rintro e w' ⟨rfl, rfl⟩))
    go_ret
    exact ⟨rfl, rfl⟩
  · have hb1 : (b == 0) = false := by simpa using hb
    have e3 : (divV a b == quoV a b) = true := by simpa using (div_facts h0 h1 (show 0 < b by omega) h3).1
    have hb2 : 0 < b := by omega
    clear hb
    go_enter Try.func4, Try.ntmps4
    go_wp2_with (first | (go_at_call 16; refine (Add_yes _ _ _ (by omega) (by omega) (by omega) (by omega)).mono ?_; rintro e w' ⟨rfl, rfl⟩) | (go_at_call 17; refine (Mul_yes _ _ _ (by omega) (by omega) (by omega) (by omega)).mono ?_; rintro e w' ⟨rfl, rfl⟩) | (go_at_call 18; refine (Div_yes _ _ _ (by omega) (by omega) (by omega) (by omega)).mono ?_; rintro e w' ⟨rfl, rfl⟩) | (go_at_call 19; refine (IsNumber_any _ _).mono ?_; rintro e w' ⟨rfl, rfl⟩) | (go_at_call 20; refine (reckoned_any _).mono ?_; rintro e w' ⟨rfl, rfl⟩) | (go_at_call 21; refine (Check_yes _ _ (by omega) (by omega)).mono ?_; rintro e w' ⟨rfl, rfl⟩) | (go_at_call 22; refine (Quotient_any _ _ _ (by omega) (by omega)).mono ?_; rintro e w' ⟨rfl, rfl⟩))
    go_ret
    exact ⟨rfl, rfl⟩

set_option maxHeartbeats 1000000 in
theorem fieldSays_no (a b : Int) (w : World) (h : a < 0 ∨ 31 ≤ a ∨ b < 0 ∨ 31 ≤ b) :
    Calls Try.prog 4 #[.int .i64 a, .int .i64 b] w fun e w' => e = .returned (.bool true) ∧ w = w' := by
  by_cases ha : a < 0 ∨ 31 ≤ a
  · have ia := isNum_false ha
    go_enter Try.func4, Try.ntmps4
    go_wp2_with (first | (go_at_call 16; refine (Add_no _ _ _ (by omega)).mono ?_; rintro e w' ⟨rfl, rfl⟩) | (go_at_call 17; refine (Mul_no _ _ _ (by omega)).mono ?_; rintro e w' ⟨rfl, rfl⟩) | (go_at_call 18; refine (Div_no _ _ _ (by omega)).mono ?_; rintro e w' ⟨rfl, rfl⟩) | (go_at_call 19; refine (IsNumber_any _ _).mono ?_; rintro e w' ⟨rfl, rfl⟩) | (go_at_call 20; refine (reckoned_any _).mono ?_; rintro e w' ⟨rfl, rfl⟩) | (go_at_call 21; refine (Check_no _ _ (by omega)).mono ?_; rintro e w' ⟨rfl, rfl⟩))
    go_ret
    exact ⟨rfl, rfl⟩
  · have ia := isNum_true (a := a) (by omega) (by omega)
    have ib := isNum_false (a := b) (by omega)
    go_enter Try.func4, Try.ntmps4
    go_wp2_with (first | (go_at_call 16; refine (Add_no _ _ _ (by omega)).mono ?_; rintro e w' ⟨rfl, rfl⟩) | (go_at_call 17; refine (Mul_no _ _ _ (by omega)).mono ?_; rintro e w' ⟨rfl, rfl⟩) | (go_at_call 18; refine (Div_no _ _ _ (by omega)).mono ?_; rintro e w' ⟨rfl, rfl⟩) | (go_at_call 19; refine (IsNumber_any _ _).mono ?_; rintro e w' ⟨rfl, rfl⟩) | (go_at_call 20; refine (reckoned_any _).mono ?_; rintro e w' ⟨rfl, rfl⟩) | (go_at_call 21; refine (Check_yes _ _ (by omega) (by omega)).mono ?_; rintro e w' ⟨rfl, rfl⟩))
    go_ret
    exact ⟨rfl, rfl⟩

theorem FieldSays_walk (v0 : Value) (x0 : Int) (v1 : Value) (x1 : Int) (W : World) (w0 : IsInt v0 x0) (w1 : IsInt v1 x1) :
    Calls Try.prog 4 #[v0, v1] W fun e w' => e = .returned (.bool true) ∧ Below W.heap.size W w' := by
  obtain ⟨rfl, i0⟩ := w0
  obtain ⟨rfl, i1⟩ := w1
  by_cases h : x0 < 0 ∨ 31 ≤ x0 ∨ x1 < 0 ∨ 31 ≤ x1
  · refine (fieldSays_no x0 x1 W h).mono ?_
    rintro e w' ⟨rfl, rfl⟩
    exact ⟨rfl, Below.refl _ _⟩
  · refine (fieldSays_ok x0 x1 W (by omega) (by omega) (by omega) (by omega)).mono ?_
    rintro e w' ⟨rfl, rfl⟩
    exact ⟨rfl, Below.refl _ _⟩

end Go.Proofs.Ytbodfbpikpkkbaa
