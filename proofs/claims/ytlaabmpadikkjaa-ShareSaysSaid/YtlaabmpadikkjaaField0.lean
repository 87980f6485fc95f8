/-
  The walks of a number's checks, and of the law's 'at'.
-/
import Derived.Test.YtlaabmpadikkjaaRows
import Derived.Test.YtlaabmpadikkjaaLib
import Derived.Test.YtlaabmpadikkjaaMath
namespace Go.Proofs.Ytlaabmpadikkjaa
open Go.RowKit

theorem inB_yes {n a b : Int} (h0 : a ≤ n) (h1 : n ≤ b) : inB n a b = true := by simp [inB, h0, h1]
theorem inB_no {n a b : Int} (h : n < a ∨ b < n) : inB n a b = false := by simp [inB]; omega

set_option maxHeartbeats 400000 in
theorem Check_yes (a : Int) (w : World) (h0 : 0 ≤ a) (h1 : a < 31) :
    Calls Try.prog 51 #[.int .i64 a] w fun e w' => e = .returned (.int .i64 0) ∧ w = w' := by
  go_enter Try.func51, Try.ntmps51
  go_wp2
  go_ret
  exact ⟨rfl, rfl⟩

set_option maxHeartbeats 400000 in
theorem Check_no (a : Int) (w : World) (h : a < 0 ∨ 31 ≤ a) :
    Calls Try.prog 51 #[.int .i64 a] w fun e w' => e = .returned (.int .i64 2) ∧ w = w' := by
  rcases h with h | h
  · go_enter Try.func51, Try.ntmps51
    go_wp2
    go_ret
    exact ⟨rfl, rfl⟩
  · go_enter Try.func51, Try.ntmps51
    go_wp2
    all_goals go_ret
    all_goals exact ⟨rfl, rfl⟩

set_option maxHeartbeats 400000 in
theorem at_any (k n : Int) (w : World) (h0 : -9223372036854775808 ≤ k) (h1 : k ≤ 9223372036854775807) (h2 : 1 ≤ n) (h3 : n ≤ 1000000) :
    Calls Try.prog 28 #[.int .i64 k, .int .i64 n] w fun e w' => e = .returned (.int .i64 (modV k n)) ∧ w = w' := by
  have hn : (n == 0) = false := by simp; omega
  by_cases hk : 0 ≤ k
  · have hb : 0 ≤ k % n := Int.emod_nonneg _ (by omega)
    go_enter Try.func28, Try.ntmps28
    go_wp2
    go_ret
    exact ⟨ret_int rfl, rfl⟩
  · have ht := tmod_lo k n (by omega) h2
    obtain ⟨t0, t1, t2, t3⟩ := ht
    have T2 := Lib.hid t2
    have T3 := Lib.hid t3
    clear t2 t3
    by_cases hlt : k.tmod n < 0
    · go_enter Try.func28, Try.ntmps28
      go_wp2
      go_ret
      exact ⟨ret_int (T2.out hlt), rfl⟩
    · go_enter Try.func28, Try.ntmps28
      go_wp2
      go_ret
      exact ⟨ret_int (T3.out (by omega)), rfl⟩

set_option maxHeartbeats 400000 in
theorem in_any (n a b : Int) (w : World) :
    Calls Try.prog 60 #[.int .i64 n, .int .i64 a, .int .i64 b] w fun e w' => e = .returned (.bool (inB n a b)) ∧ w = w' := by
  by_cases h1 : a ≤ n
  · by_cases h2 : n ≤ b
    · have H : inB n a b = true := by simp [inB, h1, h2]
      have H := Lib.hid H
      go_enter Try.func60, Try.ntmps60
      go_wp2
      go_ret
      exact ⟨ret_bool H.out.symm, rfl⟩
    · have H : inB n a b = false := by simp [inB]; omega
      have K := Lib.hid H
      clear H
      have h3 : decide (n ≤ b) = false := by simp; omega
      go_enter Try.func60, Try.ntmps60
      go_wp2
      go_ret
      exact ⟨ret_bool K.out.symm, rfl⟩
  · have H : inB n a b = false := by simp [inB]; omega
    have K := Lib.hid H
    clear H
    have h3 : decide (a ≤ n) = false := by simp; omega
    go_enter Try.func60, Try.ntmps60
    go_wp2
    go_ret
    exact ⟨ret_bool K.out.symm, rfl⟩

set_option maxHeartbeats 400000 in
theorem IsNumber_any (a : Int) (w : World) :
    Calls Try.prog 56 #[.int .i64 a] w fun e w' => e = .returned (.bool (isNum a)) ∧ w = w' := by
  go_enter Try.func56, Try.ntmps56
  go_wp2_with fail
  refine (in_any _ _ _ _).mono ?_
  rintro e w' ⟨rfl, rfl⟩
  go_wp2_with fail
  go_ret
  exact ⟨rfl, rfl⟩

end Go.Proofs.Ytlaabmpadikkjaa
