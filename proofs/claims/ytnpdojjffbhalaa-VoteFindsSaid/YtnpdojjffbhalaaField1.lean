/-
  The walks of division and of the reference's first functions: each contract says what the call answers, and that the world is as it was.
-/
import Derived.Test.YtnpdojjffbhalaaBase
namespace Go.Proofs.Ytnpdojjffbhalaa
open Go.RowKit

set_option maxRecDepth 100000 in
set_option maxHeartbeats 400000 in
theorem both_yes (a b : Int) (w : World) (h0 : 0 ≤ a) (h1 : a < 31) (h2 : 0 ≤ b) (h3 : b < 31) :
    Calls Try.prog 118 #[.int .i64 a, .int .i64 b] w fun e w' => e = .returned (.bool true) ∧ w = w' := by
  go_enter Try.func118, Try.ntmps118
  go_wp2_with (go_at_call 44; refine (Check_yes _ _ (by omega) (by omega)).mono ?_; rintro e w' ⟨rfl, rfl⟩)
  go_ret
  exact ⟨rfl, rfl⟩

set_option maxRecDepth 100000 in
set_option maxHeartbeats 400000 in
theorem both_no (a b : Int) (w : World) (h : a < 0 ∨ 31 ≤ a ∨ b < 0 ∨ 31 ≤ b) :
    Calls Try.prog 118 #[.int .i64 a, .int .i64 b] w fun e w' => e = .returned (.bool false) ∧ w = w' := by
  by_cases ha : 0 ≤ a ∧ a < 31
  · go_enter Try.func118, Try.ntmps118
    go_wp2_with fail
    refine (Check_yes _ _ (by omega) (by omega)).mono ?_
    rintro e w' ⟨rfl, rfl⟩
    go_wp2_with fail
    refine (Check_no _ _ (by omega)).mono ?_
    rintro e w' ⟨rfl, rfl⟩
    go_wp2_with fail
    go_ret
    exact ⟨rfl, rfl⟩
  · go_enter Try.func118, Try.ntmps118
    go_wp2_with fail
    refine (Check_no _ _ (by omega)).mono ?_
    rintro e w' ⟨rfl, rfl⟩
    go_wp2_with fail
    go_ret
    exact ⟨rfl, rfl⟩

set_option maxRecDepth 100000 in
set_option maxHeartbeats 400000 in
theorem Div_yes (a b : Int) (w : World) (h0 : 0 ≤ a) (h1 : a < 31) (h2 : 0 < b) (h3 : b < 31) :
    Calls Try.prog 87 #[.int .i64 a, .int .i64 b] w fun e w' => e = .returned (.tuple #[.int .i64 (divV a b), .int .i64 0]) ∧ w = w' := by
  have hb : (b == 0) = false := by simp; omega
  go_enter Try.func87, Try.ntmps87
  go_wp2_with (go_at_call 118; refine (both_yes _ _ _ (by omega) (by omega) (by omega) (by omega)).mono ?_; rintro e w' ⟨rfl, rfl⟩)
  go_loop [0, 14] (fun x i => ∃ k : Nat, k ≤ 29 ∧ i = .int .i64 k ∧ x = .int .i64 (powV b k a)) (fun _ i => 29 - (intOf i).toNat)
  case atStart => exact ⟨0, by omega, rfl, rfl⟩
  case round =>
    obtain ⟨k, hk, rfl, rfl⟩ := hrel
    have hp := powV_bd (b := b) k a h0 h1
    have hm := mul_bd hp.1 hp.2 (Int.le_of_lt h2) h3
    obtain ⟨p0, p1⟩ := hp
    obtain ⟨m0, m1⟩ := hm
    have hs := powV_step b k a
    have HS := Lib.hid hs
    clear hs
    by_cases hlt : k < 29
    · go_wp2
      go_round
      case rel => exact ⟨k + 1, by omega, by go_num, by rw [HS.out]⟩
      case measure => simp [intOf]; omega
    · obtain rfl : k = 29 := by omega
      go_wp2
      go_ret2
      exact ⟨rfl, rfl⟩

set_option maxRecDepth 100000 in
set_option maxHeartbeats 400000 in
theorem Div_no (a b : Int) (w : World) (h : a < 0 ∨ 31 ≤ a ∨ b ≤ 0 ∨ 31 ≤ b) :
    Calls Try.prog 87 #[.int .i64 a, .int .i64 b] w fun e w' => e = .returned (.tuple #[.int .i64 0, .int .i64 2]) ∧ w = w' := by
  by_cases hb : b = 0
  · subst hb
    by_cases ha : 0 ≤ a ∧ a < 31
    · go_enter Try.func87, Try.ntmps87
      go_wp2_with (go_at_call 118; refine (both_yes _ _ _ (by omega) (by omega) (by omega) (by omega)).mono ?_; rintro e w' ⟨rfl, rfl⟩)
      go_ret2
      exact ⟨rfl, rfl⟩
    · go_enter Try.func87, Try.ntmps87
      go_wp2_with (go_at_call 118; refine (both_no _ _ _ (by omega)).mono ?_; rintro e w' ⟨rfl, rfl⟩)
      go_ret2
      exact ⟨rfl, rfl⟩
  · go_enter Try.func87, Try.ntmps87
    go_wp2_with (go_at_call 118; refine (both_no _ _ _ (by omega)).mono ?_; rintro e w' ⟨rfl, rfl⟩)
    go_ret2
    exact ⟨rfl, rfl⟩

theorem Div_any (a b : Int) (w : World) (h0 : 0 ≤ a) (h1 : a < 31) (h2 : 0 ≤ b) (h3 : b < 31) :
    Calls Try.prog 87 #[.int .i64 a, .int .i64 b] w fun e w' => e = .returned (.tuple #[.int .i64 (divT a b), .int .i64 (divE b)]) ∧ w = w' := by
  unfold divT divE
  by_cases h : b = 0
  · rw [if_pos h, if_pos h]
    exact Div_no a b w (by omega)
  · rw [if_neg h, if_neg h]
    exact Div_yes a b w h0 h1 (by omega) h3

set_option maxRecDepth 100000 in
set_option maxHeartbeats 400000 in
theorem Quotient_any (a b : Int) (w : World) (h2 : 0 ≤ b) (h3 : b < 31) :
    Calls Try.prog 135 #[.int .i64 a, .int .i64 b] w fun e w' => e = .returned (.int .i64 (quoV a b)) ∧ w = w' := by
  go_enter Try.func135, Try.ntmps135
  go_wp2
  go_loop [6] (fun i => ∃ k : Nat, k ≤ 31 ∧ i = .int .i64 k ∧ quoFrom a b k (31 - k) = quoV a b) (fun i => 31 - (intOf i).toNat)
  case atStart => exact ⟨0, by omega, rfl, rfl⟩
  case round =>
    obtain ⟨k, hk, rfl, hq⟩ := hrel
    have HQ := Lib.hid hq
    clear hq
    by_cases hlt : k < 31
    · have hm := mul_bd (a := (k : Int)) (b := b) (by omega) (by omega) h2 h3
      obtain ⟨m0, m1⟩ := hm
      have hn : 31 - k = (31 - (k + 1)) + 1 := by omega
      have HN := Lib.hid hn
      clear hn
      by_cases he : ((k : Int) * b % 31 == a) = true
      · go_wp2
        go_ret
        refine ⟨ret_int ?_, rfl⟩
        rw [← HQ.out, HN.out]
        simp only [quoFrom]
        rw [if_pos he]
      · have he' : ((k : Int) * b % 31 == a) = false := by simpa using he
        go_wp2
        go_round
        case rel =>
          refine ⟨k + 1, by omega, by go_num, ?_⟩
          rw [← HQ.out, HN.out]
          simp only [quoFrom]
          rw [if_neg he]
        case measure => simp [intOf]; omega
    · obtain rfl : k = 31 := by omega
      go_wp2
      go_ret
      exact ⟨ret_int HQ.out, rfl⟩

set_option maxRecDepth 100000 in
set_option maxHeartbeats 400000 in
theorem less_any (a b : Int) (w : World) (h0 : 0 ≤ a) (h1 : a < 31) (h2 : 0 ≤ b) (h3 : b < 31) :
    Calls Try.prog 136 #[.int .i64 a, .int .i64 b] w fun e w' => e = .returned (.int .i64 (lessV a b)) ∧ w = w' := by
  go_enter Try.func136, Try.ntmps136
  go_wp2
  go_ret
  exact ⟨rfl, rfl⟩

end Go.Proofs.Ytnpdojjffbhalaa
