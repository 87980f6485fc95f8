/-
  The walks of package field and of the reference's first functions: each contract says what the call answers, and that the world is as it was.
-/
import Derived.Test.YtbodfbpikpkkbaaRows
import Derived.Test.YtbodfbpikpkkbaaLib
import Derived.Test.YtbodfbpikpkkbaaMath
namespace Go.Proofs.Ytbodfbpikpkkbaa
open Go.RowKit

set_option maxHeartbeats 400000 in
theorem Check_yes (a : Int) (w : World) (h0 : 0 ≤ a) (h1 : a < 31) :
    Calls Try.prog 21 #[.int .i64 a] w fun e w' => e = .returned (.int .i64 0) ∧ w = w' := by
  go_enter Try.func21, Try.ntmps21
  go_wp2
  go_ret
  exact ⟨rfl, rfl⟩

set_option maxHeartbeats 400000 in
theorem Check_no (a : Int) (w : World) (h : a < 0 ∨ 31 ≤ a) :
    Calls Try.prog 21 #[.int .i64 a] w fun e w' => e = .returned (.int .i64 2) ∧ w = w' := by
  rcases h with h | h
  · go_enter Try.func21, Try.ntmps21
    go_wp2
    go_ret
    exact ⟨rfl, rfl⟩
  · go_enter Try.func21, Try.ntmps21
    go_wp2
    all_goals go_ret
    all_goals exact ⟨rfl, rfl⟩

set_option maxHeartbeats 400000 in
theorem both_yes (a b : Int) (w : World) (h0 : 0 ≤ a) (h1 : a < 31) (h2 : 0 ≤ b) (h3 : b < 31) :
    Calls Try.prog 51 #[.int .i64 a, .int .i64 b] w fun e w' => e = .returned (.bool true) ∧ w = w' := by
  go_enter Try.func51, Try.ntmps51
  go_wp2_with (go_at_call 21; refine (Check_yes _ _ (by omega) (by omega)).mono ?_; rintro e w' ⟨rfl, rfl⟩)
  go_ret
  exact ⟨rfl, rfl⟩

set_option maxHeartbeats 400000 in
theorem both_no (a b : Int) (w : World) (h : a < 0 ∨ 31 ≤ a ∨ b < 0 ∨ 31 ≤ b) :
    Calls Try.prog 51 #[.int .i64 a, .int .i64 b] w fun e w' => e = .returned (.bool false) ∧ w = w' := by
  by_cases ha : 0 ≤ a ∧ a < 31
  · go_enter Try.func51, Try.ntmps51
    go_wp2_with fail
    refine (Check_yes _ _ (by omega) (by omega)).mono ?_
    rintro e w' ⟨rfl, rfl⟩
    go_wp2_with fail
    refine (Check_no _ _ (by omega)).mono ?_
    rintro e w' ⟨rfl, rfl⟩
    go_wp2_with fail
    go_ret
    exact ⟨rfl, rfl⟩
  · go_enter Try.func51, Try.ntmps51
    go_wp2_with fail
    refine (Check_no _ _ (by omega)).mono ?_
    rintro e w' ⟨rfl, rfl⟩
    go_wp2_with fail
    go_ret
    exact ⟨rfl, rfl⟩

set_option maxHeartbeats 400000 in
theorem Add_yes (a b : Int) (w : World) (h0 : 0 ≤ a) (h1 : a < 31) (h2 : 0 ≤ b) (h3 : b < 31) :
    Calls Try.prog 16 #[.int .i64 a, .int .i64 b] w fun e w' => e = .returned (.tuple #[.int .i64 (addV a b), .int .i64 0]) ∧ w = w' := by
  go_enter Try.func16, Try.ntmps16
  go_wp2_with (go_at_call 51; refine (both_yes _ _ _ (by omega) (by omega) (by omega) (by omega)).mono ?_; rintro e w' ⟨rfl, rfl⟩)
  go_ret2
  exact ⟨rfl, rfl⟩

set_option maxHeartbeats 400000 in
theorem Add_no (a b : Int) (w : World) (h : a < 0 ∨ 31 ≤ a ∨ b < 0 ∨ 31 ≤ b) :
    Calls Try.prog 16 #[.int .i64 a, .int .i64 b] w fun e w' => e = .returned (.tuple #[.int .i64 0, .int .i64 2]) ∧ w = w' := by
  go_enter Try.func16, Try.ntmps16
  go_wp2_with (go_at_call 51; refine (both_no _ _ _ (by omega)).mono ?_; rintro e w' ⟨rfl, rfl⟩)
  go_ret2
  exact ⟨rfl, rfl⟩

set_option maxHeartbeats 400000 in
theorem Mul_yes (a b : Int) (w : World) (h0 : 0 ≤ a) (h1 : a < 31) (h2 : 0 ≤ b) (h3 : b < 31) :
    Calls Try.prog 17 #[.int .i64 a, .int .i64 b] w fun e w' => e = .returned (.tuple #[.int .i64 (mulV a b), .int .i64 0]) ∧ w = w' := by
  have hm := mul_bd h0 h1 h2 h3
  obtain ⟨m0, m1⟩ := hm
  go_enter Try.func17, Try.ntmps17
  go_wp2_with (go_at_call 51; refine (both_yes _ _ _ (by omega) (by omega) (by omega) (by omega)).mono ?_; rintro e w' ⟨rfl, rfl⟩)
  go_ret2
  exact ⟨rfl, rfl⟩

set_option maxHeartbeats 400000 in
theorem Mul_no (a b : Int) (w : World) (h : a < 0 ∨ 31 ≤ a ∨ b < 0 ∨ 31 ≤ b) :
    Calls Try.prog 17 #[.int .i64 a, .int .i64 b] w fun e w' => e = .returned (.tuple #[.int .i64 0, .int .i64 2]) ∧ w = w' := by
  go_enter Try.func17, Try.ntmps17
  go_wp2_with (go_at_call 51; refine (both_no _ _ _ (by omega)).mono ?_; rintro e w' ⟨rfl, rfl⟩)
  go_ret2
  exact ⟨rfl, rfl⟩

set_option maxHeartbeats 400000 in
theorem Div_yes (a b : Int) (w : World) (h0 : 0 ≤ a) (h1 : a < 31) (h2 : 0 < b) (h3 : b < 31) :
    Calls Try.prog 18 #[.int .i64 a, .int .i64 b] w fun e w' => e = .returned (.tuple #[.int .i64 (divV a b), .int .i64 0]) ∧ w = w' := by
  have hb : (b == 0) = false := by simp; omega
  go_enter Try.func18, Try.ntmps18
  go_wp2_with (go_at_call 51; refine (both_yes _ _ _ (by omega) (by omega) (by omega) (by omega)).mono ?_; rintro e w' ⟨rfl, rfl⟩)
  go_loop [0, 14] (fun x i => ∃ k : Nat, k ≤ 29 ∧ i = .int .i64 k ∧ x = .int .i64 (powV b k a)) (fun _ i => 29 - (intOf i).toNat)
  case atStart => exact ⟨0, by omega, rfl, rfl⟩
  case round =>
    obtain ⟨k, hk, rfl, rfl⟩ := hrel
    have hp := powV_bd (b := b) k a h0 h1
    have hm := mul_bd hp.1 hp.2 (Int.le_of_lt h2) h3
    obtain ⟨p0, p1⟩ := hp
    obtain ⟨m0, m1⟩ := hm
    have hs := powV_step b k a
    have HS := Lib.hid hs
    clear hs
    by_cases hlt : k < 29
    · go_wp2
      go_round
      case rel => exact ⟨k + 1, by omega, by go_num, by rw [HS.out]⟩
      case measure => simp [intOf]; omega
    · obtain rfl : k = 29 := by omega
      go_wp2
      go_ret2
      exact ⟨rfl, rfl⟩

set_option maxHeartbeats 400000 in
theorem Div_no (a b : Int) (w : World) (h : a < 0 ∨ 31 ≤ a ∨ b ≤ 0 ∨ 31 ≤ b) :
    Calls Try.prog 18 #[.int .i64 a, .int .i64 b] w fun e w' => e = .returned (.tuple #[.int .i64 0, .int .i64 2]) ∧ w = w' := by
  by_cases hb : b = 0
  · subst hb
    by_cases ha : 0 ≤ a ∧ a < 31
    · go_enter Try.func18, Try.ntmps18
      go_wp2_with (go_at_call 51; refine (both_yes _ _ _ (by omega) (by omega) (by omega) (by omega)).mono ?_; rintro e w' ⟨rfl, rfl⟩)
      go_ret2
      exact ⟨rfl, rfl⟩
    · go_enter Try.func18, Try.ntmps18
      go_wp2_with (go_at_call 51; refine (both_no _ _ _ (by omega)).mono ?_; rintro e w' ⟨rfl, rfl⟩)
      go_ret2
      exact ⟨rfl, rfl⟩
  · go_enter Try.func18, Try.ntmps18
    go_wp2_with (go_at_call 51; refine (both_no _ _ _ (by omega)).mono ?_; rintro e w' ⟨rfl, rfl⟩)
    go_ret2
    exact ⟨rfl, rfl⟩

theorem Div_any (a b : Int) (w : World) (h0 : 0 ≤ a) (h1 : a < 31) (h2 : 0 ≤ b) (h3 : b < 31) :
    Calls Try.prog 18 #[.int .i64 a, .int .i64 b] w fun e w' => e = .returned (.tuple #[.int .i64 (divT a b), .int .i64 (divE b)]) ∧ w = w' := by
  unfold divT divE
  by_cases h : b = 0
  · rw [if_pos h, if_pos h]
    exact Div_no a b w (by omega)
  · rw [if_neg h, if_neg h]
    exact Div_yes a b w h0 h1 (by omega) h3

set_option maxHeartbeats 400000 in
theorem at_any (k n : Int) (w : World) (h0 : -9223372036854775808 ≤ k) (h1 : k ≤ 9223372036854775807) (h2 : 1 ≤ n) (h3 : n ≤ 1000000) :
    Calls Try.prog 23 #[.int .i64 k, .int .i64 n] w fun e w' => e = .returned (.int .i64 (modV k n)) ∧ w = w' := by
  have hn : (n == 0) = false := by simp; omega
  by_cases hk : 0 ≤ k
  · have hb : 0 ≤ k % n := Int.emod_nonneg _ (by omega)
    go_enter Try.func23, Try.ntmps23
    go_wp2
    go_ret
    exact ⟨ret_int rfl, rfl⟩
  · have ht := tmod_lo k n (by omega) h2
    obtain ⟨t0, t1, t2, t3⟩ := ht
    have T2 := Lib.hid t2
    have T3 := Lib.hid t3
    clear t2 t3
    by_cases hlt : k.tmod n < 0
    · go_enter Try.func23, Try.ntmps23
      go_wp2
      go_ret
      exact ⟨ret_int (T2.out hlt), rfl⟩
    · go_enter Try.func23, Try.ntmps23
      go_wp2
      go_ret
      exact ⟨ret_int (T3.out (by omega)), rfl⟩

set_option maxHeartbeats 400000 in
theorem in_any (n a b : Int) (w : World) :
    Calls Try.prog 52 #[.int .i64 n, .int .i64 a, .int .i64 b] w fun e w' => e = .returned (.bool (inB n a b)) ∧ w = w' := by
  by_cases h1 : a ≤ n
  · by_cases h2 : n ≤ b
    · have H : inB n a b = true := by simp [inB, h1, h2]
      have H := Lib.hid H
      go_enter Try.func52, Try.ntmps52
      go_wp2
      go_ret
      exact ⟨ret_bool H.out.symm, rfl⟩
    · have H : inB n a b = false := by simp [inB]; omega
      have K := Lib.hid H
      clear H
      have h3 : decide (n ≤ b) = false := by simp; omega
      go_enter Try.func52, Try.ntmps52
      go_wp2
      go_ret
      exact ⟨ret_bool K.out.symm, rfl⟩
  · have H : inB n a b = false := by simp [inB]; omega
    have K := Lib.hid H
    clear H
    have h3 : decide (a ≤ n) = false := by simp; omega
    go_enter Try.func52, Try.ntmps52
    go_wp2
    go_ret
    exact ⟨ret_bool K.out.symm, rfl⟩

set_option maxHeartbeats 400000 in
theorem IsNumber_any (a : Int) (w : World) :
    Calls Try.prog 19 #[.int .i64 a] w fun e w' => e = .returned (.bool (isNum a)) ∧ w = w' := by
  go_enter Try.func19, Try.ntmps19
  go_wp2_with fail
  refine (in_any _ _ _ _).mono ?_
  rintro e w' ⟨rfl, rfl⟩
  go_wp2_with fail
  go_ret
  exact ⟨rfl, rfl⟩

set_option maxHeartbeats 400000 in
theorem Quotient_any (a b : Int) (w : World) (h2 : 0 ≤ b) (h3 : b < 31) :
    Calls Try.prog 22 #[.int .i64 a, .int .i64 b] w fun e w' => e = .returned (.int .i64 (quoV a b)) ∧ w = w' := by
  go_enter Try.func22, Try.ntmps22
  go_wp2
  go_loop [6] (fun i => ∃ k : Nat, k ≤ 31 ∧ i = .int .i64 k ∧ quoFrom a b k (31 - k) = quoV a b) (fun i => 31 - (intOf i).toNat)
  case atStart => exact ⟨0, by omega, rfl, rfl⟩
  case round =>
    obtain ⟨k, hk, rfl, hq⟩ := hrel
    have HQ := Lib.hid hq
    clear hq
    by_cases hlt : k < 31
    · have hm := mul_bd (a := (k : Int)) (b := b) (by omega) (by omega) h2 h3
      obtain ⟨m0, m1⟩ := hm
      have hn : 31 - k = (31 - (k + 1)) + 1 := by omega
      have HN := Lib.hid hn
      clear hn
      by_cases he : ((k : Int) * b % 31 == a) = true
      · go_wp2
        go_ret
        refine ⟨ret_int ?_, rfl⟩
        rw [← HQ.out, HN.out]
        simp only [quoFrom]
        rw [if_pos he]
      · have he' : ((k : Int) * b % 31 == a) = false := by simpa using he
        go_wp2
        go_round
        case rel =>
          refine ⟨k + 1, by omega, by go_num, ?_⟩
          rw [← HQ.out, HN.out]
          simp only [quoFrom]
          rw [if_neg he]
        case measure => simp [intOf]; omega
    · obtain rfl : k = 31 := by omega
      go_wp2
      go_ret
      exact ⟨ret_int HQ.out, rfl⟩

set_option maxHeartbeats 400000 in
theorem less_any (a b : Int) (w : World) (h0 : 0 ≤ a) (h1 : a < 31) (h2 : 0 ≤ b) (h3 : b < 31) :
    Calls Try.prog 53 #[.int .i64 a, .int .i64 b] w fun e w' => e = .returned (.int .i64 (lessV a b)) ∧ w = w' := by
  go_enter Try.func53, Try.ntmps53
  go_wp2
  go_ret
  exact ⟨rfl, rfl⟩

set_option maxHeartbeats 400000 in
theorem reckoned_any (w : World) :
    Calls Try.prog 20 #[] w fun e w' => e = .returned (.bool true) ∧ w = w' := by
  have e1 : (addV 20 13 == 2) = true := by decide
  have e2 : (mulV 6 6 == 5) = true := by decide
  have e3 : (divV 1 2 == 16) = true := by decide
  go_enter Try.func20, Try.ntmps20
  go_wp2_with fail
  refine (Add_yes _ _ _ (by omega) (by omega) (by omega) (by omega)).mono ?_
  rintro e w' ⟨rfl, rfl⟩
  go_wp2_with fail
  refine (Mul_yes _ _ _ (by omega) (by omega) (by omega) (by omega)).mono ?_
  rintro e w' ⟨rfl, rfl⟩
  go_wp2_with fail
  refine (Div_yes _ _ _ (by omega) (by omega) (by omega) (by omega)).mono ?_
  rintro e w' ⟨rfl, rfl⟩
  go_wp2_with fail
  refine (Div_no _ _ _ (by omega)).mono ?_
  rintro e w' ⟨rfl, rfl⟩
  go_wp2_with fail
  refine (Check_no _ _ (by omega)).mono ?_
  rintro e w' ⟨rfl, rfl⟩
  go_wp2_with fail
  refine (Check_yes _ _ (by omega) (by omega)).mono ?_
  rintro e w' ⟨rfl, rfl⟩
  go_wp2_with fail
  go_ret
  exact ⟨rfl, rfl⟩

end Go.Proofs.Ytbodfbpikpkkbaa
