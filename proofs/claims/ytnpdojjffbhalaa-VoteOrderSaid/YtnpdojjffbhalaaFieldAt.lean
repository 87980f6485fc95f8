/-
  The walk of the law's 'at'.
-/
import Derived.Test.YtnpdojjffbhalaaBase
namespace Go.Proofs.Ytnpdojjffbhalaa
open Go.RowKit

set_option maxHeartbeats 400000 in
theorem at_any (k n : Int) (w : World) (h0 : -9223372036854775808 ≤ k) (h1 : k ≤ 9223372036854775807) (h2 : 1 ≤ n) (h3 : n ≤ 1000000) :
    Calls Try.prog 16 #[.int .i64 k, .int .i64 n] w fun e w' => e = .returned (.int .i64 (modV k n)) ∧ w = w' := by
  have hn : (n == 0) = false := by simp; omega
  by_cases hk : 0 ≤ k
  · have hb : 0 ≤ k % n := Int.emod_nonneg _ (by omega)
    go_enter Try.func16, Try.ntmps16
    go_wp2
    go_ret
    exact ⟨ret_int rfl, rfl⟩
  · have ht := tmod_lo k n (by omega) h2
    obtain ⟨t0, t1, t2, t3⟩ := ht
    have T2 := Lib.hid t2
    have T3 := Lib.hid t3
    clear t2 t3
    by_cases hlt : k.tmod n < 0
    · go_enter Try.func16, Try.ntmps16
      go_wp2
      go_ret
      exact ⟨ret_int (T2.out hlt), rfl⟩
    · go_enter Try.func16, Try.ntmps16
      go_wp2
      go_ret
      exact ⟨ret_int (T3.out (by omega)), rfl⟩

end Go.Proofs.Ytnpdojjffbhalaa
