/-
  The walks of At where the points or the place are wrong.
-/
import Derived.Test.YtnpdojjffbhalaaCurve
import Derived.Test.YtnpdojjffbhalaaCurveMath
import Derived.Test.YtnpdojjffbhalaaBase
namespace Go.Proofs.Ytnpdojjffbhalaa
open Go.RowKit

set_option maxRecDepth 100000 in
set_option maxHeartbeats 400000 in
theorem At_no (vx vy : Value) (x y : List Int) (p : Int) (w : World) (hx : IsInts w vx x) (hy : IsInts w vy y) (h : ptsV x y ≠ 0) :
    Calls Try.prog 45 #[vx, vy, .int .i64 p] w fun e w' => e = .returned (.tuple #[.int .i64 0, .int .i64 (ptsV x y)]) ∧ Below w.heap.size w w' := by
  have hne : (ptsV x y != 0) = true := by simpa using h
  clear h
  go_enter Try.func45, Try.ntmps45
  go_wp2_with fail
  refine (ptsCheck_any _ _ x y _ hx hy).mono ?_
  rintro e w1 ⟨rfl, hb1⟩
  go_wp2_with fail
  go_ret2
  exact ⟨rfl, hb1⟩

set_option maxRecDepth 100000 in
set_option maxHeartbeats 400000 in
theorem At_far (vx vy : Value) (x y : List Int) (p : Int) (w : World) (hx : IsInts w vx x) (hy : IsInts w vy y) (h : ptsV x y = 0) (hp : p < 0 ∨ 31 ≤ p) :
    Calls Try.prog 45 #[vx, vy, .int .i64 p] w fun e w' => e = .returned (.tuple #[.int .i64 0, .int .i64 2]) ∧ Below w.heap.size w w' := by
  have HK := Lib.hid h
  clear h
  go_enter Try.func45, Try.ntmps45
  go_wp2_with fail
  refine (ptsCheck_any _ _ x y _ hx hy).mono ?_
  rintro e w1 ⟨rfl, hb1⟩
  rw [HK.out]
  go_wp2_with fail
  refine (Check_no _ _ (by omega)).mono ?_
  rintro e w' ⟨rfl, rfl⟩
  go_wp2_with fail
  go_ret2
  exact ⟨rfl, hb1⟩


end Go.Proofs.Ytnpdojjffbhalaa
