/-
  The walk of FieldParts.
-/
import Derived.Test.YtbodfbpikpkkbaaField
namespace Go.Proofs.Ytbodfbpikpkkbaa
open Go.RowKit

set_option maxHeartbeats 1000000 in
theorem FieldParts_walk (v0 : Value) (x0 : Int) (v1 : Value) (x1 : Int) (v2 : Value) (x2 : Int) (W : World) (w0 : IsInt v0 x0) (w1 : IsInt v1 x1) (w2 : IsInt v2 x2) :
    Calls Try.prog 6 #[v0, v1, v2] W fun e w' => e = .returned (.bool true) ∧ Below W.heap.size W w' := by
  obtain ⟨rfl, i0, j0⟩ := w0
  obtain ⟨rfl, i1, j1⟩ := w1
  obtain ⟨rfl, i2, j2⟩ := w2
  have ha := modV_bd x0 (n := 31) (by omega)
  have hb := modV_bd x1 (n := 30) (by omega)
  have hc := modV_bd x2 (n := 30) (by omega)
  obtain ⟨a0, a1⟩ := ha
  obtain ⟨b0, b1⟩ := hb
  obtain ⟨c0, c1⟩ := hc
  have e1 := div_div a0 a1 (show 0 < 1 + modV x1 30 by omega) (by omega) (show 0 < 1 + modV x2 30 by omega) (by omega)
  have e2 := div_quo a0 a1 (show 0 < 1 + modV x1 30 by omega) (by omega) (show 0 < 1 + modV x2 30 by omega) (by omega)
  have p0 := mulV_pos (show 0 < 1 + modV x1 30 by omega) (by omega) (show 0 < 1 + modV x2 30 by omega) (by omega)
  have p1 := (mulV_bd (1 + modV x1 30) (1 + modV x2 30)).2
  have q0 := divV_pos (show 0 < 1 + modV x1 30 by omega) (by omega) (show 0 < 1 + modV x2 30 by omega) (by omega)
  have q1 := (divV_bd (a := 1 + modV x1 30) (b := 1 + modV x2 30) (by omega) (by omega)).2
  have r0 := divV_bd (a := modV x0 31) (b := 1 + modV x1 30) a0 a1
  obtain ⟨r0, r1⟩ := r0
  have s0 := mulV_bd (modV x0 31) (1 + modV x2 30)
  obtain ⟨s0, s1⟩ := s0
  have t1 : (divV (divV (modV x0 31) (1 + modV x1 30)) (1 + modV x2 30) != divV (modV x0 31) (mulV (1 + modV x1 30) (1 + modV x2 30))) = false := by simpa using e1
  have t2 : (divV (modV x0 31) (divV (1 + modV x1 30) (1 + modV x2 30)) == divV (mulV (modV x0 31) (1 + modV x2 30)) (1 + modV x1 30)) = true := by simpa using e2
  clear e1 e2
  go_enter Try.func6, Try.ntmps6
  go_wp2_with (first | (go_at_call 23; refine (at_any _ _ _ (by omega) (by omega) (by omega) (by omega)).mono ?_; rintro e w' ⟨rfl, rfl⟩) | (go_at_call 17; refine (Mul_yes _ _ _ (by omega) (by omega) (by omega) (by omega)).mono ?_; rintro e w' ⟨rfl, rfl⟩) | (go_at_call 18; refine (Div_yes _ _ _ (by omega) (by omega) (by omega) (by omega)).mono ?_; rintro e w' ⟨rfl, rfl⟩) | (go_at_call 20; refine (reckoned_any _).mono ?_; rintro e w' ⟨rfl, rfl⟩))
  go_ret
  exact ⟨rfl, Below.refl _ _⟩

end Go.Proofs.Ytbodfbpikpkkbaa
