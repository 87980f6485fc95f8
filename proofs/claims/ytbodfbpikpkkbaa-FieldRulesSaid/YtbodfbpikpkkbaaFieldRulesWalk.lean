/-
  The walk of FieldRules.
-/
import Derived.Test.YtbodfbpikpkkbaaField
namespace Go.Proofs.Ytbodfbpikpkkbaa
open Go.RowKit

set_option maxHeartbeats 400000 in
theorem rules_Add (x y : Int) (b : Nat) (w : World) (h0 : 0 ≤ x) (h1 : x < 31) (h2 : 0 ≤ y) (h3 : y < 31) (hc : w.cell? ⟨b, 0, none⟩ = some (.bool false)) (hf : w.frozen? ⟨b, 0, none⟩ = false) :
    Calls Try.prog 24 #[.int .i64 x, .int .i64 y, .pointer (some ⟨b, 0, none⟩)] w fun e w' => e = .returned (.int .i64 (addV x y)) ∧ w = w' := by
  have hs := Lib.hid (setCell_same hc)
  go_enter Try.func24, Try.ntmps24
  go_wp2_with (first | (go_at_call 16; refine (Add_yes _ _ _ (by omega) (by omega) (by omega) (by omega)).mono ?_; rintro e w' ⟨rfl, rfl⟩))
  go_ret
  exact ⟨rfl, hs.out.symm⟩

set_option maxHeartbeats 400000 in
theorem rules_Mul (x y : Int) (b : Nat) (w : World) (h0 : 0 ≤ x) (h1 : x < 31) (h2 : 0 ≤ y) (h3 : y < 31) (hc : w.cell? ⟨b, 0, none⟩ = some (.bool false)) (hf : w.frozen? ⟨b, 0, none⟩ = false) :
    Calls Try.prog 25 #[.int .i64 x, .int .i64 y, .pointer (some ⟨b, 0, none⟩)] w fun e w' => e = .returned (.int .i64 (mulV x y)) ∧ w = w' := by
  have hs := Lib.hid (setCell_same hc)
  go_enter Try.func25, Try.ntmps25
  go_wp2_with (first | (go_at_call 17; refine (Mul_yes _ _ _ (by omega) (by omega) (by omega) (by omega)).mono ?_; rintro e w' ⟨rfl, rfl⟩))
  go_ret
  exact ⟨rfl, hs.out.symm⟩

set_option maxRecDepth 100000 in
set_option maxHeartbeats 4000000 in
theorem FieldRules_walk (v0 : Value) (x0 : Int) (v1 : Value) (x1 : Int) (v2 : Value) (x2 : Int) (W : World) (w0 : IsInt v0 x0) (w1 : IsInt v1 x1) (w2 : IsInt v2 x2) :
    Calls Try.prog 5 #[v0, v1, v2] W fun e w' => e = .returned (.bool true) ∧ Below W.heap.size W w' := by
  obtain ⟨rfl, i0, j0⟩ := w0
  obtain ⟨rfl, i1, j1⟩ := w1
  obtain ⟨rfl, i2, j2⟩ := w2
  have hmf : ∀ (fn : Fn) (first cap : Array Value) (w : World), (Instr.makeFunc fn first cap).run Try.prog w = .ok (.func fn first cap) w := fun _ _ _ _ => rfl
  have ha := modV_bd x0 (n := 31) (by omega)
  have hb := modV_bd x1 (n := 31) (by omega)
  have hc := modV_bd x2 (n := 31) (by omega)
  obtain ⟨a, ea⟩ : ∃ a, a = modV x0 31 := ⟨_, rfl⟩
  obtain ⟨b, eb⟩ : ∃ b, b = modV x1 31 := ⟨_, rfl⟩
  obtain ⟨c, ec⟩ : ∃ c, c = modV x2 31 := ⟨_, rfl⟩
  rw [← ea] at ha
  rw [← eb] at hb
  rw [← ec] at hc
  obtain ⟨a0, a1⟩ := ha
  obtain ⟨b0, b1⟩ := hb
  obtain ⟨c0, c1⟩ := hc
  have EA := Lib.hid ea.symm
  have EB := Lib.hid eb.symm
  have EC := Lib.hid ec.symm
  clear ea eb ec
  go_enter Try.func5, Try.ntmps5
  go_wp2_with fail
  refine (at_any _ _ _ (by omega) (by omega) (by omega) (by omega)).mono ?_
  rintro e w' ⟨rfl, rfl⟩
  go_wp2_with fail
  refine (at_any _ _ _ (by omega) (by omega) (by omega) (by omega)).mono ?_
  rintro e w' ⟨rfl, rfl⟩
  go_wp2_with fail
  refine (at_any _ _ _ (by omega) (by omega) (by omega) (by omega)).mono ?_
  rintro e w' ⟨rfl, rfl⟩
  rw [EA.out, EB.out, EC.out]
  have g1 := addV_bd a b
  have g2 := addV_bd b c
  have g3 := mulV_bd a b
  have g4 := mulV_bd b c
  have g5 := mulV_bd a c
  obtain ⟨g1, k1⟩ := g1
  obtain ⟨g2, k2⟩ := g2
  obtain ⟨g3, k3⟩ := g3
  obtain ⟨g4, k4⟩ := g4
  obtain ⟨g5, k5⟩ := g5
  have f1 : (addV a b != addV b a) = false := by simpa using addV_comm a b
  have f2 : (mulV a b != mulV b a) = false := by simpa using mulV_comm a b
  have f3 : (addV (addV a b) c != addV a (addV b c)) = false := by simpa using addV_assoc a b c
  have f4 : (mulV (mulV a b) c != mulV a (mulV b c)) = false := by simpa using mulV_assoc a b c
  have f5 : (mulV a (addV b c) != addV (mulV a b) (mulV a c)) = false := by simpa using mulV_add a b c
  have f6 : (addV a 0 != a) = false := by simpa using addV_zero a0 a1
  have f7 : (mulV a 1 != a) = false := by simpa using mulV_one a0 a1
  have hz := mulV_zero a0 a1 b0 b1
  obtain ⟨w1, hw1⟩ : ∃ w1, w1 = W.alloc (.cells #[.bool false] 4) := ⟨_, rfl⟩
  have hc : w1.cell? ⟨W.heap.size, 0, none⟩ = some (.bool false) := by rw [hw1]; go_simp
  have hf : w1.frozen? ⟨W.heap.size, 0, none⟩ = false := by rw [hw1]; go_simp
  have hbl : Below W.heap.size W w1 := by rw [hw1]; exact (Below.refl _ _).alloc (Nat.le_refl _) _
  go_wp2_with fail
  rw [← hw1]
  clear hw1
  obtain ⟨za, hza⟩ : ∃ za, (a == 0) = za := ⟨_, rfl⟩
  obtain ⟨zb, hzb⟩ : ∃ zb, (b == 0) = zb := ⟨_, rfl⟩
  have hzm : (mulV a b == 0) = (za || zb) := by rw [← hza, ← hzb, Bool.eq_iff_iff]; simpa using hz
  have HB : Hid (zb = false → 0 < b) := Lib.hid (by intro h; rw [h] at hzb; simp at hzb; omega)
  have hd := divV_bd (b := b) a0 a1
  obtain ⟨d0, d1⟩ := hd
  have F8 : Hid (zb = false → mulV (divV a b) b = a) := Lib.hid (by intro h; exact mulV_divV a0 a1 (HB.out h) b1)
  clear hz EA EB EC
  go_at_call 24; refine (rules_Add _ _ _ _ (by omega) (by omega) (by omega) (by omega) hc hf).mono ?_; rintro e w' ⟨rfl, rfl⟩
  go_wp2_with (first | (go_at_call 24; refine (rules_Add _ _ _ _ (by omega) (by omega) (by omega) (by omega) hc hf).mono ?_; rintro e w' ⟨rfl, rfl⟩) | (go_at_call 25; refine (rules_Mul _ _ _ _ (by omega) (by omega) (by omega) (by omega) hc hf).mono ?_; rintro e w' ⟨rfl, rfl⟩) | (go_at_call 20; refine (reckoned_any _).mono ?_; rintro e w' ⟨rfl, rfl⟩) | (go_at_call 18; refine (Div_yes _ _ _ (by omega) (by omega) (HB.out (by first | rfl | assumption)) (by omega)).mono ?_; rintro e w' ⟨rfl, rfl⟩))
  all_goals first | (go_ret; exact ⟨rfl, hbl⟩) | exact absurd (F8.out (by first | rfl | assumption)) (by assumption) | go_ways
  
end Go.Proofs.Ytbodfbpikpkkbaa
