/-
  The walk of CurveSays.
-/
import Derived.Test.YtbodfbpikpkkbaaCurve2
namespace Go.Proofs.Ytbodfbpikpkkbaa
open Go.RowKit

set_option maxHeartbeats 1000000 in
theorem CurveSays_walk (v0 : Value) (x : List Int) (v1 : Value) (y : List Int) (v2 : Value) (p : Int) (W : World) (hx : IsInts W v0 x) (hy : IsInts W v1 y) (hp : IsInt v2 p) :
    Calls Try.prog 9 #[v0, v1, v2] W fun e w' => e = .returned (.bool true) ∧ Below W.heap.size W w' := by
  obtain ⟨rfl, ip0, ip1⟩ := hp
  by_cases hk : ptsV x y = 0
  · have HK := Lib.hid hk
    clear hk
    by_cases hn : 0 ≤ p ∧ p < 31
    · have HN := Lib.hid (isNum_true hn.1 hn.2)
      have HV := Lib.hid (valV_eq (ptsV_ok.1 HK.out) p)
      obtain ⟨n0, n1⟩ := hn
      go_enter Try.func9, Try.ntmps9
      go_wp2_with fail
      refine (At_ok _ _ x y p _ hx hy HK.out n0 n1).mono ?_
      rintro e w1 ⟨rfl, hb1⟩
      go_wp2_with fail
      refine (CheckPoints_any _ _ x y _ (hx.stays hb1) (hy.stays hb1)).mono ?_
      rintro e w2 ⟨rfl, hb2⟩
      rw [HK.out]
      have hc2 := hb1.trans (hb2.mono hb1.size)
      clear hb1 hb2
      go_wp2_with fail
      refine (curved_any _).mono ?_
      rintro e w3 ⟨rfl, hb3⟩
      have hc3 := hc2.trans (hb3.mono hc2.size)
      clear hc2 hb3
      go_wp2_with fail
      refine (ptsCheck_any _ _ x y _ (hx.stays hc3) (hy.stays hc3)).mono ?_
      rintro e w4 ⟨rfl, hb4⟩
      rw [HK.out]
      have hc4 := hc3.trans (hb4.mono hc3.size)
      clear hc3 hb4
      go_wp2_with fail
      refine (IsNumber_any _ _).mono ?_
      rintro e w' ⟨rfl, rfl⟩
      rw [HN.out]
      go_wp2_with fail
      refine (ValueAt_any _ _ x y p _ (hx.stays hc4) (hy.stays hc4) (ptsV_ok.1 HK.out) n0 n1).mono ?_
      rintro e w5 ⟨rfl, hb5⟩
      rw [HV.out]
      have hc5 := hc4.trans (hb5.mono hc4.size)
      have he : (atV x y p == atV x y p) = true := by simp
      clear hc4 hb5
      go_wp2_with fail
      go_ret
      exact ⟨rfl, hc5⟩
    · have HN := Lib.hid (isNum_false (a := p) (by omega))
      go_enter Try.func9, Try.ntmps9
      go_wp2_with fail
      refine (At_far _ _ x y p _ hx hy HK.out (by omega)).mono ?_
      rintro e w1 ⟨rfl, hb1⟩
      go_wp2_with fail
      refine (CheckPoints_any _ _ x y _ (hx.stays hb1) (hy.stays hb1)).mono ?_
      rintro e w2 ⟨rfl, hb2⟩
      rw [HK.out]
      have hc2 := hb1.trans (hb2.mono hb1.size)
      clear hb1 hb2
      go_wp2_with fail
      refine (curved_any _).mono ?_
      rintro e w3 ⟨rfl, hb3⟩
      have hc3 := hc2.trans (hb3.mono hc2.size)
      clear hc2 hb3
      go_wp2_with fail
      refine (ptsCheck_any _ _ x y _ (hx.stays hc3) (hy.stays hc3)).mono ?_
      rintro e w4 ⟨rfl, hb4⟩
      rw [HK.out]
      have hc4 := hc3.trans (hb4.mono hc3.size)
      clear hc3 hb4
      go_wp2_with fail
      refine (IsNumber_any _ _).mono ?_
      rintro e w' ⟨rfl, rfl⟩
      rw [HN.out]
      go_wp2_with fail
      go_ret
      exact ⟨rfl, hc4⟩
  · have hne : (ptsV x y == 0) = false := by simpa using hk
    have hne2 : (ptsV x y != 0) = true := by simpa using hk
    have heq : (ptsV x y == ptsV x y) = true := by simp
    have heq2 : (ptsV x y != ptsV x y) = false := by simp
    have HK := Lib.hid hk
    clear hk
    go_enter Try.func9, Try.ntmps9
    go_wp2_with fail
    refine (At_no _ _ x y p _ hx hy HK.out).mono ?_
    rintro e w1 ⟨rfl, hb1⟩
    go_wp2_with fail
    refine (CheckPoints_any _ _ x y _ (hx.stays hb1) (hy.stays hb1)).mono ?_
    rintro e w2 ⟨rfl, hb2⟩
    have hc2 := hb1.trans (hb2.mono hb1.size)
    clear hb1 hb2
    go_wp2_with fail
    refine (curved_any _).mono ?_
    rintro e w3 ⟨rfl, hb3⟩
    have hc3 := hc2.trans (hb3.mono hc2.size)
    clear hc2 hb3
    go_wp2_with fail
    refine (ptsCheck_any _ _ x y _ (hx.stays hc3) (hy.stays hc3)).mono ?_
    rintro e w4 ⟨rfl, hb4⟩
    have hc4 := hc3.trans (hb4.mono hc3.size)
    clear hc3 hb4
    go_wp2_with fail
    go_ret
    exact ⟨rfl, hc4⟩

end Go.Proofs.Ytbodfbpikpkkbaa
