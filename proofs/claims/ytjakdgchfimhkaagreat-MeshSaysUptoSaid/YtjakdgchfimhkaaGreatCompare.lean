/-
  slices.Compare at ints.
-/
import Derived.Test.YtjakdgchfimhkaaGreatElectMath
import Derived.Test.YtjakdgchfimhkaaGreatMosts
import Derived.Test.YtjakdgchfimhkaaGreatVotes
import Derived.Test.YtjakdgchfimhkaaGreatCopies
import Derived.Deep.RegionHeld3
namespace Go.Proofs.YtjakdgchfimhkaaGreat
open Go.RowKit

def cmpI (x y : Int) : Int := if x < y then -1 else if y < x then 1 else 0
theorem isNaN_any (x : Int) (W : World) : Calls Tryz.prog 136 #[.int .i64 x] W fun e w' => e = .returned (.bool false) ∧ w' = W := by
  go_enter Tryz.func136, Tryz.ntmps136
  go_wp2_with fail
  go_ret
  exact ⟨by simp, rfl⟩
set_option maxHeartbeats 1000000 in
theorem CompareInt_any (x y : Int) (W : World) : Calls Tryz.prog 106 #[.int .i64 x, .int .i64 y] W fun e w' => e = .returned (.int .i64 (cmpI x y)) ∧ w' = W := by
  by_cases h : x < y
  · have hd : decide (x < y) = true := by simpa using h
    have HC := Lib.hid (show cmpI x y = -1 by simp [cmpI, h])
    clear h
    go_enter Tryz.func106, Tryz.ntmps106
    go_wp2_with (refine (isNaN_any _ _).mono ?_; rintro e w1 ⟨rfl, rfl⟩)
    go_ret
    exact ⟨ret_int HC.out.symm, rfl⟩
  · have hd : decide (x < y) = false := by simpa using h
    by_cases h2 : y < x
    · have hd2 : decide (y < x) = true := by simpa using h2
      have HC := Lib.hid (show cmpI x y = 1 by simp [cmpI, h, h2])
      clear h h2
      go_enter Tryz.func106, Tryz.ntmps106
      go_wp2_with (refine (isNaN_any _ _).mono ?_; rintro e w1 ⟨rfl, rfl⟩)
      go_ret
      exact ⟨ret_int HC.out.symm, rfl⟩
    · have hd2 : decide (y < x) = false := by simpa using h2
      have HC := Lib.hid (show cmpI x y = 0 by simp [cmpI, h, h2])
      clear h h2
      go_enter Tryz.func106, Tryz.ntmps106
      go_wp2_with (refine (isNaN_any _ _).mono ?_; rintro e w1 ⟨rfl, rfl⟩)
      go_ret
      exact ⟨ret_int HC.out.symm, rfl⟩
theorem cmpL_get {x y : List Int} {k : Nat} {a b : Int} (ha : x[k]? = some a) (hb : y[k]? = some b) : cmpL (x.drop k) (y.drop k) = if cmpI a b = 0 then cmpL (x.drop (k + 1)) (y.drop (k + 1)) else cmpI a b := by
  rw [drop_get ha, drop_get hb, cmpL]
  unfold cmpI
  by_cases h : a < b
  · simp [h]
  · by_cases h2 : b < a <;> simp [h, h2]
theorem cmpL_left {x y : List Int} {k : Nat} {a : Int} (ha : x[k]? = some a) (hb : y.length ≤ k) : cmpL (x.drop k) (y.drop k) = 1 := by
  rw [drop_get ha, List.drop_of_length_le hb]; rfl
theorem cmpL_end {x y : List Int} (h : x.length ≤ y.length) : cmpL (x.drop x.length) (y.drop x.length) = if x.length < y.length then -1 else 0 := by
  rw [List.drop_of_length_le (Nat.le_refl _)]
  by_cases hl : x.length < y.length
  · rw [if_pos hl]
    cases hy : y.drop x.length with
    | nil => have := congrArg List.length hy; simp at this; omega
    | cons b r => rfl
  · rw [if_neg hl, List.drop_of_length_le (by omega)]; rfl

set_option maxRecDepth 100000 in
set_option maxHeartbeats 2000000 in
theorem Compare_ints (vx vy : Value) (x y : List Int) (W : World) (hx : IsInts W vx x) (hy : IsInts W vy y) :
    Calls Tryz.prog 68 #[vx, vy] W fun e w' => e = .returned (.int .i64 (cmpL x y)) ∧ w' = W := by
  obtain ⟨ax, cx, rfl, hx1, ⟨hx2, hx3, _⟩, _⟩ := hx.opened
  obtain ⟨ay, cy, rfl, hy1, ⟨hy2, hy3, _⟩, _⟩ := hy.opened
  have HX := Lib.hid hx
  have HY := Lib.hid hy
  clear hx hy
  go_enter Tryz.func68, Tryz.ntmps68
  go_wp2_with fail
  go_loopw [11] (fun i wr => ∃ k : Nat, k ≤ x.length ∧ k ≤ y.length ∧ i = .int .i64 k ∧ wr = W ∧ cmpL (x.drop k) (y.drop k) = cmpL x y) (fun i _ => x.length - (intOf i).toNat)
  case atStart => exact ⟨0, by omega, by omega, rfl, rfl, rfl⟩
  case round =>
    obtain ⟨k, hk, hk2, rfl, rfl, hq⟩ := hrel
    have HQ := Lib.hid hq
    clear hq
    by_cases hlt : k < x.length
    · have ha : x[k]? = some x[k] := List.getElem?_eq_getElem hlt
      obtain ⟨b1, o1, e1, q1, i1⟩ := ints_at HX.out ha
      have HA := Lib.hid ha
      generalize x[k] = a at *
      obtain rfl := e1
      clear ha
      by_cases hl2 : k < y.length
      · have hb : y[k]? = some y[k] := List.getElem?_eq_getElem hl2
        obtain ⟨b2, o2, e2, q2, i2⟩ := ints_at HY.out hb
        have HB := Lib.hid hb
        generalize y[k] = b at *
        obtain rfl := e2
        have HR := Lib.hid (cmpL_get HA.out hb)
        clear hb
        by_cases hz : cmpI a b = 0
        · have HZ := Lib.hid hz
          have HV := Lib.hid (show cmpL (x.drop (k + 1)) (y.drop (k + 1)) = cmpL x y by rw [← HQ.out, HR.out, if_pos hz])
          clear hz
          go_wp2_with (refine (CompareInt_any _ _ _).mono ?_; rintro e w1 ⟨rfl, rfl⟩; rw [HZ.out])
          go_roundw
          case rel => exact ⟨k + 1, by omega, by omega, by go_num, trivial, HV.out⟩
          case measure => simp [intOf]; omega
        · have HV := Lib.hid (show cmpI a b = cmpL x y by rw [← HQ.out, HR.out, if_neg hz])
          have hne : (cmpI a b != 0) = true := by simpa using hz
          clear hz
          obtain ⟨c, hc⟩ : ∃ c, c = cmpI a b := ⟨_, rfl⟩
          rw [← hc] at hne
          have HC := Lib.hid hc
          clear hc
          go_wp2_with (refine (CompareInt_any _ _ _).mono ?_; rintro e w1 ⟨rfl, rfl⟩; rw [← HC.out])
          go_ret
          exact ⟨ret_int (HC.out.trans HV.out), rfl⟩
      · have hV := Lib.hid (show 1 = cmpL x y by rw [← HQ.out, cmpL_left HA.out (by omega)])
        have hd : decide ((y.length : Int) ≤ (k : Int)) = true := by simp; omega
        go_wp2_with fail
        go_ret
        exact ⟨ret_int hV.out, rfl⟩
    · obtain rfl : x.length = k := by omega
      have HE := Lib.hid (cmpL_end (x := x) (y := y) (by omega))
      by_cases hl : x.length < y.length
      · have HV := Lib.hid (show -1 = cmpL x y by rw [← HQ.out, HE.out, if_pos hl])
        go_wp2_with fail
        go_ret
        exact ⟨ret_int HV.out, rfl⟩
      · have HV := Lib.hid (show 0 = cmpL x y by rw [← HQ.out, HE.out, if_neg hl])
        have hd : decide ((x.length : Int) < (y.length : Int)) = false := by simp; omega
        go_wp2_with fail
        go_ret
        exact ⟨ret_int HV.out, rfl⟩
end Go.Proofs.YtjakdgchfimhkaaGreat
