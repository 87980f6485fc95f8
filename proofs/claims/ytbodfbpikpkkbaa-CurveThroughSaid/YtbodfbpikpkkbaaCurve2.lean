/-
  The walks of the reference's CheckPoints, of At where the points or the place are wrong, and of the closed fact on curves.
-/
import Derived.Test.YtbodfbpikpkkbaaCurve
import Derived.Test.YtbodfbpikpkkbaaCurveMath
namespace Go.Proofs.Ytbodfbpikpkkbaa
open Go.RowKit

theorem IsInts.take {w : World} {a : Option Addr} {n cap : Nat} {l : List Int} (h : IsInts w (.slice a n cap) l) (k : Nat) (hk : k ≤ l.length) : IsInts w (.slice a k cap) (l.take k) := by
  obtain ⟨a', cap', e, h1, ⟨h2, h3, h4⟩, h5⟩ := h
  simp only [Value.slice.injEq] at e
  obtain ⟨rfl, rfl, rfl⟩ := e
  have hl : (l.take k).length = k := by simp; omega
  refine ⟨a, cap, by rw [hl], by omega, ⟨by omega, h3, h4⟩, fun i hi => ?_⟩
  obtain ⟨b, off, z, e1, hc, hz, hi'⟩ := h5 i (by omega)
  exact ⟨b, off, z, e1, hc, by rw [List.getElem?_take, if_pos (by omega)]; exact hz, hi'⟩

set_option maxHeartbeats 400000 in
theorem At_no (vx vy : Value) (x y : List Int) (p : Int) (w : World) (hx : IsInts w vx x) (hy : IsInts w vy y) (h : ptsV x y ≠ 0) :
    Calls Try.prog 28 #[vx, vy, .int .i64 p] w fun e w' => e = .returned (.tuple #[.int .i64 0, .int .i64 (ptsV x y)]) ∧ Below w.heap.size w w' := by
  have hne : (ptsV x y != 0) = true := by simpa using h
  clear h
  go_enter Try.func28, Try.ntmps28
  go_wp2_with fail
  refine (ptsCheck_any _ _ x y _ hx hy).mono ?_
  rintro e w1 ⟨rfl, hb1⟩
  go_wp2_with fail
  go_ret2
  exact ⟨rfl, hb1⟩

set_option maxHeartbeats 400000 in
theorem At_far (vx vy : Value) (x y : List Int) (p : Int) (w : World) (hx : IsInts w vx x) (hy : IsInts w vy y) (h : ptsV x y = 0) (hp : p < 0 ∨ 31 ≤ p) :
    Calls Try.prog 28 #[vx, vy, .int .i64 p] w fun e w' => e = .returned (.tuple #[.int .i64 0, .int .i64 2]) ∧ Below w.heap.size w w' := by
  have HK := Lib.hid h
  clear h
  go_enter Try.func28, Try.ntmps28
  go_wp2_with fail
  refine (ptsCheck_any _ _ x y _ hx hy).mono ?_
  rintro e w1 ⟨rfl, hb1⟩
  rw [HK.out]
  go_wp2_with fail
  refine (Check_no _ _ (by omega)).mono ?_
  rintro e w' ⟨rfl, rfl⟩
  go_wp2_with fail
  go_ret2
  exact ⟨rfl, hb1⟩

theorem inB_yes {n a b : Int} (h0 : a ≤ n) (h1 : n ≤ b) : inB n a b = true := by simp [inB, h0, h1]
theorem inB_no {n a b : Int} (h : n < a ∨ b < n) : inB n a b = false := by simp [inB]; omega

set_option maxHeartbeats 1000000 in
theorem CheckPoints_any (vx vy : Value) (x y : List Int) (w : World) (hx : IsInts w vx x) (hy : IsInts w vy y) :
    Calls Try.prog 31 #[vx, vy] w fun e w' => e = .returned (.int .i64 (ptsV x y)) ∧ Below w.heap.size w w' := by
  have hx0 := hx
  obtain ⟨ax, cx, rfl, hcx, hmx, hx⟩ := hx.opened
  obtain ⟨ay, cy, rfl, hcy, hmy, hy⟩ := hy.opened
  obtain ⟨mx1, mx2, mx3⟩ := hmx
  have hmx2 := mx2
  clear mx3 hmy
  by_cases hl : x.length = y.length
  · have hl1 : ((x.length : Int) != (y.length : Int)) = false := by simp [hl]
    have hl2 : y.length ≤ x.length := by omega
    have hl3 : x.length ≤ y.length := by omega
    have HL := Lib.hid hl
    clear hl
    by_cases h0 : x.length = 0 ∨ 8 < x.length
    · have H := Lib.hid (show ptsV x y = 1 by unfold ptsV; rw [if_neg (by simpa using HL.out), if_pos h0])
      have hin := inB_no (n := (x.length : Int)) (a := 1) (b := 8) (by omega)
      clear h0
      go_enter Try.func31, Try.ntmps31
      go_wp2_with fail
      refine (in_any _ _ _ _).mono ?_
      rintro e w' ⟨rfl, rfl⟩
      go_wp2_with fail
      go_ret
      exact ⟨ret_int H.out.symm, Below.refl _ _⟩
    · have hin := inB_yes (n := (x.length : Int)) (a := 1) (b := 8) (by omega) (by omega)
      have h2 : x.length ≤ 8 := by omega
      have H := Lib.hid (show ptsV x y = ptsFrom x y [] by unfold ptsV; rw [if_neg (by simpa using HL.out), if_neg h0])
      clear h0
      go_enter Try.func31, Try.ntmps31
      go_wp2_with fail
      refine (in_any _ _ _ _).mono ?_
      rintro e w' ⟨rfl, rfl⟩
      go_wp2_with fail
      go_loopw [19] (fun i wr => ∃ k : Nat, k ≤ x.length ∧ i = .int .i64 k ∧ Below w.heap.size w wr ∧ ptsFrom (x.drop k) (y.drop k) (x.take k) = ptsV x y) (fun i _ => x.length - (intOf i).toNat)
      case atStart => exact ⟨0, by omega, rfl, Below.refl _ _, H.out.symm⟩
      case round =>
        obtain ⟨k, hk, rfl, hb, hq⟩ := hrel
        have HQ := Lib.hid hq
        clear hq H
        by_cases hlt : k < x.length
        · have hxt := (hx0.stays hb).take k (by omega)
          obtain ⟨b1, o1, z1, rfl, hc1, hz1, hi1⟩ := (hx.stays hb) k hlt
          obtain ⟨b2, o2, z2, rfl, hc2, hz2, hi2⟩ := (hy.stays hb) k (by omega)
          have HQ2 : Hid (x.drop k = z1 :: x.drop (k + 1)) := Lib.hid (drop_get hz1)
          have HQ3 : Hid (y.drop k = z2 :: y.drop (k + 1)) := Lib.hid (drop_get hz2)
          have HQ4 : Hid (x.take (k + 1) = x.take k ++ [z1]) := Lib.hid (take_get hz1)
          clear hz1 hz2
          by_cases n1 : 0 ≤ z1 ∧ z1 < 31
          · have i1 := isNum_true n1.1 n1.2
            by_cases n2 : 0 ≤ z2 ∧ z2 < 31
            · have i2 := isNum_true n2.1 n2.2
              go_wp2_with fail
              refine (IsNumber_any _ _).mono ?_
              rintro e w' ⟨rfl, rfl⟩
              go_wp2_with fail
              refine (IsNumber_any _ _).mono ?_
              rintro e w' ⟨rfl, rfl⟩
              go_wp2_with fail
              have s1 : (k : Int) ≤ (cx : Int) := by omega
              have s2 : (k : Int) < (x.length : Int) := by omega
              have s3 : (0 : Int) ≤ (k : Int) := by omega
              refine wp_region_still_tail 7 follows_mixed (by kernel_rfl) ?_
              simp only [List.take_succ_cons, List.take_zero, List.drop_succ_cons, List.drop_zero]
              repeat still_step
              try refine wpStill_nil ?_
              clear s1 s2 s3
              change wpList _ _ _ _ _ wr.drew
              have hxt2 : IsInts wr.drew (.slice (some ⟨b1, o1, none⟩) k cx) (x.take k) := hxt
              have hbd : Below w.heap.size w wr.drew := hb.drew
              generalize wr.drew = w2 at *
              clear hc1 hc2
              by_cases hm : z1 ∈ x.take k
              · have HMB := Lib.hid (show memB z1 (x.take k) = true by simp [memB, hm])
                go_wp2_with fail
                refine (Contains_ints _ (x.take k) _ _ hxt2).mono ?_
                rintro e w' ⟨rfl, rfl⟩
                rw [HMB.out]
                go_wp2_with fail
                go_ret
                refine ⟨ret_int ?_, hbd⟩
                rw [← HQ.out, HQ2.out, HQ3.out]
                simp only [ptsFrom]
                rw [numOk_iff.2 n1, numOk_iff.2 n2, Bool.and_self, if_pos rfl, if_pos hm]
              · have HMB := Lib.hid (show memB z1 (x.take k) = false by simp [memB, hm])
                go_wp2_with fail
                refine (Contains_ints _ (x.take k) _ _ hxt2).mono ?_
                rintro e w' ⟨rfl, rfl⟩
                rw [HMB.out]
                go_wp2_with fail
                go_roundw
                case rel =>
                  refine ⟨k + 1, by omega, by go_num, hbd, ?_⟩
                  rw [← HQ.out, HQ2.out, HQ3.out, HQ4.out]
                  simp only [ptsFrom]
                  rw [numOk_iff.2 n1, numOk_iff.2 n2, Bool.and_self, if_pos rfl, if_neg hm]
                case measure => simp [intOf]; omega
            · have i2 := isNum_false (a := z2) (by omega)
              go_wp2_with fail
              refine (IsNumber_any _ _).mono ?_
              rintro e w' ⟨rfl, rfl⟩
              go_wp2_with fail
              refine (IsNumber_any _ _).mono ?_
              rintro e w' ⟨rfl, rfl⟩
              go_wp2_with fail
              go_ret
              refine ⟨ret_int ?_, hb⟩
              rw [← HQ.out, HQ2.out, HQ3.out]
              simp [ptsFrom, numOk_no.2 (show z2 < 0 ∨ 31 ≤ z2 by omega)]
          · have i1 := isNum_false (a := z1) (by omega)
            go_wp2_with fail
            refine (IsNumber_any _ _).mono ?_
            rintro e w' ⟨rfl, rfl⟩
            go_wp2_with fail
            go_ret
            refine ⟨ret_int ?_, hb⟩
            rw [← HQ.out, HQ2.out, HQ3.out]
            simp [ptsFrom, numOk_no.2 (show z1 < 0 ∨ 31 ≤ z1 by omega)]
        · obtain rfl : k = x.length := by omega
          go_wp2
          go_ret
          refine ⟨ret_int ?_, hb⟩
          rw [← HQ.out]
          simp [ptsFrom]
  · have hl1 : ((x.length : Int) != (y.length : Int)) = true := by simp; omega
    have H := Lib.hid (show ptsV x y = 3 by simp [ptsV, hl])
    clear hl
    go_enter Try.func31, Try.ntmps31
    go_wp2
    go_ret
    exact ⟨ret_int H.out.symm, Below.refl _ _⟩

set_option maxHeartbeats 1000000 in
theorem curved_any (w : World) : Calls Try.prog 26 #[] w fun e w' => e = .returned (.bool true) ∧ Below w.heap.size w w' := by
  go_enter Try.func26, Try.ntmps26
  go_wp2_with fail
  have A1 := (IsInts.fresh w 3 [0, 1] (by decide) (wfNums _ (by decide)) _ rfl).stays (below_alloc _ (.cells #[.int .i64 5, .int .i64 7] 3))
  have B1 := IsInts.fresh (w.alloc (.cells #[.int .i64 0, .int .i64 1] 3)) 3 [5, 7] (by decide) (wfNums _ (by decide)) (w.heap.size + 1) (by simp)
  refine (At_ok _ _ [0, 1] [5, 7] 2 _ A1 B1 (by decide) (by omega) (by omega)).mono ?_
  rintro e w1 ⟨rfl, hb1⟩
  rw [show atV [0, 1] [5, 7] 2 = 9 from by decide +kernel]
  have hc1 : Below w.heap.size w w1 := (((Below.refl _ _).alloc (Nat.le_refl _) _).alloc (by simp) _).trans (hb1.mono (by simp; omega))
  clear hb1 A1 B1
  go_wp2_with fail
  have A2 := (IsInts.fresh w1 3 [0, 1, 2] (by decide) (wfNums _ (by decide)) _ rfl).stays (below_alloc _ (.cells #[.int .i64 0, .int .i64 1, .int .i64 4] 3))
  have B2 := IsInts.fresh (w1.alloc (.cells #[.int .i64 0, .int .i64 1, .int .i64 2] 3)) 3 [0, 1, 4] (by decide) (wfNums _ (by decide)) (w1.heap.size + 1) (by simp)
  refine (At_ok _ _ [0, 1, 2] [0, 1, 4] 5 _ A2 B2 (by decide) (by omega) (by omega)).mono ?_
  rintro e w2 ⟨rfl, hb2⟩
  rw [show atV [0, 1, 2] [0, 1, 4] 5 = 25 from by decide +kernel]
  have hc2 : Below w1.heap.size w1 w2 := (((Below.refl _ _).alloc (Nat.le_refl _) _).alloc (by simp) _).trans (hb2.mono (by simp; omega))
  clear hb2 A2 B2
  go_wp2_with fail
  have A3 := (IsInts.fresh w2 3 [1, 1] (by decide) (wfNums _ (by decide)) _ rfl).stays (below_alloc _ (.cells #[.int .i64 5, .int .i64 7] 3))
  have B3 := IsInts.fresh (w2.alloc (.cells #[.int .i64 1, .int .i64 1] 3)) 3 [5, 7] (by decide) (wfNums _ (by decide)) (w2.heap.size + 1) (by simp)
  refine (At_no _ _ [1, 1] [5, 7] 2 _ A3 B3 (by decide)).mono ?_
  rintro e w3 ⟨rfl, hb3⟩
  rw [show ptsV [1, 1] [5, 7] = 5 from by decide +kernel]
  have hc3 : Below w2.heap.size w2 w3 := (((Below.refl _ _).alloc (Nat.le_refl _) _).alloc (by simp) _).trans (hb3.mono (by simp; omega))
  clear hb3 A3 B3
  go_wp2_with fail
  go_ret
  exact ⟨rfl, hc1.trans ((hc2.mono hc1.size).trans (hc3.mono (Nat.le_trans hc1.size hc2.size)))⟩

end Go.Proofs.Ytbodfbpikpkkbaa
