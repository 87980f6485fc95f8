/-
  The walk of KinSays.
-/
import Derived.Test.YtlaabmpadikkjaaJoined
import Derived.Test.YtlaabmpadikkjaaRefCommon
import Derived.Test.YtlaabmpadikkjaaReadBook
namespace Go.Proofs.Ytlaabmpadikkjaa
open Go.RowKit

theorem commonE_bad {b : List Ver} (i j : Int) (h : bookV b ≠ 0) : commonE b i j = bookV b := by
  have := behindE_chk i h
  rw [commonE_i j (by rw [this]; exact h), this]
theorem commonE_who {b : List Ver} {i j : Int} (h : bookV b = 0) (hw : i < 0 ∨ (b.length : Int) ≤ i ∨ j < 0 ∨ (b.length : Int) ≤ j) : commonE b i j = 4 := by
  by_cases hi : i < 0 ∨ (b.length : Int) ≤ i
  · have := behindE_who h hi
    rw [commonE_i j (by rw [this]; omega), this]
  · rw [commonE_j j (behindE_ok h (by omega) (by omega)), behindE_who h (by omega)]
theorem commonE_good {b : List Ver} {i j : Int} (h : bookV b = 0) (i0 : 0 ≤ i) (i1 : i < b.length) (j0 : 0 ≤ j) (j1 : j < b.length) : commonE b i j = 0 := by
  rw [commonE_j j (behindE_ok h i0 i1), behindE_ok h j0 j1]

set_option maxRecDepth 100000 in
set_option maxHeartbeats 4000000 in
theorem kinSays_bad (v : Value) (b : List Ver) (i j : Int) (W : World) (hv : IsVers W v b) (h : bookV b ≠ 0) :
    Calls Try.prog 8 #[.agg #[v], .int .i64 i, .int .i64 j] W fun e w' => e = .returned (.bool true) ∧ Below W.heap.size W w' := by
  obtain ⟨a, c, rfl, _⟩ := hv.opened
  have hE := commonE_bad i j h
  have HC := Lib.hid (commonC_no (b := b) (i := i) (j := j) (by rw [hE]; exact h))
  have HA := Lib.hid (show apartC b i j = false by simp [apartC, hE, h])
  obtain ⟨E, hEE⟩ : ∃ E, E = bookV b := ⟨_, rfl⟩
  have hne : (E != 0) = true := by rw [hEE]; simpa using h
  have hne2 : (E == 0) = false := by rw [hEE]; simpa using h
  have heq : (E == E) = true := by simp
  rw [← hEE] at hE
  have HE := Lib.hid hE
  have HEE := Lib.hid hEE
  have S0 := (Since.refl W).alloc (.cells #[.slice a b.length c] 50)
  have hv0 := hv.stays RVer.stays (below_alloc _ (.cells #[.slice a b.length c] 50))
  have c0 : (W.alloc (.cells #[.slice a b.length c] 50)).cell? ⟨W.heap.size, 0, none⟩ = some (.slice a b.length c) := by go_simp
  clear hv h hE hEE
  go_enter Try.func8, Try.ntmps8
  go_wp2_with fail
  generalize W.alloc (.cells #[.slice a b.length c] 50) = w0 at *
  obtain ⟨B, hBB⟩ : ∃ B, B = W.heap.size := ⟨_, rfl⟩
  rw [← hBB] at c0 ⊢
  clear hBB
  have l0 := cell_lt c0
  refine (Common_any _ b i j _ hv0).mono ?_
  rintro e w1 ⟨⟨v1, rfl, ho1⟩, hb1⟩
  rw [HE.out]
  rw [HC.out] at ho1
  have T1 := (Since.refl w0).step hb1
  have d1 := (T1.below.cell (p := ⟨B, 0, none⟩) l0).trans c0
  have hi1 := ho1.isInts
  obtain ⟨a1, c1, rfl, _⟩ := hi1.opened
  clear hb1 ho1 hi1
  go_wp2_with fail
  refine (Apart_any _ b i j _ (hv0.later RVer.stays (Dirty.old T1.below _))).mono ?_
  rintro e w2 ⟨rfl, hb2⟩
  rw [HE.out, HA.out]
  have T2 := T1.step hb2
  have d2 := (T2.below.cell (p := ⟨B, 0, none⟩) l0).trans c0
  clear hb2 d1
  go_wp2_with fail
  refine (CheckBook_any _ b _ (hv0.later RVer.stays (Dirty.old T2.below _))).mono ?_
  rintro e w3 ⟨rfl, hb3⟩
  rw [← HEE.out]
  have T3 := T2.step hb3
  clear hb3 d2
  go_wp2_with fail
  refine (joined_any _).mono ?_
  rintro e w4 ⟨rfl, hb4⟩
  have T4 := T3.step hb4
  clear hb4
  go_wp2_with fail
  refine (joined_any _).mono ?_
  rintro e w5 ⟨rfl, hb5⟩
  have T5 := T4.step hb5
  clear hb5
  go_wp2_with fail
  go_ret
  exact ⟨rfl, (S0.step T5.below).below⟩

set_option maxRecDepth 100000 in
set_option maxHeartbeats 4000000 in
theorem kinSays_who (v : Value) (b : List Ver) (i j : Int) (W : World) (hv : IsVers W v b) (h : bookV b = 0) (hw : i < 0 ∨ (0 ≤ i ∧ (b.length : Int) ≤ i) ∨ (0 ≤ i ∧ i < b.length ∧ j < 0) ∨ (0 ≤ i ∧ i < b.length ∧ 0 ≤ j ∧ (b.length : Int) ≤ j)) :
    Calls Try.prog 8 #[.agg #[v], .int .i64 i, .int .i64 j] W fun e w' => e = .returned (.bool true) ∧ Below W.heap.size W w' := by
  obtain ⟨a, c, rfl, _, ⟨hbl, _⟩, _⟩ := hv.opened
  have hE := commonE_who (i := i) (j := j) h (by omega)
  have HC := Lib.hid (commonC_no (b := b) (i := i) (j := j) (by rw [hE]; omega))
  have HA := Lib.hid (show apartC b i j = false by simp [apartC, hE])
  have HE := Lib.hid hE
  have HEE := Lib.hid h
  have S0 := (Since.refl W).alloc (.cells #[.slice a b.length c] 50)
  have hv0 := hv.stays RVer.stays (below_alloc _ (.cells #[.slice a b.length c] 50))
  have c0 : (W.alloc (.cells #[.slice a b.length c] 50)).cell? ⟨W.heap.size, 0, none⟩ = some (.slice a b.length c) := by go_simp
  clear hv h hE
  go_enter Try.func8, Try.ntmps8
  go_wp2_with fail
  generalize W.alloc (.cells #[.slice a b.length c] 50) = w0 at *
  obtain ⟨B, hBB⟩ : ∃ B, B = W.heap.size := ⟨_, rfl⟩
  rw [← hBB] at c0 ⊢
  clear hBB
  have l0 := cell_lt c0
  refine (Common_any _ b i j _ hv0).mono ?_
  rintro e w1 ⟨⟨v1, rfl, ho1⟩, hb1⟩
  rw [HE.out]
  rw [HC.out] at ho1
  have T1 := (Since.refl w0).step hb1
  have d1 := (T1.below.cell (p := ⟨B, 0, none⟩) l0).trans c0
  have hi1 := ho1.isInts
  obtain ⟨a1, c1, rfl, _⟩ := hi1.opened
  clear hb1 ho1 hi1
  go_wp2_with fail
  refine (Apart_any _ b i j _ (hv0.later RVer.stays (Dirty.old T1.below _))).mono ?_
  rintro e w2 ⟨rfl, hb2⟩
  rw [HE.out, HA.out]
  have T2 := T1.step hb2
  have d2 := (T2.below.cell (p := ⟨B, 0, none⟩) l0).trans c0
  clear hb2 d1
  go_wp2_with fail
  refine (CheckBook_any _ b _ (hv0.later RVer.stays (Dirty.old T2.below _))).mono ?_
  rintro e w3 ⟨rfl, hb3⟩
  rw [HEE.out]
  have T3 := T2.step hb3
  have d3 := (T3.below.cell (p := ⟨B, 0, none⟩) l0).trans c0
  clear hb3 d2
  rcases hw with hw | ⟨hw0, hw⟩ | ⟨hw0, hw1, hw⟩ | ⟨hw0, hw1, hw2, hw⟩
  all_goals
    go_wp2_with fail
    refine (joined_any _).mono ?_
    rintro e w4 ⟨rfl, hb4⟩
    have T4 := T3.step hb4
    clear hb4
    go_wp2_with fail
    refine (joined_any _).mono ?_
    rintro e w5 ⟨rfl, hb5⟩
    have T5 := T4.step hb5
    clear hb5
    go_wp2_with fail
    go_ret
    exact ⟨rfl, (S0.step T5.below).below⟩

set_option maxRecDepth 100000 in
set_option maxHeartbeats 4000000 in
theorem kinSays_ok (v : Value) (b : List Ver) (i j : Nat) (W : World) (hv : IsVers W v b) (h : bookV b = 0) (hi : i < b.length) (hj : j < b.length) :
    Calls Try.prog 8 #[.agg #[v], .int .i64 i, .int .i64 j] W fun e w' => e = .returned (.bool true) ∧ Below W.heap.size W w' := by
  have hok := bookV_ok.1 h
  have ht := hok.top
  obtain ⟨a, c, rfl, _⟩ := hv.opened
  have hE := commonE_good (i := i) (j := j) h (by omega) (by omega) (by omega) (by omega)
  have HC := Lib.hid (commonC_ok hE)
  have HA := Lib.hid (show apartC b i j = (!fromV b i j && !fromV b j i) by rw [← apart_eq hok (by omega) (by omega) (by omega) (by omega)]; simp [apartC, hE])
  have HQ := Lib.hid (show eqInts (commonL b i j) (commonR b i j) = true by rw [common_eq hok (by omega) (by omega) (by omega) (by omega)]; simp [eqInts])
  have HE := Lib.hid hE
  have HB := Lib.hid h
  have S0 := (Since.refl W).alloc (.cells #[.slice a b.length c] 50)
  have hv0 := hv.stays RVer.stays (below_alloc _ (.cells #[.slice a b.length c] 50))
  have c0 : (W.alloc (.cells #[.slice a b.length c] 50)).cell? ⟨W.heap.size, 0, none⟩ = some (.slice a b.length c) := by go_simp
  clear hv h hE hok
  go_enter Try.func8, Try.ntmps8
  go_wp2_with fail
  generalize W.alloc (.cells #[.slice a b.length c] 50) = w0 at *
  obtain ⟨B, hBB⟩ : ∃ B, B = W.heap.size := ⟨_, rfl⟩
  rw [← hBB] at c0 ⊢
  clear hBB
  have l0 := cell_lt c0
  refine (Common_any _ b i j _ hv0).mono ?_
  rintro e w1 ⟨⟨v1, rfl, ho1⟩, hb1⟩
  rw [HE.out]
  rw [HC.out] at ho1
  have T1 := (Since.refl w0).step hb1
  have d1 := (T1.below.cell (p := ⟨B, 0, none⟩) l0).trans c0
  have hi1 := ho1.isInts
  have HI1 := Lib.hid hi1
  clear hb1 ho1 hi1
  go_wp2_with fail
  refine (Apart_any _ b i j _ (hv0.later RVer.stays (Dirty.old T1.below _))).mono ?_
  rintro e w2 ⟨rfl, hb2⟩
  rw [HE.out]
  have T2 := T1.step hb2
  have U2 := (Since.refl w1).step hb2
  have d2 := (T2.below.cell (p := ⟨B, 0, none⟩) l0).trans c0
  clear hb2 d1
  go_wp2_with fail
  refine (CheckBook_any _ b _ (hv0.later RVer.stays (Dirty.old T2.below _))).mono ?_
  rintro e w3 ⟨rfl, hb3⟩
  rw [HB.out]
  have T3 := T2.step hb3
  have U3 := U2.step hb3
  have d3 := (T3.below.cell (p := ⟨B, 0, none⟩) l0).trans c0
  clear hb3 d2
  go_wp2_with fail
  refine (joined_any _).mono ?_
  rintro e w4 ⟨rfl, hb4⟩
  have T4 := T3.step hb4
  have U4 := U3.step hb4
  have d4 := (T4.below.cell (p := ⟨B, 0, none⟩) l0).trans c0
  clear hb4 d3
  go_wp2_with fail
  refine (CommonOf_any _ b i j _ (hv0.later RVer.stays (Dirty.old T4.below _)) HB.out hi hj).mono ?_
  rintro e w5 ⟨⟨v5, rfl, ho5⟩, hb5⟩
  have T5 := T4.step hb5
  have U5 := U4.step hb5
  clear hb5 d4
  go_wp2_with fail
  refine (Equal_ints _ _ (commonL b i j) (commonR b i j) _ (HI1.out.stays U5.below) ho5.isInts).mono ?_
  rintro e w6 ⟨rfl, hb6⟩
  rw [HQ.out]
  have T6 := T5.step hb6
  have d6 := (T6.below.cell (p := ⟨B, 0, none⟩) l0).trans c0
  clear hb6
  obtain ⟨X, hX⟩ : ∃ X, X = fromV b i j := ⟨_, rfl⟩
  obtain ⟨Y, hY⟩ : ∃ Y, Y = fromV b j i := ⟨_, rfl⟩
  rw [HA.out, ← hX, ← hY]
  have HX := Lib.hid hX
  have HY := Lib.hid hY
  clear hX hY
  cases X with
  | true =>
    go_wp2_with fail
    refine (From_any _ b i j _ (hv0.later RVer.stays (Dirty.old T6.below _)) HB.out (by omega) (by omega)).mono ?_
    rintro e w7 ⟨rfl, hb7⟩
    rw [← HX.out]
    have T7 := T6.step hb7
    clear hb7 d6
    cases Y with
    | true =>
      go_wp2_with fail
      go_ret
      exact ⟨rfl, (S0.step T7.below).below⟩
    | false =>
      go_wp2_with fail
      go_ret
      exact ⟨rfl, (S0.step T7.below).below⟩
  | false =>
    go_wp2_with fail
    refine (From_any _ b i j _ (hv0.later RVer.stays (Dirty.old T6.below _)) HB.out (by omega) (by omega)).mono ?_
    rintro e w7 ⟨rfl, hb7⟩
    rw [← HX.out]
    have T7 := T6.step hb7
    have d7 := (T7.below.cell (p := ⟨B, 0, none⟩) l0).trans c0
    clear hb7 d6
    go_wp2_with fail
    refine (From_any _ b j i _ (hv0.later RVer.stays (Dirty.old T7.below _)) HB.out (by omega) (by omega)).mono ?_
    rintro e w8 ⟨rfl, hb8⟩
    rw [← HY.out]
    have T8 := T7.step hb8
    clear hb8 d7
    cases Y with
    | true =>
      go_wp2_with fail
      go_ret
      exact ⟨rfl, (S0.step T8.below).below⟩
    | false =>
      go_wp2_with fail
      go_ret
      exact ⟨rfl, (S0.step T8.below).below⟩

theorem KinSays_walk (v0 : Value) (b : List Ver) (v1 : Value) (i : Int) (v2 : Value) (j : Int) (W : World) (h0 : IsBook W v0 b) (h1 : IsInt v1 i) (h2 : IsInt v2 j) :
    Calls Try.prog 8 #[v0, v1, v2] W fun e w' => e = .returned (.bool true) ∧ Below W.heap.size W w' := by
  obtain ⟨u, rfl, hv⟩ := h0
  obtain ⟨rfl, _⟩ := h1
  obtain ⟨rfl, _⟩ := h2
  by_cases h : bookV b = 0
  · by_cases hw : i < 0 ∨ (0 ≤ i ∧ (b.length : Int) ≤ i) ∨ (0 ≤ i ∧ i < b.length ∧ j < 0) ∨ (0 ≤ i ∧ i < b.length ∧ 0 ≤ j ∧ (b.length : Int) ≤ j)
    · exact kinSays_who u b i j W hv h hw
    · have hi : 0 ≤ i ∧ i < b.length ∧ 0 ≤ j ∧ j < b.length := by omega
      obtain ⟨m, rfl⟩ := Int.eq_ofNat_of_zero_le hi.1
      obtain ⟨n, rfl⟩ := Int.eq_ofNat_of_zero_le hi.2.2.1
      exact kinSays_ok u b m n W hv h (by omega) (by omega)
  · exact kinSays_bad u b i j W hv h

end Go.Proofs.Ytlaabmpadikkjaa
