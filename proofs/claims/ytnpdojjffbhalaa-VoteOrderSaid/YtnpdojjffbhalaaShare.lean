/-
  The walks of package share's checks and of the reference's.
-/
import Derived.Test.YtnpdojjffbhalaaBase
namespace Go.Proofs.Ytnpdojjffbhalaa
open Go.RowKit

/-- What Check of a plan answers. -/
def planV (n o s : Int) : Int := if n < 1 ∨ 4 < n ∨ o < n ∨ 8 < o ∨ s < 1 ∨ 24 < s then 2 else 0
theorem planV_no {n o s : Int} (h : n < 1 ∨ 4 < n ∨ o < n ∨ 8 < o ∨ s < 1 ∨ 24 < s) : planV n o s = 2 := if_pos h
theorem planV_yes {n o s : Int} (h : ¬ (n < 1 ∨ 4 < n ∨ o < n ∨ 8 < o ∨ s < 1 ∨ 24 < s)) : planV n o s = 0 := if_neg h

set_option maxHeartbeats 1000000 in
theorem planCheck_any (n o s : Int) (w : World) :
    Calls Try.prog 43 #[.agg #[.int .i64 n, .int .i64 o, .int .i64 s]] w fun e w' => e = .returned (.int .i64 (planV n o s)) ∧ Below w.heap.size w w' := by
  by_cases h1 : n < 1
  · have H := Lib.hid (planV_no (n := n) (o := o) (s := s) (by omega))
    go_enter Try.func43, Try.ntmps43
    go_wp2
    go_ret
    exact ⟨ret_int H.out.symm, below_alloc _ _⟩
  · by_cases h2 : 4 < n
    · have H := Lib.hid (planV_no (n := n) (o := o) (s := s) (by omega))
      go_enter Try.func43, Try.ntmps43
      go_wp2
      go_ret
      exact ⟨ret_int H.out.symm, below_alloc _ _⟩
    · by_cases h3 : o < n
      · have H := Lib.hid (planV_no (n := n) (o := o) (s := s) (by omega))
        go_enter Try.func43, Try.ntmps43
        go_wp2
        go_ret
        exact ⟨ret_int H.out.symm, below_alloc _ _⟩
      · by_cases h4 : 8 < o
        · have H := Lib.hid (planV_no (n := n) (o := o) (s := s) (by omega))
          go_enter Try.func43, Try.ntmps43
          go_wp2
          go_ret
          exact ⟨ret_int H.out.symm, below_alloc _ _⟩
        · by_cases h5 : s < 1
          · have H := Lib.hid (planV_no (n := n) (o := o) (s := s) (by omega))
            go_enter Try.func43, Try.ntmps43
            go_wp2
            go_ret
            exact ⟨ret_int H.out.symm, below_alloc _ _⟩
          · by_cases h6 : 24 < s
            · have H := Lib.hid (planV_no (n := n) (o := o) (s := s) (by omega))
              go_enter Try.func43, Try.ntmps43
              go_wp2
              go_ret
              exact ⟨ret_int H.out.symm, below_alloc _ _⟩
            · have H := Lib.hid (planV_yes (n := n) (o := o) (s := s) (by omega))
              go_enter Try.func43, Try.ntmps43
              go_wp2
              go_ret
              exact ⟨ret_int H.out.symm, below_alloc _ _⟩

set_option maxHeartbeats 1000000 in
theorem CheckPlan_any (n o s : Int) (w : World) :
    Calls Try.prog 101 #[.agg #[.int .i64 n, .int .i64 o, .int .i64 s]] w fun e w' => e = .returned (.int .i64 (planV n o s)) ∧ Below w.heap.size w w' := by
  by_cases h1 : n < 1
  · have H := Lib.hid (planV_no (n := n) (o := o) (s := s) (by omega))
    have b0 := inB_no (n := n) (a := 1) (b := 4) (by omega)
    go_enter Try.func101, Try.ntmps101
    go_wp2_with (go_at_call 125; refine (in_any _ _ _ _).mono ?_; rintro e w' ⟨rfl, rfl⟩)
    go_ret
    exact ⟨ret_int H.out.symm, below_alloc _ _⟩
  · by_cases h2 : 4 < n
    · have H := Lib.hid (planV_no (n := n) (o := o) (s := s) (by omega))
      have b0 := inB_no (n := n) (a := 1) (b := 4) (by omega)
      go_enter Try.func101, Try.ntmps101
      go_wp2_with (go_at_call 125; refine (in_any _ _ _ _).mono ?_; rintro e w' ⟨rfl, rfl⟩)
      go_ret
      exact ⟨ret_int H.out.symm, below_alloc _ _⟩
    · by_cases h3 : o < n
      · have H := Lib.hid (planV_no (n := n) (o := o) (s := s) (by omega))
        have b0 := inB_yes (n := n) (a := 1) (b := 4) (by omega) (by omega)
        have b1 := inB_no (n := o) (a := n) (b := 8) (by omega)
        go_enter Try.func101, Try.ntmps101
        go_wp2_with (go_at_call 125; refine (in_any _ _ _ _).mono ?_; rintro e w' ⟨rfl, rfl⟩)
        go_ret
        exact ⟨ret_int H.out.symm, below_alloc _ _⟩
      · by_cases h4 : 8 < o
        · have H := Lib.hid (planV_no (n := n) (o := o) (s := s) (by omega))
          have b0 := inB_yes (n := n) (a := 1) (b := 4) (by omega) (by omega)
          have b1 := inB_no (n := o) (a := n) (b := 8) (by omega)
          go_enter Try.func101, Try.ntmps101
          go_wp2_with (go_at_call 125; refine (in_any _ _ _ _).mono ?_; rintro e w' ⟨rfl, rfl⟩)
          go_ret
          exact ⟨ret_int H.out.symm, below_alloc _ _⟩
        · by_cases h5 : s < 1
          · have H := Lib.hid (planV_no (n := n) (o := o) (s := s) (by omega))
            have b0 := inB_yes (n := n) (a := 1) (b := 4) (by omega) (by omega)
            have b1 := inB_yes (n := o) (a := n) (b := 8) (by omega) (by omega)
            have b2 := inB_no (n := s) (a := 1) (b := 24) (by omega)
            go_enter Try.func101, Try.ntmps101
            go_wp2_with (go_at_call 125; refine (in_any _ _ _ _).mono ?_; rintro e w' ⟨rfl, rfl⟩)
            go_ret
            exact ⟨ret_int H.out.symm, below_alloc _ _⟩
          · by_cases h6 : 24 < s
            · have H := Lib.hid (planV_no (n := n) (o := o) (s := s) (by omega))
              have b0 := inB_yes (n := n) (a := 1) (b := 4) (by omega) (by omega)
              have b1 := inB_yes (n := o) (a := n) (b := 8) (by omega) (by omega)
              have b2 := inB_no (n := s) (a := 1) (b := 24) (by omega)
              go_enter Try.func101, Try.ntmps101
              go_wp2_with (go_at_call 125; refine (in_any _ _ _ _).mono ?_; rintro e w' ⟨rfl, rfl⟩)
              go_ret
              exact ⟨ret_int H.out.symm, below_alloc _ _⟩
            · have H := Lib.hid (planV_yes (n := n) (o := o) (s := s) (by omega))
              have b0 := inB_yes (n := n) (a := 1) (b := 4) (by omega) (by omega)
              have b1 := inB_yes (n := o) (a := n) (b := 8) (by omega) (by omega)
              have b2 := inB_yes (n := s) (a := 1) (b := 24) (by omega) (by omega)
              go_enter Try.func101, Try.ntmps101
              go_wp2_with (go_at_call 125; refine (in_any _ _ _ _).mono ?_; rintro e w' ⟨rfl, rfl⟩)
              go_ret
              exact ⟨ret_int H.out.symm, below_alloc _ _⟩

theorem planV_bd {n o s : Int} (h : planV n o s = 0) : 1 ≤ n ∧ n ≤ 4 ∧ n ≤ o ∧ o ≤ 8 ∧ 1 ≤ s ∧ s ≤ 24 := by
  unfold planV at h
  split at h
  · simp at h
  · omega
/-- How many numbers a share has. -/
def longV (n o s : Int) : Int := if planV n o s = 0 then (s + n - 1) / n else 0
theorem long_ceil {n s k : Int} (h1 : 1 ≤ n) (h2 : n ≤ 4) (hk : s ≤ k * n) (hk' : k * n < s + n) : (s + n - 1) / n = k := by
  rcases (by omega : n = 1 ∨ n = 2 ∨ n = 3 ∨ n = 4) with rfl | rfl | rfl | rfl <;> omega
def allV : List Int → Int
  | [] => 0
  | z :: l => if numOk z then allV l else 2
theorem allV_ok : ∀ l : List Int, allV l = 0 ↔ ∀ z ∈ l, 0 ≤ z ∧ z < 31
  | [] => by simp [allV]
  | z :: l => by
    by_cases h : numOk z = true
    · have h' := numOk_iff.1 h
      simp [allV, h, allV_ok l]
      intro _
      exact h'
    · simp only [Bool.not_eq_true] at h
      have h' := numOk_no.1 h
      simp [allV, h]
      intro hh
      omega
/-- What One of a share answers. -/
def oneV (n o s N : Int) (l : List Int) : Int :=
  if planV n o s ≠ 0 then planV n o s else if N < 0 ∨ o ≤ N then 4 else if (l.length : Int) ≠ longV n o s then 3 else allV l
def sameV (N M : Int) (l r : List Int) : Bool := decide (N = M) && eqInts l r

set_option maxHeartbeats 1000000 in
theorem Long_any (n o s : Int) (w : World) :
    Calls Try.prog 55 #[.agg #[.int .i64 n, .int .i64 o, .int .i64 s]] w fun e w' => e = .returned (.int .i64 (longV n o s)) ∧ Below w.heap.size w w' := by
  by_cases h : planV n o s = 0
  · obtain ⟨p1, p2, p3, p4, p5, p6⟩ := planV_bd h
    have H := Lib.hid (show longV n o s = (s + n - 1) / n by unfold longV; rw [if_pos h])
    have HP := Lib.hid h
    clear h
    go_enter Try.func55, Try.ntmps55
    go_wp2_with fail
    have S0 := (Since.refl w).alloc (.cells #[.int .i64 n, .int .i64 o, .int .i64 s] 23)
    have c0 : (w.alloc (.cells #[.int .i64 n, .int .i64 o, .int .i64 s] 23)).cell? ⟨w.heap.size, 0, none⟩ = some (.int .i64 n) := by go_simp
    have c2 : (w.alloc (.cells #[.int .i64 n, .int .i64 o, .int .i64 s] 23)).cell? ⟨w.heap.size, 2, none⟩ = some (.int .i64 s) := by go_simp
    generalize w.alloc (.cells #[.int .i64 n, .int .i64 o, .int .i64 s] 23) = w0 at *
    refine (planCheck_any _ _ _ _).mono ?_
    rintro e w1 ⟨rfl, hb1⟩
    rw [HP.out]
    have d0 := (hb1.cell (p := ⟨w.heap.size, 0, none⟩) (cell_lt c0)).trans c0
    have d2 := (hb1.cell (p := ⟨w.heap.size, 2, none⟩) (cell_lt c2)).trans c2
    have S1 := S0.step hb1
    have hnz : ¬ n = 0 := by omega
    clear c0 c2
    go_wp2_with fail
    go_ret
    exact ⟨ret_int H.out.symm, S1.below⟩
  · have H := Lib.hid (show longV n o s = 0 by unfold longV; rw [if_neg h])
    have hne : (planV n o s != 0) = true := by simpa using h
    clear h
    go_enter Try.func55, Try.ntmps55
    go_wp2_with fail
    refine (planCheck_any _ _ _ _).mono ?_
    rintro e w1 ⟨rfl, hb1⟩
    have S1 := ((Since.refl w).alloc (.cells #[.int .i64 n, .int .i64 o, .int .i64 s] 23)).step hb1
    go_wp2_with fail
    go_ret
    exact ⟨ret_int H.out.symm, S1.below⟩

set_option maxHeartbeats 1000000 in
theorem RowsOf_any (n o s : Int) (w : World) :
    Calls Try.prog 105 #[.agg #[.int .i64 n, .int .i64 o, .int .i64 s]] w fun e w' => e = .returned (.int .i64 (longV n o s)) ∧ Below w.heap.size w w' := by
  by_cases h : planV n o s = 0
  · obtain ⟨p1, p2, p3, p4, p5, p6⟩ := planV_bd h
    have H := Lib.hid (show longV n o s = (s + n - 1) / n by unfold longV; rw [if_pos h])
    have HP := Lib.hid h
    clear h
    go_enter Try.func105, Try.ntmps105
    go_wp2_with fail
    have S0 := (Since.refl w).alloc (.cells #[.int .i64 n, .int .i64 o, .int .i64 s] 23)
    have c0 : (w.alloc (.cells #[.int .i64 n, .int .i64 o, .int .i64 s] 23)).cell? ⟨w.heap.size, 0, none⟩ = some (.int .i64 n) := by go_simp
    have c2 : (w.alloc (.cells #[.int .i64 n, .int .i64 o, .int .i64 s] 23)).cell? ⟨w.heap.size, 2, none⟩ = some (.int .i64 s) := by go_simp
    generalize w.alloc (.cells #[.int .i64 n, .int .i64 o, .int .i64 s] 23) = w0 at *
    refine (CheckPlan_any _ _ _ _).mono ?_
    rintro e w1 ⟨rfl, hb1⟩
    rw [HP.out]
    have d0 := (hb1.cell (p := ⟨w.heap.size, 0, none⟩) (cell_lt c0)).trans c0
    have d2 := (hb1.cell (p := ⟨w.heap.size, 2, none⟩) (cell_lt c2)).trans c2
    have S1 := S0.step hb1
    clear c0 c2
    go_wp2_with fail
    go_loop [3, 4] (fun r h => ∃ k q : Int, 0 ≤ k ∧ k ≤ 24 ∧ r = .int .i64 k ∧ h = .int .i64 q ∧ q = k * n ∧ 0 ≤ q ∧ q < s + n ∧ k ≤ q) (fun _ h => (100 - intOf h).toNat)
    case atStart => exact ⟨0, 0, by omega, by omega, rfl, rfl, by omega, by omega, by omega, by omega⟩
    case round =>
      obtain ⟨k, q, hk0, hk, rfl, rfl, hq, hq0, hq1, hkq⟩ := hrel
      have HQ := Lib.hid hq
      clear hq
      by_cases hlt : q < s
      · go_wp2_with fail
        go_round
        case rel =>
          refine ⟨k + 1, q + n, by omega, by omega, by go_num, by go_num, ?_, by omega, by omega, by omega⟩
          rw [HQ.out, Int.add_mul]; omega
        case measure => simp [intOf]; omega
      · go_wp2_with fail
        go_ret
        refine ⟨ret_int ?_, S1.below⟩
        rw [H.out]
        exact (long_ceil p1 p2 (by rw [← HQ.out]; omega) (by rw [← HQ.out]; omega)).symm
  · have H := Lib.hid (show longV n o s = 0 by unfold longV; rw [if_neg h])
    have hne : (planV n o s != 0) = true := by simpa using h
    clear h
    go_enter Try.func105, Try.ntmps105
    go_wp2_with fail
    refine (CheckPlan_any _ _ _ _).mono ?_
    rintro e w1 ⟨rfl, hb1⟩
    have S1 := ((Since.refl w).alloc (.cells #[.int .i64 n, .int .i64 o, .int .i64 s] 23)).step hb1
    go_wp2_with fail
    go_ret
    exact ⟨ret_int H.out.symm, S1.below⟩

set_option maxHeartbeats 1000000 in
theorem Same_any (N M : Int) (v u : Value) (l r : List Int) (W : World) (hv : IsInts W v l) (hu : IsInts W u r) :
    Calls Try.prog 17 #[.agg #[.int .i64 N, v], .agg #[.int .i64 M, u]] W fun e w' => e = .returned (.bool (sameV N M l r)) ∧ Below W.heap.size W w' := by
  obtain ⟨a, c, rfl, _⟩ := hv.opened
  obtain ⟨a2, c2, rfl, _⟩ := hu.opened
  by_cases hN : N = M
  · have hNM : (N == M) = true := by simpa using hN
    have H := Lib.hid (show sameV N M l r = eqInts l r by simp [sameV, hN])
    clear hN
    go_enter Try.func17, Try.ntmps17
    go_wp2_with fail
    refine (Equal_ints _ _ l r _ ((hv.stays (below_alloc _ _)).stays (below_alloc _ _)) ((hu.stays (below_alloc _ _)).stays (below_alloc _ _))).mono ?_
    rintro e w1 ⟨rfl, hb1⟩
    go_wp2_with fail
    go_ret
    exact ⟨ret_bool H.out.symm, ((Since.refl W).alloc _).alloc _ |>.step hb1 |>.below⟩
  · have hNM : (N == M) = false := by simpa using hN
    have H := Lib.hid (show sameV N M l r = false by simp [sameV, hN])
    clear hN
    go_enter Try.func17, Try.ntmps17
    go_wp2_with fail
    go_ret
    exact ⟨ret_bool H.out.symm, (((Since.refl W).alloc _).alloc _).below⟩

set_option maxHeartbeats 1000000 in
theorem SameShare_any (N M : Int) (v u : Value) (l r : List Int) (W : World) (hv : IsInts W v l) (hu : IsInts W u r) :
    Calls Try.prog 62 #[.agg #[.int .i64 N, v], .agg #[.int .i64 M, u]] W fun e w' => e = .returned (.bool (sameV N M l r)) ∧ Below W.heap.size W w' := by
  obtain ⟨a, c, rfl, _⟩ := hv.opened
  obtain ⟨a2, c2, rfl, _⟩ := hu.opened
  by_cases hN : N = M
  · have hNM : (N == M) = true := by simpa using hN
    have H := Lib.hid (show sameV N M l r = eqInts l r by simp [sameV, hN])
    clear hN
    go_enter Try.func62, Try.ntmps62
    go_wp2_with fail
    refine (Equal_ints _ _ l r _ ((hv.stays (below_alloc _ _)).stays (below_alloc _ _)) ((hu.stays (below_alloc _ _)).stays (below_alloc _ _))).mono ?_
    rintro e w1 ⟨rfl, hb1⟩
    go_wp2_with fail
    go_ret
    exact ⟨ret_bool H.out.symm, ((Since.refl W).alloc _).alloc _ |>.step hb1 |>.below⟩
  · have hNM : (N == M) = false := by simpa using hN
    have H := Lib.hid (show sameV N M l r = false by simp [sameV, hN])
    clear hN
    go_enter Try.func62, Try.ntmps62
    go_wp2_with fail
    go_ret
    exact ⟨ret_bool H.out.symm, (((Since.refl W).alloc _).alloc _).below⟩

set_option maxRecDepth 100000 in
set_option maxHeartbeats 2000000 in
theorem One_any (n o s N : Int) (v : Value) (l : List Int) (W : World) (hv : IsInts W v l) :
    Calls Try.prog 52 #[.agg #[.int .i64 n, .int .i64 o, .int .i64 s], .agg #[.int .i64 N, v]] W fun e w' => e = .returned (.int .i64 (oneV n o s N l)) ∧ Below W.heap.size W w' := by
  obtain ⟨a, c, rfl, hc, ⟨hm, _⟩, _⟩ := hv.opened
  have S0 := ((Since.refl W).alloc (.cells #[.int .i64 n, .int .i64 o, .int .i64 s] 23)).alloc (.cells #[.int .i64 N, .slice a l.length c] 33)
  have hv0 := (hv.stays (below_alloc _ (.cells #[.int .i64 n, .int .i64 o, .int .i64 s] 23))).stays (below_alloc _ (.cells #[.int .i64 N, .slice a l.length c] 33))
  obtain ⟨w0, hw0⟩ : ∃ w0, w0 = (W.alloc (.cells #[.int .i64 n, .int .i64 o, .int .i64 s] 23)).alloc (.cells #[.int .i64 N, .slice a l.length c] 33) := ⟨_, rfl⟩
  have c0 : w0.cell? ⟨W.heap.size, 0, none⟩ = some (.int .i64 n) := by rw [hw0]; go_simp
  have c1 : w0.cell? ⟨W.heap.size, 1, none⟩ = some (.int .i64 o) := by rw [hw0]; go_simp
  have c2 : w0.cell? ⟨W.heap.size, 2, none⟩ = some (.int .i64 s) := by rw [hw0]; go_simp
  have c3 : w0.cell? ⟨W.heap.size + 1, 0, none⟩ = some (.int .i64 N) := by rw [hw0]; go_simp
  have c4 : w0.cell? ⟨W.heap.size + 1, 1, none⟩ = some (.slice a l.length c) := by rw [hw0]; go_simp
  rw [← hw0] at S0 hv0
  have HW := Lib.hid hw0
  clear hw0 hv
  have l0 := cell_lt c0
  have l3 := cell_lt c3
  by_cases hp : planV n o s = 0
  · have HP := Lib.hid hp
    obtain ⟨p1, p2, p3, p4, p5, p6⟩ := planV_bd hp
    clear hp
    have G : Hid (∀ w1, Below w0.heap.size w0 w1 → w1.cell? ⟨W.heap.size, 0, none⟩ = some (.int .i64 n) ∧ w1.cell? ⟨W.heap.size, 1, none⟩ = some (.int .i64 o) ∧ w1.cell? ⟨W.heap.size, 2, none⟩ = some (.int .i64 s) ∧ w1.cell? ⟨W.heap.size + 1, 0, none⟩ = some (.int .i64 N) ∧ w1.cell? ⟨W.heap.size + 1, 1, none⟩ = some (.slice a l.length c)) :=
      Lib.hid (fun w1 hb => ⟨(hb.cell (p := ⟨W.heap.size, 0, none⟩) l0).trans c0, (hb.cell (p := ⟨W.heap.size, 1, none⟩) l0).trans c1, (hb.cell (p := ⟨W.heap.size, 2, none⟩) l0).trans c2, (hb.cell (p := ⟨W.heap.size + 1, 0, none⟩) l3).trans c3, (hb.cell (p := ⟨W.heap.size + 1, 1, none⟩) l3).trans c4⟩)
    by_cases hN : N < 0 ∨ o ≤ N
    · have H := Lib.hid (show oneV n o s N l = 4 by unfold oneV; rw [if_neg (by simpa using HP.out), if_pos hN])
      go_enter Try.func52, Try.ntmps52
      go_wp2_with fail
      rw [← HW.out]
      refine (planCheck_any _ _ _ _).mono ?_
      rintro e w1 ⟨rfl, hb1⟩
      rw [HP.out]
      obtain ⟨d0, d1, d2, d3, d4⟩ := G.out w1 hb1
      have S1 := S0.step hb1
      clear c0 c1 c2 c3 c4 hb1
      rcases hN with hN | hN
      · go_wp2_with fail
        go_ret
        exact ⟨ret_int H.out.symm, S1.below⟩
      · have hN2 : 0 ≤ N := by omega
        go_wp2_with fail
        go_ret
        exact ⟨ret_int H.out.symm, S1.below⟩
    · have HN := Lib.hid hN
      have hN0 : 0 ≤ N := by omega
      have hN1 : N < o := by omega
      clear hN
      by_cases hl : (l.length : Int) = longV n o s
      · have hl1 : ((l.length : Int) != longV n o s) = false := by simpa using hl
        have HO := Lib.hid (show oneV n o s N l = allV l by unfold oneV; rw [if_neg (by simpa using HP.out), if_neg HN.out, if_neg (by simpa using hl)])
        clear hl
        go_enter Try.func52, Try.ntmps52
        go_wp2_with fail
        rw [← HW.out]
        refine (planCheck_any _ _ _ _).mono ?_
        rintro e w1 ⟨rfl, hb1⟩
        rw [HP.out]
        obtain ⟨d0, d1, d2, d3, d4⟩ := G.out w1 hb1
        have S1 := S0.step hb1
        have T1 := (Since.refl w0).step hb1
        clear c0 c1 c2 c3 c4 hb1
        go_wp2_with fail
        have L := Lib.hid (Long_any n o s w1.drew)
        go_region_law (go_simp; go_at_call 55; refine L.out.mono ?_; rintro e w2 ⟨rfl, hb2⟩; have T2 := T1.drew.step hb2; obtain ⟨e0, e1, e2, e3, e4⟩ := G.out w2 T2.below)
        all_goals
          have S2 := S1.drew.step hb2
          clear d0 d1 d2 d3 d4
          go_wp2_with fail
          have hl2 := hv0.stays T2.below
          clear e0 e1 e2 e3 e4
          obtain ⟨a', c', ee, _, _, hi⟩ := hl2.opened
          simp only [Value.slice.injEq] at ee
          obtain ⟨rfl, _, rfl⟩ := ee
          go_loop [33] (fun i => ∃ k : Nat, k ≤ l.length ∧ i = .int .i64 k ∧ allV (l.drop k) = allV l) (fun i => l.length - (intOf i).toNat)
          case atStart => exact ⟨0, by omega, rfl, rfl⟩
          case round =>
            obtain ⟨k, hk, rfl, hq⟩ := hrel
            have HQ := Lib.hid hq
            clear hq
            by_cases hlt : k < l.length
            · obtain ⟨b1, o1, z1, rfl, hc1, hz1, hi1⟩ := hi k hlt
              have HZ := Lib.hid (drop_get hz1)
              clear hz1
              by_cases n1 : 0 ≤ z1 ∧ z1 < 31
              · obtain ⟨n10, n11⟩ := n1
                go_wp2_with (go_at_call 44; refine (Check_yes _ _ (by omega) (by omega)).mono ?_; rintro e w' ⟨rfl, rfl⟩)
                go_round
                case rel =>
                  refine ⟨k + 1, by omega, by go_num, ?_⟩
                  rw [← HQ.out, HZ.out]
                  simp [allV, numOk_iff.2 ⟨n10, n11⟩]
                case measure => simp [intOf]; omega
              · go_wp2_with (go_at_call 44; refine (Check_no _ _ (by omega)).mono ?_; rintro e w' ⟨rfl, rfl⟩)
                go_ret
                refine ⟨ret_int ?_, S2.below⟩
                rw [HO.out, ← HQ.out, HZ.out]
                simp [allV, numOk_no.2 (show z1 < 0 ∨ 31 ≤ z1 by omega)]
            · obtain rfl : k = l.length := by omega
              go_wp2_with fail
              go_ret
              refine ⟨ret_int ?_, S2.below⟩
              rw [HO.out, ← HQ.out]
              simp [allV]
      · have hl1 : ((l.length : Int) != longV n o s) = true := by simpa using hl
        have HO := Lib.hid (show oneV n o s N l = 3 by unfold oneV; rw [if_neg (by simpa using HP.out), if_neg HN.out, if_pos hl])
        clear hl
        go_enter Try.func52, Try.ntmps52
        go_wp2_with fail
        rw [← HW.out]
        refine (planCheck_any _ _ _ _).mono ?_
        rintro e w1 ⟨rfl, hb1⟩
        rw [HP.out]
        obtain ⟨d0, d1, d2, d3, d4⟩ := G.out w1 hb1
        have S1 := S0.step hb1
        have T1 := (Since.refl w0).step hb1
        clear c0 c1 c2 c3 c4 hb1
        go_wp2_with fail
        have L := Lib.hid (Long_any n o s w1.drew)
        go_region_law (go_simp; go_at_call 55; refine L.out.mono ?_; rintro e w2 ⟨rfl, hb2⟩; have T2 := T1.drew.step hb2; obtain ⟨e0, e1, e2, e3, e4⟩ := G.out w2 T2.below)
        all_goals
          have S2 := S1.drew.step hb2
          clear d0 d1 d2 d3 d4
          go_wp2_with fail
          go_ret
          exact ⟨ret_int HO.out.symm, S2.below⟩
  · have H := Lib.hid (show oneV n o s N l = planV n o s by unfold oneV; rw [if_pos hp])
    have hne : (planV n o s != 0) = true := by simpa using hp
    clear hp
    go_enter Try.func52, Try.ntmps52
    go_wp2_with fail
    rw [← HW.out]
    refine (planCheck_any _ _ _ _).mono ?_
    rintro e w1 ⟨rfl, hb1⟩
    have S1 := S0.step hb1
    go_wp2_with fail
    go_ret
    exact ⟨ret_int H.out.symm, S1.below⟩

set_option maxRecDepth 100000 in
set_option maxHeartbeats 2000000 in
theorem CheckShare_any (n o s N : Int) (v : Value) (l : List Int) (W : World) (hv : IsInts W v l) :
    Calls Try.prog 102 #[.agg #[.int .i64 n, .int .i64 o, .int .i64 s], .agg #[.int .i64 N, v]] W fun e w' => e = .returned (.int .i64 (oneV n o s N l)) ∧ Below W.heap.size W w' := by
  obtain ⟨a, c, rfl, hc, ⟨hm, _⟩, _⟩ := hv.opened
  have S0 := ((Since.refl W).alloc (.cells #[.int .i64 n, .int .i64 o, .int .i64 s] 23)).alloc (.cells #[.int .i64 N, .slice a l.length c] 33)
  have hv0 := (hv.stays (below_alloc _ (.cells #[.int .i64 n, .int .i64 o, .int .i64 s] 23))).stays (below_alloc _ (.cells #[.int .i64 N, .slice a l.length c] 33))
  obtain ⟨w0, hw0⟩ : ∃ w0, w0 = (W.alloc (.cells #[.int .i64 n, .int .i64 o, .int .i64 s] 23)).alloc (.cells #[.int .i64 N, .slice a l.length c] 33) := ⟨_, rfl⟩
  have c0 : w0.cell? ⟨W.heap.size, 0, none⟩ = some (.int .i64 n) := by rw [hw0]; go_simp
  have c1 : w0.cell? ⟨W.heap.size, 1, none⟩ = some (.int .i64 o) := by rw [hw0]; go_simp
  have c2 : w0.cell? ⟨W.heap.size, 2, none⟩ = some (.int .i64 s) := by rw [hw0]; go_simp
  have c3 : w0.cell? ⟨W.heap.size + 1, 0, none⟩ = some (.int .i64 N) := by rw [hw0]; go_simp
  have c4 : w0.cell? ⟨W.heap.size + 1, 1, none⟩ = some (.slice a l.length c) := by rw [hw0]; go_simp
  rw [← hw0] at S0 hv0
  have HW := Lib.hid hw0
  clear hw0 hv
  have l0 := cell_lt c0
  have l3 := cell_lt c3
  by_cases hp : planV n o s = 0
  · have HP := Lib.hid hp
    obtain ⟨p1, p2, p3, p4, p5, p6⟩ := planV_bd hp
    clear hp
    have G : Hid (∀ w1, Below w0.heap.size w0 w1 → w1.cell? ⟨W.heap.size, 0, none⟩ = some (.int .i64 n) ∧ w1.cell? ⟨W.heap.size, 1, none⟩ = some (.int .i64 o) ∧ w1.cell? ⟨W.heap.size, 2, none⟩ = some (.int .i64 s) ∧ w1.cell? ⟨W.heap.size + 1, 0, none⟩ = some (.int .i64 N) ∧ w1.cell? ⟨W.heap.size + 1, 1, none⟩ = some (.slice a l.length c)) :=
      Lib.hid (fun w1 hb => ⟨(hb.cell (p := ⟨W.heap.size, 0, none⟩) l0).trans c0, (hb.cell (p := ⟨W.heap.size, 1, none⟩) l0).trans c1, (hb.cell (p := ⟨W.heap.size, 2, none⟩) l0).trans c2, (hb.cell (p := ⟨W.heap.size + 1, 0, none⟩) l3).trans c3, (hb.cell (p := ⟨W.heap.size + 1, 1, none⟩) l3).trans c4⟩)
    by_cases hN : N < 0 ∨ o ≤ N
    · have H := Lib.hid (show oneV n o s N l = 4 by unfold oneV; rw [if_neg (by simpa using HP.out), if_pos hN])
      go_enter Try.func102, Try.ntmps102
      go_wp2_with fail
      rw [← HW.out]
      refine (CheckPlan_any _ _ _ _).mono ?_
      rintro e w1 ⟨rfl, hb1⟩
      rw [HP.out]
      obtain ⟨d0, d1, d2, d3, d4⟩ := G.out w1 hb1
      have S1 := S0.step hb1
      clear c0 c1 c2 c3 c4 hb1
      rcases hN with hN | hN
      · go_wp2_with fail
        go_ret
        exact ⟨ret_int H.out.symm, S1.below⟩
      · have hN2 : 0 ≤ N := by omega
        go_wp2_with fail
        go_ret
        exact ⟨ret_int H.out.symm, S1.below⟩
    · have HN := Lib.hid hN
      have hN0 : 0 ≤ N := by omega
      have hN1 : N < o := by omega
      clear hN
      by_cases hl : (l.length : Int) = longV n o s
      · have hl1 : ((l.length : Int) != longV n o s) = false := by simpa using hl
        have HO := Lib.hid (show oneV n o s N l = allV l by unfold oneV; rw [if_neg (by simpa using HP.out), if_neg HN.out, if_neg (by simpa using hl)])
        clear hl
        go_enter Try.func102, Try.ntmps102
        go_wp2_with fail
        rw [← HW.out]
        refine (CheckPlan_any _ _ _ _).mono ?_
        rintro e w1 ⟨rfl, hb1⟩
        rw [HP.out]
        obtain ⟨d0, d1, d2, d3, d4⟩ := G.out w1 hb1
        have S1 := S0.step hb1
        have T1 := (Since.refl w0).step hb1
        clear c0 c1 c2 c3 c4 hb1
        go_wp2_with fail
        have L := Lib.hid (RowsOf_any n o s w1.drew)
        go_region_law (go_simp; go_at_call 105; refine L.out.mono ?_; rintro e w2 ⟨rfl, hb2⟩; have T2 := T1.drew.step hb2; obtain ⟨e0, e1, e2, e3, e4⟩ := G.out w2 T2.below)
        all_goals
          have S2 := S1.drew.step hb2
          clear d0 d1 d2 d3 d4
          go_wp2_with fail
          have hl2 := hv0.stays T2.below
          clear e0 e1 e2 e3 e4
          obtain ⟨a', c', ee, _, _, hi⟩ := hl2.opened
          simp only [Value.slice.injEq] at ee
          obtain ⟨rfl, _, rfl⟩ := ee
          go_loop [35] (fun i => ∃ k : Nat, k ≤ l.length ∧ i = .int .i64 k ∧ allV (l.drop k) = allV l) (fun i => l.length - (intOf i).toNat)
          case atStart => exact ⟨0, by omega, rfl, rfl⟩
          case round =>
            obtain ⟨k, hk, rfl, hq⟩ := hrel
            have HQ := Lib.hid hq
            clear hq
            by_cases hlt : k < l.length
            · obtain ⟨b1, o1, z1, rfl, hc1, hz1, hi1⟩ := hi k hlt
              have HZ := Lib.hid (drop_get hz1)
              clear hz1
              by_cases n1 : 0 ≤ z1 ∧ z1 < 31
              · obtain ⟨n10, n11⟩ := n1
                have in1 := isNum_true n10 n11
                go_wp2_with (go_at_call 126; refine (IsNumber_any _ _).mono ?_; rintro e w' ⟨rfl, rfl⟩)
                go_round
                case rel =>
                  refine ⟨k + 1, by omega, by go_num, ?_⟩
                  rw [← HQ.out, HZ.out]
                  simp [allV, numOk_iff.2 ⟨n10, n11⟩]
                case measure => simp [intOf]; omega
              · have in1 := isNum_false (a := z1) (by omega)
                go_wp2_with (go_at_call 126; refine (IsNumber_any _ _).mono ?_; rintro e w' ⟨rfl, rfl⟩)
                go_ret
                refine ⟨ret_int ?_, S2.below⟩
                rw [HO.out, ← HQ.out, HZ.out]
                simp [allV, numOk_no.2 (show z1 < 0 ∨ 31 ≤ z1 by omega)]
            · obtain rfl : k = l.length := by omega
              go_wp2_with fail
              go_ret
              refine ⟨ret_int ?_, S2.below⟩
              rw [HO.out, ← HQ.out]
              simp [allV]
      · have hl1 : ((l.length : Int) != longV n o s) = true := by simpa using hl
        have HO := Lib.hid (show oneV n o s N l = 3 by unfold oneV; rw [if_neg (by simpa using HP.out), if_neg HN.out, if_pos hl])
        clear hl
        go_enter Try.func102, Try.ntmps102
        go_wp2_with fail
        rw [← HW.out]
        refine (CheckPlan_any _ _ _ _).mono ?_
        rintro e w1 ⟨rfl, hb1⟩
        rw [HP.out]
        obtain ⟨d0, d1, d2, d3, d4⟩ := G.out w1 hb1
        have S1 := S0.step hb1
        have T1 := (Since.refl w0).step hb1
        clear c0 c1 c2 c3 c4 hb1
        go_wp2_with fail
        have L := Lib.hid (RowsOf_any n o s w1.drew)
        go_region_law (go_simp; go_at_call 105; refine L.out.mono ?_; rintro e w2 ⟨rfl, hb2⟩; have T2 := T1.drew.step hb2; obtain ⟨e0, e1, e2, e3, e4⟩ := G.out w2 T2.below)
        all_goals
          have S2 := S1.drew.step hb2
          clear d0 d1 d2 d3 d4
          go_wp2_with fail
          go_ret
          exact ⟨ret_int HO.out.symm, S2.below⟩
  · have H := Lib.hid (show oneV n o s N l = planV n o s by unfold oneV; rw [if_pos hp])
    have hne : (planV n o s != 0) = true := by simpa using hp
    clear hp
    go_enter Try.func102, Try.ntmps102
    go_wp2_with fail
    rw [← HW.out]
    refine (CheckPlan_any _ _ _ _).mono ?_
    rintro e w1 ⟨rfl, hb1⟩
    have S1 := S0.step hb1
    go_wp2_with fail
    go_ret
    exact ⟨ret_int H.out.symm, S1.below⟩

end Go.Proofs.Ytnpdojjffbhalaa
