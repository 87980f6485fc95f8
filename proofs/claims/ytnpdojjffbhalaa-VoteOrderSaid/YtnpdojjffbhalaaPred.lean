/-
  Closures of share.Join; slices.IndexFunc and slices.ContainsFunc at shares and at ints, with them.
-/
import Derived.Test.YtnpdojjffbhalaaShare
import Derived.Test.YtnpdojjffbhalaaBase
namespace Go.Proofs.Ytnpdojjffbhalaa
open Go.RowKit

theorem ret_boolP {a b : Bool} (h : a = b) : Ending.returned (.bool a) = .returned (.bool b) := by rw [h]

theorem JoinFirst_any (N M : Int) (v : Value) (l : List Int) (b : Nat) (W : World) (hv : IsInts W v l) (hc : W.cell? ⟨b, 0, none⟩ = some (.int .i64 M)) :
    Calls Try.prog 54 #[.agg #[.int .i64 N, v], .pointer (some ⟨b, 0, none⟩)] W fun e w' => e = .returned (.bool (decide (N = M))) ∧ Below W.heap.size W w' := by
  obtain ⟨a, c, rfl, _⟩ := hv.opened
  have S0 := (Since.refl W).alloc (.cells #[.int .i64 N, .slice a l.length c] 33)
  have lc := cell_lt hc
  have hc' := (S0.below.cell (p := ⟨b, 0, none⟩) lc).trans hc
  have h0 : (W.alloc (.cells #[.int .i64 N, .slice a l.length c] 33)).cell? ⟨W.heap.size, 0, none⟩ = some (.int .i64 N) := by go_simp
  clear hc hv
  go_enter Try.func54, Try.ntmps54
  go_wp2_with (go_quiet (fail))
  go_ret
  exact ⟨ret_boolP rfl, S0.below⟩

theorem JoinZero_any (N : Int) (W : World) :
    Calls Try.prog 57 #[.int .i64 N] W fun e w' => e = .returned (.bool (decide (N ≠ 0))) ∧ Below W.heap.size W w' := by
  by_cases h : N = 0
  · have hd : decide (N ≠ 0) = false := by simpa using h
    have hd2 : (N != 0) = false := by simpa using h
    rw [hd]
    go_enter Try.func57, Try.ntmps57
    go_wp2
    go_ret
    exact ⟨rfl, Below.refl _ _⟩
  · have hd : decide (N ≠ 0) = true := by simpa using h
    have hd2 : (N != 0) = true := by simpa using h
    rw [hd]
    go_enter Try.func57, Try.ntmps57
    go_wp2
    go_ret
    exact ⟨rfl, Below.refl _ _⟩

/-- Is one of them of this number? -/
def hasN (ls : List Sh) (M : Int) : Bool := ls.any fun s => decide (s.1 = M)

set_option maxRecDepth 100000 in
set_option maxHeartbeats 1000000 in
theorem IndexShares_any (v : Value) (ls : List Sh) (M : Int) (b : Nat) (W : World) (hv : IsShares W v ls) (hc : W.cell? ⟨b, 0, none⟩ = some (.int .i64 M)) :
    Calls Try.prog 99 #[v, .func (.func 54) #[] #[.pointer (some ⟨b, 0, none⟩)]] W fun e w' => (∃ r : Int, e = .returned (.int .i64 r) ∧ decide (0 ≤ r) = hasN ls M ∧ -1 ≤ r ∧ r ≤ 9223372036854775807) ∧ Below W.heap.size W w' := by
  obtain ⟨a, c, rfl, hcap, ⟨hm, hcm, _⟩, hi⟩ := hv.opened
  have lc := cell_lt hc
  clear hv
  go_enter Try.func99, Try.ntmps99
  go_wp2_with fail
  go_loopw [8] (fun i wr => ∃ k : Nat, k ≤ ls.length ∧ i = .int .i64 k ∧ Since W.heap.size W wr ∧ hasN (ls.drop k) M = hasN ls M) (fun i _ => ls.length - (intOf i).toNat)
  case atStart => exact ⟨0, by omega, rfl, Since.refl W, rfl⟩
  case round =>
    obtain ⟨k, hk, rfl, hS, hq⟩ := hrel
    have HQ := Lib.hid hq
    clear hq
    by_cases hlt : k < ls.length
    · obtain ⟨b1, o1, v1, s1, rfl, h1, h2, h3, h4, h5⟩ := hi k hlt
      have HD := Lib.hid (drop_get h4)
      clear h4
      obtain ⟨a1, c1, rfl, _⟩ := h3.opened
      have l1 := cell_lt h1
      have hcr := (hS.below.cell (p := ⟨b, 0, none⟩) lc).trans hc
      have g1 := (hS.below.cell (p := ⟨b1, o1 + k * 2, none⟩) l1).trans h1
      have g2 := (hS.below.cell (p := ⟨b1, o1 + k * 2 + 1, none⟩) l1).trans h2
      have h3r := h3.stays hS.below
      by_cases hN : s1.1 = M
      · have hd : decide (s1.1 = M) = true := by simpa using hN
        have HH := Lib.hid (show hasN ls M = true by rw [← HQ.out, HD.out]; simp [hasN, hN])
        clear hN
        go_wp2_with (go_at_call 54; refine (JoinFirst_any _ M _ _ b _ h3r hcr).mono ?_; rintro e w' ⟨rfl, hb'⟩; rw [hd])
        go_ret
        refine ⟨⟨k, rfl, ?_, by omega, by omega⟩, (hS.step hb').below⟩
        rw [HH.out]
        simp
      · have hd : decide (s1.1 = M) = false := by simpa using hN
        have HH := Lib.hid (show hasN (ls.drop (k + 1)) M = hasN ls M by rw [← HQ.out, HD.out]; simp [hasN, hN])
        clear hN
        go_wp2_with (go_at_call 54; refine (JoinFirst_any _ M _ _ b _ h3r hcr).mono ?_; rintro e w' ⟨rfl, hb'⟩; rw [hd])
        go_roundw
        case rel => exact ⟨k + 1, by omega, by go_num, hS.step hb', HH.out⟩
        case measure => simp [intOf]; omega
    · obtain rfl : ls.length = k := by omega
      go_wp2_with fail
      go_ret
      refine ⟨⟨-1, rfl, ?_, by omega, by omega⟩, hS.below⟩
      rw [← HQ.out]
      simp [hasN]

theorem ContainsShares_any (v : Value) (ls : List Sh) (M : Int) (b : Nat) (W : World) (hv : IsShares W v ls) (hc : W.cell? ⟨b, 0, none⟩ = some (.int .i64 M)) :
    Calls Try.prog 53 #[v, .func (.func 54) #[] #[.pointer (some ⟨b, 0, none⟩)]] W fun e w' => e = .returned (.bool (hasN ls M)) ∧ Below W.heap.size W w' := by
  have hcall := IndexShares_any v ls M b W hv hc
  obtain ⟨a, c, rfl, _⟩ := hv.opened
  clear hv
  obtain ⟨H, hH⟩ : ∃ H, H = hasN ls M := ⟨_, rfl⟩
  rw [← hH] at hcall ⊢
  clear hH
  go_enter Try.func53, Try.ntmps53
  go_wp2_with fail
  refine hcall.mono ?_
  rintro e w' ⟨⟨r, rfl, hr, _⟩, hb⟩
  cases H with
  | true => go_wp2_with fail
            go_ret
            exact ⟨rfl, hb⟩
  | false => go_wp2_with fail
             go_ret
             exact ⟨rfl, hb⟩

/-- Is one of them not 0? -/
def hasNot (l : List Int) : Bool := l.any fun z => decide (z ≠ 0)

set_option maxRecDepth 100000 in
set_option maxHeartbeats 1000000 in
theorem IndexInts_any (v : Value) (l : List Int) (W : World) (hv : IsInts W v l) :
    Calls Try.prog 100 #[v, .func (.func 57) #[] #[]] W fun e w' => (∃ r : Int, e = .returned (.int .i64 r) ∧ decide (0 ≤ r) = hasNot l ∧ -1 ≤ r ∧ r ≤ 9223372036854775807) ∧ Below W.heap.size W w' := by
  obtain ⟨a, c, rfl, hcap, ⟨hm, hcm, _⟩, hi⟩ := hv.opened
  clear hv
  go_enter Try.func100, Try.ntmps100
  go_wp2_with fail
  go_loopw [8] (fun i wr => ∃ k : Nat, k ≤ l.length ∧ i = .int .i64 k ∧ Since W.heap.size W wr ∧ hasNot (l.drop k) = hasNot l) (fun i _ => l.length - (intOf i).toNat)
  case atStart => exact ⟨0, by omega, rfl, Since.refl W, rfl⟩
  case round =>
    obtain ⟨k, hk, rfl, hS, hq⟩ := hrel
    have HQ := Lib.hid hq
    clear hq
    by_cases hlt : k < l.length
    · obtain ⟨b1, o1, z1, rfl, h1, h4, h5⟩ := hi k hlt
      have HD := Lib.hid (drop_get h4)
      clear h4
      have l1 := cell_lt h1
      have g1 := (hS.below.cell (p := ⟨b1, o1 + k, none⟩) l1).trans h1
      by_cases hN : z1 = 0
      · have hd : decide (z1 ≠ 0) = false := by simpa using hN
        have HH := Lib.hid (show hasNot (l.drop (k + 1)) = hasNot l by rw [← HQ.out, HD.out]; simp [hasNot, hN])
        clear hN
        go_wp2_with (go_at_call 57; refine (JoinZero_any _ _).mono ?_; rintro e w' ⟨rfl, hb'⟩; rw [hd])
        go_roundw
        case rel => exact ⟨k + 1, by omega, by go_num, hS.step hb', HH.out⟩
        case measure => simp [intOf]; omega
      · have hd : decide (z1 ≠ 0) = true := by simpa using hN
        have HH := Lib.hid (show hasNot l = true by rw [← HQ.out, HD.out]; simp [hasNot, hN])
        clear hN
        go_wp2_with (go_at_call 57; refine (JoinZero_any _ _).mono ?_; rintro e w' ⟨rfl, hb'⟩; rw [hd])
        go_ret
        refine ⟨⟨k, rfl, ?_, by omega, by omega⟩, (hS.step hb').below⟩
        rw [HH.out]
        simp
    · obtain rfl : l.length = k := by omega
      go_wp2_with fail
      go_ret
      refine ⟨⟨-1, rfl, ?_, by omega, by omega⟩, hS.below⟩
      rw [← HQ.out]
      simp [hasNot]

theorem ContainsInts_any (v : Value) (l : List Int) (W : World) (hv : IsInts W v l) :
    Calls Try.prog 56 #[v, .func (.func 57) #[] #[]] W fun e w' => e = .returned (.bool (hasNot l)) ∧ Below W.heap.size W w' := by
  have hcall := IndexInts_any v l W hv
  obtain ⟨a, c, rfl, _⟩ := hv.opened
  clear hv
  obtain ⟨H, hH⟩ : ∃ H, H = hasNot l := ⟨_, rfl⟩
  rw [← hH] at hcall ⊢
  clear hH
  go_enter Try.func56, Try.ntmps56
  go_wp2_with fail
  refine hcall.mono ?_
  rintro e w' ⟨⟨r, rfl, hr, _⟩, hb⟩
  cases H with
  | true => go_wp2_with fail
            go_ret
            exact ⟨rfl, hb⟩
  | false => go_wp2_with fail
             go_ret
             exact ⟨rfl, hb⟩

end Go.Proofs.Ytnpdojjffbhalaa
