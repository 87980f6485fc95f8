/-
  share.Join where the plan is wrong, where there are too many, or too few; Join whole.
-/
import Derived.Test.YtnpdojjffbhalaaJoin
namespace Go.Proofs.Ytnpdojjffbhalaa
open Go.RowKit

set_option maxRecDepth 100000 in
set_option maxHeartbeats 4000000 in
theorem Join_plan (n o s : Int) (v : Value) (ls : List Sh) (W : World) (hd : IsShares W v ls) (hp : planV n o s ≠ 0) :
    Calls Try.prog 22 #[.agg #[.int .i64 n, .int .i64 o, .int .i64 s], v] W fun e w' => e = .returned (.tuple #[.slice none 0 0, .int .i64 (planV n o s)]) ∧ Below W.heap.size W w' := by
  obtain ⟨a, c, rfl, _⟩ := hd.opened
  have S0 := (Since.refl W).alloc (.cells #[.int .i64 n, .int .i64 o, .int .i64 s] 23)
  have c0 : (W.alloc (.cells #[.int .i64 n, .int .i64 o, .int .i64 s] 23)).cell? ⟨W.heap.size, 0, none⟩ = some (.int .i64 n) := by go_simp
  have c1 : (W.alloc (.cells #[.int .i64 n, .int .i64 o, .int .i64 s] 23)).cell? ⟨W.heap.size, 1, none⟩ = some (.int .i64 o) := by go_simp
  have c2 : (W.alloc (.cells #[.int .i64 n, .int .i64 o, .int .i64 s] 23)).cell? ⟨W.heap.size, 2, none⟩ = some (.int .i64 s) := by go_simp
  obtain ⟨w0, hw0⟩ : ∃ w0, w0 = W.alloc (.cells #[.int .i64 n, .int .i64 o, .int .i64 s] 23) := ⟨_, rfl⟩
  rw [← hw0] at S0 c0 c1 c2
  have HW := Lib.hid hw0
  clear hw0
  obtain ⟨B, hB⟩ : ∃ B, B = W.heap.size := ⟨_, rfl⟩
  rw [← hB] at c0 c1 c2
  have HB := Lib.hid hB
  clear hB
  have l0 := cell_lt c0
  have hne : (planV n o s != 0) = true := by simpa using hp
  clear hd
  go_enter Try.func22, Try.ntmps22
  go_wp2_with fail
  rw [← HW.out, ← HB.out]
  refine (planCheck_any _ _ _ _).mono ?_
  rintro e w1 ⟨rfl, hb1⟩
  have S1 := S0.step hb1
  clear c0 c1 c2
  go_wp2_with fail
  go_ret2
  exact ⟨rfl, S1.below⟩

set_option maxRecDepth 100000 in
set_option maxHeartbeats 4000000 in
theorem Join_many (n o s : Int) (v : Value) (ls : List Sh) (W : World) (hd : IsShares W v ls) (hp : planV n o s = 0) (hl : 8 < (ls.length : Int)) :
    Calls Try.prog 22 #[.agg #[.int .i64 n, .int .i64 o, .int .i64 s], v] W fun e w' => e = .returned (.tuple #[.slice none 0 0, .int .i64 1]) ∧ Below W.heap.size W w' := by
  obtain ⟨a, c, rfl, hcap, ⟨hm, hcm, hnone⟩, _⟩ := hd.opened
  have S0 := (Since.refl W).alloc (.cells #[.int .i64 n, .int .i64 o, .int .i64 s] 23)
  have c0 : (W.alloc (.cells #[.int .i64 n, .int .i64 o, .int .i64 s] 23)).cell? ⟨W.heap.size, 0, none⟩ = some (.int .i64 n) := by go_simp
  have c1 : (W.alloc (.cells #[.int .i64 n, .int .i64 o, .int .i64 s] 23)).cell? ⟨W.heap.size, 1, none⟩ = some (.int .i64 o) := by go_simp
  have c2 : (W.alloc (.cells #[.int .i64 n, .int .i64 o, .int .i64 s] 23)).cell? ⟨W.heap.size, 2, none⟩ = some (.int .i64 s) := by go_simp
  obtain ⟨w0, hw0⟩ : ∃ w0, w0 = W.alloc (.cells #[.int .i64 n, .int .i64 o, .int .i64 s] 23) := ⟨_, rfl⟩
  rw [← hw0] at S0 c0 c1 c2
  have HW := Lib.hid hw0
  clear hw0
  obtain ⟨B, hB⟩ : ∃ B, B = W.heap.size := ⟨_, rfl⟩
  rw [← hB] at c0 c1 c2
  have HB := Lib.hid hB
  clear hB
  have l0 := cell_lt c0
  have HP := Lib.hid hp
  clear hp hd
  go_enter Try.func22, Try.ntmps22
  go_wp2_with fail
  rw [← HW.out, ← HB.out]
  refine (planCheck_any _ _ _ _).mono ?_
  rintro e w1 ⟨rfl, hb1⟩
  rw [HP.out]
  have S1 := S0.step hb1
  clear c0 c1 c2
  go_wp2_with fail
  go_ret2
  exact ⟨rfl, S1.below⟩

set_option maxRecDepth 100000 in
set_option maxHeartbeats 4000000 in
theorem Join_short (n o s : Int) (v : Value) (ls : List Sh) (W : World) (hd : IsShares W v ls) (hp : planV n o s = 0) (hl : ls.length ≤ 8) (hE : checkL n o s [] ls = 0) (hsh : (ls.length : Int) < n) :
    Calls Try.prog 22 #[.agg #[.int .i64 n, .int .i64 o, .int .i64 s], v] W fun e w' => e = .returned (.tuple #[.slice none 0 0, .int .i64 7]) ∧ Below W.heap.size W w' := by
  obtain ⟨a, c, rfl, hcap, ⟨hm, hcm, hnone⟩, _⟩ := hd.opened
  have S0 := (Since.refl W).alloc (.cells #[.int .i64 n, .int .i64 o, .int .i64 s] 23)
  have hd0 := hd.stays (below_alloc _ (.cells #[.int .i64 n, .int .i64 o, .int .i64 s] 23))
  have c0 : (W.alloc (.cells #[.int .i64 n, .int .i64 o, .int .i64 s] 23)).cell? ⟨W.heap.size, 0, none⟩ = some (.int .i64 n) := by go_simp
  have c1 : (W.alloc (.cells #[.int .i64 n, .int .i64 o, .int .i64 s] 23)).cell? ⟨W.heap.size, 1, none⟩ = some (.int .i64 o) := by go_simp
  have c2 : (W.alloc (.cells #[.int .i64 n, .int .i64 o, .int .i64 s] 23)).cell? ⟨W.heap.size, 2, none⟩ = some (.int .i64 s) := by go_simp
  obtain ⟨w0, hw0⟩ : ∃ w0, w0 = W.alloc (.cells #[.int .i64 n, .int .i64 o, .int .i64 s] 23) := ⟨_, rfl⟩
  rw [← hw0] at S0 hd0 c0 c1 c2
  have HW := Lib.hid hw0
  clear hw0
  obtain ⟨B, hB⟩ : ∃ B, B = W.heap.size := ⟨_, rfl⟩
  rw [← hB] at c0 c1 c2
  have HB := Lib.hid hB
  clear hB
  have l0 := cell_lt c0
  have HP := Lib.hid hp
  have HE := Lib.hid hE
  clear hp hE hd
  go_enter Try.func22, Try.ntmps22
  go_wp2_with fail
  rw [← HW.out, ← HB.out]
  refine (planCheck_any _ _ _ _).mono ?_
  rintro e w1 ⟨rfl, hb1⟩
  rw [HP.out]
  have T1 := (Since.refl w0).step hb1
  clear hb1
  go_wp2_with fail
  go_loopw [35] (fun i wr => ∃ k : Nat, k ≤ ls.length ∧ i = .int .i64 k ∧ Since w0.heap.size w0 wr ∧ checkL n o s (ls.take k) (ls.drop k) = 0) (fun i _ => ls.length - (intOf i).toNat)
  case atStart => exact ⟨0, by omega, rfl, T1, by simpa using HE.out⟩
  case round =>
    obtain ⟨k, hk, rfl, hS, hq⟩ := hrel
    have hdr := hd0.stays hS.below
    clear T1
    by_cases hlt : k < ls.length
    · obtain ⟨a', c', ee, _, _, hi⟩ := hdr.opened
      simp only [Value.slice.injEq] at ee
      obtain ⟨rfl, _, rfl⟩ := ee
      obtain ⟨b1, o1, v1, s1, rfl, h1, h2, h3, h4, h5⟩ := hi k hlt
      rw [drop_get h4] at hq
      have hone : oneV n o s s1.1 s1.2 = 0 := by
        unfold checkL at hq
        split at hq
        · rename_i g; exact absurd hq g
        · rename_i g; simpa using g
      have hhas : hasN (ls.take k) s1.1 = false := by
        unfold checkL at hq
        rw [if_neg (by simpa using hone)] at hq
        split at hq
        · simp at hq
        · rename_i g; simpa using g
      have hnx : checkL n o s (ls.take (k + 1)) (ls.drop (k + 1)) = 0 := by
        unfold checkL at hq
        rw [if_neg (by simpa using hone), if_neg (by simpa using hhas)] at hq
        rw [List.take_add_one, h4]
        exact hq
      have HNX := Lib.hid hnx
      have HO := Lib.hid hone
      have HH := Lib.hid hhas
      clear h4 hi hq hnx hone hhas
      obtain ⟨a1, k1, rfl, _⟩ := h3.opened
      have S2 := hS.alloc (.cells #[.int .i64 s1.1, .slice a1 s1.2.length k1] 33)
      have hdr2 := hdr.stays (below_alloc wr (.cells #[.int .i64 s1.1, .slice a1 s1.2.length k1] 33))
      have h32 := h3.stays (below_alloc wr (.cells #[.int .i64 s1.1, .slice a1 s1.2.length k1] 33))
      have e0 := (S2.below.cell (p := ⟨B, 0, none⟩) l0).trans c0
      have e1 := (S2.below.cell (p := ⟨B, 1, none⟩) l0).trans c1
      have e2 := (S2.below.cell (p := ⟨B, 2, none⟩) l0).trans c2
      have e3 : (wr.alloc (.cells #[.int .i64 s1.1, .slice a1 s1.2.length k1] 33)).cell? ⟨wr.heap.size, 0, none⟩ = some (.int .i64 s1.1) := by go_simp
      have e4 : (wr.alloc (.cells #[.int .i64 s1.1, .slice a1 s1.2.length k1] 33)).cell? ⟨wr.heap.size, 1, none⟩ = some (.slice a1 s1.2.length k1) := by go_simp
      have l3 := cell_lt e3
      have hdk := hdr2.take k hk c (by omega) hcm hnone
      have hkc : k ≤ c := by omega
      go_wp2_with fail
      refine (One_any _ _ _ _ _ _ _ h32).mono ?_
      rintro e w3 ⟨rfl, hb3⟩
      rw [HO.out]
      have S3 := S2.step hb3
      have hdk3 := hdk.stays hb3
      have e33 := (hb3.cell (p := ⟨wr.heap.size, 0, none⟩) l3).trans e3
      clear e0 e1 e2 e3 e4 h1 h2 hdr hdr2 hdk hb3
      go_wp2_with fail
      refine (ContainsShares_any _ _ _ _ _ hdk3 e33).mono ?_
      rintro e w4 ⟨rfl, hb4⟩
      rw [HH.out]
      have S4 := S3.step hb4
      go_wp2_with fail
      go_roundw
      case rel => exact ⟨k + 1, by omega, by go_num, S4, HNX.out⟩
      case measure => simp [intOf]; omega
    · obtain rfl : k = ls.length := by omega
      clear hq hlt hk
      have d0 := (hS.below.cell (p := ⟨B, 0, none⟩) l0).trans c0
      go_wp2_with fail
      go_ret2
      exact ⟨rfl, (S0.step hS.below).below⟩

/-- What Join answers. -/
theorem Join_any (n o s : Int) (v : Value) (ls : List Sh) (W : World) (hd : IsShares W v ls) (hx : checksL n o s ls ≠ 0) :
    Calls Try.prog 22 #[.agg #[.int .i64 n, .int .i64 o, .int .i64 s], v] W fun e w' => e = .returned (.tuple #[.slice none 0 0, .int .i64 (checksL n o s ls)]) ∧ Below W.heap.size W w' := by
  by_cases h1 : planV n o s = 0
  · by_cases h2 : 8 < (ls.length : Int)
    · have e : checksL n o s ls = 1 := by unfold checksL; rw [if_neg (by simpa using h1), if_pos h2]
      rw [e]
      exact Join_many n o s v ls W hd h1 h2
    · by_cases h3 : checkL n o s [] ls = 0
      · by_cases h4 : (ls.length : Int) < n
        · have e : checksL n o s ls = 7 := by unfold checksL; rw [if_neg (by simpa using h1), if_neg h2, if_neg (by simpa using h3), if_pos h4]
          rw [e]
          exact Join_short n o s v ls W hd h1 (by omega) h3 h4
        · exfalso
          apply hx
          unfold checksL
          rw [if_neg (by simpa using h1), if_neg h2, if_neg (by simpa using h3), if_neg h4]
      · have e : checksL n o s ls = checkL n o s [] ls := by unfold checksL; rw [if_neg (by simpa using h1), if_neg h2, if_pos h3]
        rw [e]
        exact Join_no n o s v ls W hd h1 (by omega) h3
  · have e : checksL n o s ls = planV n o s := by unfold checksL; rw [if_pos h1]
    rw [e]
    exact Join_plan n o s v ls W hd h1

end Go.Proofs.Ytnpdojjffbhalaa
