/-
  The walk of VoteSays: what most are of is told as the reference tells it.
-/
import Derived.Test.YtmlkjepfepmcgaaElect
import Derived.Test.YtmlkjepfepmcgaaMosts
import Derived.Test.YtmlkjepfepmcgaaReadShares
import Derived.Deep.RegionHeld3
namespace Go.Proofs.Ytmlkjepfepmcgaa
open Go.RowKit

set_option maxRecDepth 100000 in
set_option maxHeartbeats 4000000 in
theorem voteSays_all (n o s : Int) (vl : Value) (ls : List Sh) (W : World) (hl : IsShares W vl ls) :
    Calls Try.prog 3 #[.agg #[.int .i64 n, .int .i64 o, .int .i64 s], vl] W fun e w' => e = .returned (.bool true) ∧ Below W.heap.size W w' := by
  obtain ⟨al, cl, rfl, _⟩ := hl.opened
  have HL : Hid (∀ w', Since W.heap.size W w' → IsShares w' (.slice al ls.length cl) ls) := Lib.hid (fun w' q => shares_stays hl q.below)
  have S0 := (Since.refl W).alloc (.cells #[.int .i64 n, .int .i64 o, .int .i64 s] 23)
  have c0 : (W.alloc (.cells #[.int .i64 n, .int .i64 o, .int .i64 s] 23)).cell? ⟨W.heap.size, 0, none⟩ = some (.int .i64 n) := by go_simp
  have c1 : (W.alloc (.cells #[.int .i64 n, .int .i64 o, .int .i64 s] 23)).cell? ⟨W.heap.size, 1, none⟩ = some (.int .i64 o) := by go_simp
  have c2 : (W.alloc (.cells #[.int .i64 n, .int .i64 o, .int .i64 s] 23)).cell? ⟨W.heap.size, 2, none⟩ = some (.int .i64 s) := by go_simp
  clear hl
  go_enter Try.func3, Try.ntmps3
  go_upto_region 1 with fail
  generalize W.alloc (.cells #[.int .i64 n, .int .i64 o, .int .i64 s] 23) = w0 at *
  obtain ⟨B, hB⟩ : ∃ B, B = W.heap.size := ⟨_, rfl⟩
  rw [← hB] at c0 c1 c2 ⊢
  have HB := Lib.hid hB
  clear hB
  obtain ⟨E, hE⟩ : ∃ E, E = mostE n o s ls := ⟨_, rfl⟩
  obtain ⟨D, hD⟩ : ∃ D, D = mostB n o s ls := ⟨_, rfl⟩
  obtain ⟨X, hX⟩ : ∃ X, X = mostW n o s ls := ⟨_, rfl⟩
  have HE := Lib.hid hE
  have HD := Lib.hid hD
  have HX := Lib.hid hX
  clear hE hD hX
  go_upto_region 2 with (go_at_call 4; go_fit (Most_any n o s _ ls w0 (HL.out w0 S0)); rintro e w1 ⟨⟨v1, v2, rfl, hi1, hi2⟩, hb1⟩; rw [← HE.out]; obtain ⟨a1, m1, rfl, _⟩ := hi1.opened; obtain ⟨a2, m2, rfl, _⟩ := hi2.opened)
  rw [← HD.out] at hi1 ⊢
  rw [← HX.out] at hi2 ⊢
  have S1 := S0.step hb1
  have d0 := below_cell hb1 c0
  have d1 := below_cell hb1 c1
  have d2 := below_cell hb1 c2
  clear c0 c1 c2 hb1
  go_upto_region 3 with (go_at_call 5; go_fit (Elect_any n o s _ ls w1 (HL.out w1 S1)); rintro e w2 ⟨⟨v3, v4, rfl, hi3, hi4⟩, hb2⟩; rw [← HE.out]; obtain ⟨a3, m3, rfl, _⟩ := hi3.opened; obtain ⟨a4, m4, rfl, _⟩ := hi4.opened)
  rw [← HD.out] at hi3 ⊢
  rw [← HX.out] at hi4 ⊢
  have S2 := S1.step hb2
  have H1 := Lib.hid (hi1.stays hb2)
  have H2 := Lib.hid (hi2.stays hb2)
  have H3 := Lib.hid hi3
  have H4 := Lib.hid hi4
  have HQD := Lib.hid (show eqInts D D = true by simp [eqInts])
  have HQX := Lib.hid (show eqInts X X = true by simp [eqInts])
  have z1 : (E == E) = true := by simp
  clear d0 d1 d2 hi1 hi2 hi3 hi4 hb2
  go_wp2_with (first
    | (go_at_call 6; go_fit (voted_any w2); rintro e w3 ⟨rfl, hb3⟩; have p3 := (Since.refl w2).step hb3)
    | (go_at_call 7; go_fit (Equal_ints _ _ D D w3 (H1.out.stays p3.below) (H3.out.stays p3.below)); rintro e w4 ⟨rfl, hb4⟩; rw [HQD.out]; have p4 := p3.step hb4)
    | (go_at_call 7; go_fit (Equal_ints _ _ X X w4 (H2.out.stays p4.below) (H4.out.stays p4.below)); rintro e w5 ⟨rfl, hb5⟩; rw [HQX.out]; have p5 := p4.step hb5))
  go_ret
  exact ⟨rfl, (S2.step p5.below).below⟩
theorem VoteSays_walk (v0 : Value) (p : Plan3) (v1 : Value) (ls : List Sh) (W : World) (h0 : IsPlan v0 p) (h1 : IsShares W v1 ls) :
    Calls Try.prog 3 #[v0, v1] W fun e w' => e = .returned (.bool true) ∧ Below W.heap.size W w' := by
  obtain ⟨rfl, _⟩ := h0
  exact voteSays_all _ _ _ v1 ls W h1
end Go.Proofs.Ytmlkjepfepmcgaa
