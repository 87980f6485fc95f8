/-
  The walk of PlaceSays.
-/
import Derived.Test.YtpjlngkndofjfaaReadBook
import Derived.Test.YtpjlngkndofjfaaChosen
namespace Go.Proofs.Ytpjlngkndofjfaa
open Go.RowKit

theorem eqInts_self (l : List Int) : eqInts l l = true := by simp [eqInts]

set_option maxRecDepth 100000 in
set_option maxHeartbeats 4000000 in
theorem PlaceSays_walk (v0 : Value) (b : List Ver) (v1 : Value) (l : List Pr) (v2 : Value) (v : Int) (v3 : Value) (many : Int) (W : World) (h0 : IsBook W v0 b) (h1 : IsPeers W v1 l) (h2 : IsInt v2 v) (h3 : IsInt v3 many) :
    Calls Try.prog 3 #[v0, v1, v2, v3] W fun e w' => e = .returned (.bool true) ∧ Below W.heap.size W w' := by
  obtain ⟨u0, rfl, hv⟩ := h0
  obtain ⟨rfl, hi2⟩ := h2
  obtain ⟨rfl, hi3⟩ := h3
  obtain ⟨a, n, rfl, hn, ⟨hnm, hcm, _⟩, _⟩ := hv.opened
  have S0 := (Since.refl W).alloc (.cells #[.slice a b.length n] 24)
  have hv0 := hv.stays RVer.stays S0.below
  have hu0 := h1.stays RPeer.stays S0.below
  have c0 : (W.alloc (.cells #[.slice a b.length n] 24)).cell? ⟨W.heap.size, 0, none⟩ = some (.slice a b.length n) := by go_simp
  have HR := Lib.hid eqInts_self
  clear hv h1
  go_enter Try.func3, Try.ntmps3
  go_upto_region 1 with fail
  generalize W.alloc (.cells #[.slice a b.length n] 24) = w0 at *
  obtain ⟨B, hB⟩ : ∃ B, B = W.heap.size := ⟨_, rfl⟩
  rw [← hB] at c0 ⊢
  have HB := Lib.hid hB
  clear hB
  go_upto_region 2 with (go_at_call 7; refine (For_any _ b _ l v many _ hv0 hu0).mono ?_; rintro e w1 ⟨⟨u1, rfl, hi1⟩, hb1⟩)
  have S1 := S0.step hb1
  have c1 := below_cell hb1 c0
  have hv1 := hv0.stays RVer.stays hb1
  have hu1 := hu0.stays RPeer.stays hb1
  clear c0 hb1 hv0 hu0 S0
  go_upto_region 3 with (go_at_call 8; refine (CheckPeers_any _ b _ l _ hv1 hu1).mono ?_; rintro e w2 ⟨rfl, hb2⟩)
  have S2 := S1.step hb2
  have c2 := below_cell hb2 c1
  have hv2 := hv1.stays RVer.stays hb2
  have hu2 := hu1.stays RPeer.stays hb2
  have hi2' := hi1.stays hb2
  obtain ⟨V, hV⟩ : ∃ V, V = placeV b l := ⟨_, rfl⟩
  obtain ⟨E, hE⟩ : ∃ E, E = forE b l v many := ⟨_, rfl⟩
  obtain ⟨C, hC⟩ : ∃ C, C = forC b l v many := ⟨_, rfl⟩
  rw [← hC] at hi2'
  rw [← hV, ← hE]
  have HV := Lib.hid hV
  have HE := Lib.hid hE
  have HC := Lib.hid hC
  have hne : (V != V) = false := by simp
  clear c1 hb2 hv1 hu1 hi1 S1 hV hE hC
  go_upto_region 5 with (first
    | (go_at_call 9; refine (chosen_any _).mono ?_; rintro e w3 ⟨rfl, hb3⟩; have c3 := below_cell hb3 c2)
    | (go_at_call 10; refine (placeCheck_any _ b _ l _ (hv2.stays RVer.stays hb3) (hu2.stays RPeer.stays hb3)).mono ?_; rintro e w4 ⟨rfl, hb4⟩; rw [← HV.out]))
  have S4 := (S2.step hb3).step hb4
  have hu4 := (hu2.stays RPeer.stays hb3).stays RPeer.stays hb4
  have hi4 := (hi2'.stays hb3).stays hb4
  clear c2 c3 hb3 hb4 hv2 hu2 hi2' S2
  by_cases hz : V = 0
  · subst hz
    go_wp2_with (first
      | (go_at_call 11; refine (PlacesFor_any b _ l v many _ hu4 HV.out.symm).mono ?_; rintro e w5 ⟨⟨u5, rfl, hi5⟩, hb5⟩; rw [← HE.out]; have S5 := S4.step hb5)
      | (go_at_call 12; refine (Equal_ints _ _ C C _ (hi4.stays hb5) (HC.out ▸ hi5)).mono ?_; rintro e w6 ⟨rfl, hb6⟩; rw [HR.out]))
    all_goals
      go_ret
      exact ⟨rfl, (S5.step hb6).below⟩
  · have hEV : E = V := by rw [HE.out, HV.out]; exact forE_chk _ _ (by rw [← HV.out]; exact hz)
    have hCn : C = [] := by rw [HC.out]; exact forC_no (by rw [← HE.out, hEV]; exact hz)
    subst hEV
    subst hCn
    obtain ⟨a4, c4, rfl, _⟩ := hi4.opened
    have hnz : (E != 0) = true := by simpa using hz
    have he : (E == E) = true := by simp
    go_wp2_with fail
    go_ret
    exact ⟨rfl, S4.below⟩

end Go.Proofs.Ytpjlngkndofjfaa
