/-
  The walk of the reference's check of a book.
-/
import Derived.Test.YtpjlngkndofjfaaBook
namespace Go.Proofs.Ytpjlngkndofjfaa
open Go.RowKit

set_option maxRecDepth 100000 in
set_option maxHeartbeats 2000000 in
theorem CheckBook_any (v : Value) (b : List Ver) (W : World) (hv : IsVers W v b) :
    Calls Try.prog 28 #[.agg #[v]] W fun e w' => e = .returned (.int .i64 (bookV b)) ∧ Below W.heap.size W w' := by
  obtain ⟨a, c, rfl, hc, ⟨hm, hcm, _⟩, _⟩ := hv.opened
  have S0 := (Since.refl W).alloc (.cells #[.slice a b.length c] 24)
  have hv0 := hv.stays RVer.stays (below_alloc _ (.cells #[.slice a b.length c] 24))
  have c0 : (W.alloc (.cells #[.slice a b.length c] 24)).cell? ⟨W.heap.size, 0, none⟩ = some (.slice a b.length c) := by go_simp
  clear hv
  by_cases h12 : 12 < b.length
  · have H := Lib.hid (show bookV b = 1 by unfold bookV; rw [if_pos (by omega)])
    clear c0
    go_enter Try.func28, Try.ntmps28
    go_wp2_with fail
    go_ret
    exact ⟨ret_int H.out.symm, S0.below⟩
  · have H := Lib.hid (show bookV b = versV 0 b by unfold bookV; rw [if_neg (by omega)])
    have h12' : b.length ≤ 12 := by omega
    clear c0 h12
    go_enter Try.func28, Try.ntmps28
    go_wp2_with fail
    go_loopw [16] (fun i wr => ∃ k : Nat, k ≤ b.length ∧ i = .int .i64 k ∧ Since W.heap.size W wr ∧ IsVers wr (.slice a b.length c) b ∧ versV k (b.drop k) = versV 0 b) (fun i _ => b.length - (intOf i).toNat)
    case atStart => exact ⟨0, by omega, rfl, S0, hv0, rfl⟩
    case round =>
      obtain ⟨k, hk, rfl, hS, hvr, hq⟩ := hrel
      obtain ⟨wo, hwo⟩ : ∃ wo : World, wo = wr := ⟨_, rfl⟩
      rw [← hwo] at hS hvr ⊢
      clear hwo
      have HQ := Lib.hid hq
      clear hq
      by_cases hlt : k < b.length
      · obtain ⟨g, off, u, cu, rfl, k0, k1, k2, k3, hp, i1, i2, i3⟩ := vers_at hvr (List.getElem?_eq_getElem hlt)
        have HD := Lib.hid (List.drop_eq_getElem_cons hlt)
        generalize b[k] = x at *
        have B1 := below_alloc wo (.cells #[.slice u x.1.length cu, .int .i64 x.2.1, .int .i64 x.2.2.1, .int .i64 x.2.2.2] 69)
        have S1 := hS.alloc (.cells #[.slice u x.1.length cu, .int .i64 x.2.1, .int .i64 x.2.2.1, .int .i64 x.2.2.2] 69)
        have hp1 := hp.stays B1
        have hv1 := hvr.stays RVer.stays B1
        obtain ⟨_, _, e5, _, ⟨hpm, hpcm, _⟩, hpi⟩ := hp1.opened
        simp only [Value.slice.injEq, true_and] at e5
        obtain ⟨rfl, rfl⟩ := e5
        go_wp2_with fail
        go_loop [24, 5] (fun i z => ∃ j : Nat, ∃ last : Int, j ≤ x.1.length ∧ i = .int .i64 j ∧ z = .int .i64 last ∧ I64 last ∧ parsV k last (x.1.drop j) = parsV k (-1) x.1) (fun i _ => x.1.length - (intOf i).toNat)
        case atStart => exact ⟨0, -1, by omega, rfl, rfl, ⟨by omega, by omega⟩, rfl⟩
        case round =>
          obtain ⟨j, last, hj, rfl, rfl, ⟨il0, il1⟩, hq2⟩ := hrel
          have HR := Lib.hid hq2
          clear hq2
          by_cases hlt2 : j < x.1.length
          · obtain ⟨b1, o1, z1, rfl, hc1, hz1, hi1⟩ := hpi j hlt2
            have HZ := Lib.hid (drop_get hz1)
            clear hz1
            by_cases h1 : z1 < 0 ∨ k ≤ z1
            · have HV := Lib.hid (show versV 0 b = 4 by
                have e1 : parsV k (-1) x.1 = 4 := by rw [← HR.out, HZ.out]; unfold parsV; rw [if_pos h1]
                have e2 : verV k x = 4 := by unfold verV; rw [e1, if_pos (by omega)]
                rw [← HQ.out, HD.out]; simp only [versV]; rw [e2, if_pos (by omega)])
              rcases h1 with h1 | h1
              · go_wp2_with fail
                go_ret
                exact ⟨ret_int (by rw [H.out, HV.out]), S1.below⟩
              · by_cases h0 : z1 < 0
                · go_wp2_with fail
                  go_ret
                  exact ⟨ret_int (by rw [H.out, HV.out]), S1.below⟩
                · go_wp2_with fail
                  go_ret
                  exact ⟨ret_int (by rw [H.out, HV.out]), S1.below⟩
            · have h0 : 0 ≤ z1 := by omega
              have h2 : z1 < k := by omega
              by_cases h3 : z1 ≤ last
              · have HV := Lib.hid (show versV 0 b = 5 by
                  have e1 : parsV k (-1) x.1 = 5 := by rw [← HR.out, HZ.out]; simp only [parsV]; rw [if_neg h1, if_pos h3]
                  have e2 : verV k x = 5 := by unfold verV; rw [e1, if_pos (by omega)]
                  rw [← HQ.out, HD.out]; simp only [versV]; rw [e2, if_pos (by omega)])
                clear h1
                go_wp2_with fail
                go_ret
                exact ⟨ret_int (by rw [H.out, HV.out]), S1.below⟩
              · have HE := Lib.hid (show parsV k z1 (x.1.drop (j + 1)) = parsV k (-1) x.1 by rw [← HR.out, HZ.out]; simp only [parsV]; rw [if_neg h1, if_neg h3])
                clear h1
                go_wp2_with fail
                go_round
                case rel => exact ⟨j + 1, z1, by omega, by go_num, rfl, hi1, HE.out⟩
                case measure => simp [intOf]; omega
          · obtain rfl : x.1.length = j := by omega
            have HP := Lib.hid (show parsV k (-1) x.1 = 0 by rw [← HR.out, List.drop_length]; rfl)
            clear hpi
            go_wp2_with fail
            refine (CheckPlan_any _ _ _ _).mono ?_
            rintro e w2 ⟨rfl, hb2⟩
            have S2 := S1.step hb2
            have hv2 := hv1.stays RVer.stays hb2
            by_cases hpl : planV x.2.1 x.2.2.1 x.2.2.2 = 0
            · have HV := Lib.hid (show versV (k + 1) (b.drop (k + 1)) = versV 0 b by rw [← HQ.out, HD.out]; simp only [versV]; rw [if_neg]; unfold verV; rw [if_neg (by simpa using HP.out)]; simpa using hpl)
              rw [hpl]
              clear hpl k0 k1 k2 k3 hp hp1
              go_wp2_with fail
              go_roundw
              case rel => exact ⟨k + 1, by omega, by go_num, S2, hv2, HV.out⟩
              case measure => simp [intOf]; omega
            · have HV := Lib.hid (show versV 0 b = planV x.2.1 x.2.2.1 x.2.2.2 by rw [← HQ.out, HD.out]; have hve : verV k x = planV x.2.1 x.2.2.1 x.2.2.2 := (by unfold verV; rw [if_neg (by simpa using HP.out)]); simp only [versV]; rw [if_pos (by rw [hve]; exact hpl), hve])
              have hne : (planV x.2.1 x.2.2.1 x.2.2.2 != 0) = true := by simpa using hpl
              clear hpl k0 k1 k2 k3 hp hp1
              go_wp2_with fail
              go_ret
              exact ⟨ret_int (by rw [H.out, HV.out]), S2.below⟩
      · obtain rfl : b.length = k := by omega
        go_wp2_with fail
        go_ret
        refine ⟨ret_int ?_, hS.below⟩
        rw [H.out, ← HQ.out, List.drop_length]
        rfl

end Go.Proofs.Ytpjlngkndofjfaa
