/-
  The walks of a book's check, and the reference's.
-/
import Derived.Test.YtpjlngkndofjfaaRow
import Derived.Test.YtpjlngkndofjfaaKinMath
import Derived.Test.YtpjlngkndofjfaaSlices
namespace Go.Proofs.Ytpjlngkndofjfaa
open Go.RowKit

/-- A version: a slice of parents, a plan. -/
def RVer : Rd Ver := fun w cs x => ∃ v, cs = [v, .int .i64 x.2.1, .int .i64 x.2.2.1, .int .i64 x.2.2.2] ∧ IsInts w v x.1 ∧ I64 x.2.1 ∧ I64 x.2.2.1 ∧ I64 x.2.2.2
theorem RVer.stays : RVer.Stays := by
  rintro w cs x ⟨v, rfl, h, i⟩ w' hw
  exact ⟨v, rfl, h.framed (fun _ _ _ => id) hw, i⟩
/-- The value is a slice of these versions. -/
abbrev IsVers (w : World) (v : Value) (b : List Ver) : Prop := IsRow 4 RVer w v b
theorem vers_at {w : World} {a : Option Addr} {n cap : Nat} {b : List Ver} (h : IsVers w (.slice a n cap) b) {i : Nat} {x : Ver} (hx : b[i]? = some x) :
    ∃ g off u c, a = some ⟨g, off, none⟩ ∧ w.cell? ⟨g, off + i * 4, none⟩ = some (.slice u x.1.length c) ∧ w.cell? ⟨g, off + i * 4 + 1, none⟩ = some (.int .i64 x.2.1) ∧ w.cell? ⟨g, off + i * 4 + 2, none⟩ = some (.int .i64 x.2.2.1) ∧ w.cell? ⟨g, off + i * 4 + 3, none⟩ = some (.int .i64 x.2.2.2) ∧ IsInts w (.slice u x.1.length c) x.1 ∧ I64 x.2.1 ∧ I64 x.2.2.1 ∧ I64 x.2.2.2 := by
  obtain ⟨g, off, rfl, cs, hl, hc, v, rfl, hv, h1, h2, h3⟩ := h.at hx
  obtain ⟨u, c, rfl, _⟩ := hv.opened
  exact ⟨g, off, u, c, rfl, hc 0 _ rfl, hc 1 _ rfl, hc 2 _ rfl, hc 3 _ rfl, hv, h1, h2, h3⟩

/-- Of the parents from place j on the last one before them. -/
def Last (l : List Int) (j : Nat) (last : Int) : Prop := (j = 0 ∧ last = -1) ∨ (0 < j ∧ l[j - 1]? = some last)
theorem Last.step {l : List Int} {j : Nat} {z : Int} (h : l[j]? = some z) : Last l (j + 1) z := Or.inr ⟨by omega, by simpa using h⟩

set_option maxHeartbeats 1000000 in
theorem parents_any (v : Value) (l : List Int) (k : Int) (w : World) (hv : IsInts w v l) :
    Calls Try.prog 51 #[v, .int .i64 k] w fun e w' => e = .returned (.int .i64 (parsV k (-1) l)) ∧ w = w' := by
  obtain ⟨a, c, rfl, hc, ⟨hm, hcm, _⟩, hi⟩ := hv.opened
  clear hv
  go_enter Try.func51, Try.ntmps51
  go_wp2
  go_loop [9] (fun i => ∃ j : Nat, ∃ last : Int, j ≤ l.length ∧ i = .int .i64 j ∧ Last l j last ∧ parsV k last (l.drop j) = parsV k (-1) l) (fun i => l.length - (intOf i).toNat)
  case atStart => exact ⟨0, -1, by omega, rfl, Or.inl ⟨rfl, rfl⟩, rfl⟩
  case round =>
    obtain ⟨j, last, hj, rfl, hla, hq⟩ := hrel
    have HQ := Lib.hid hq
    have HL := Lib.hid hla
    clear hq hla
    by_cases hlt : j < l.length
    · obtain ⟨b1, o1, z1, rfl, hc1, hz1, hi1⟩ := hi j hlt
      have HZ := Lib.hid (drop_get hz1)
      have HG := Lib.hid hz1
      clear hz1
      by_cases h1 : z1 < 0 ∨ k ≤ z1
      · have HR := Lib.hid (show parsV k (-1) l = 4 by rw [← HQ.out, HZ.out]; unfold parsV; rw [if_pos h1])
        rcases h1 with h1 | h1
        · go_wp2
          go_ret
          exact ⟨ret_int HR.out.symm, rfl⟩
        · by_cases h0 : z1 < 0
          · go_wp2
            go_ret
            exact ⟨ret_int HR.out.symm, rfl⟩
          · go_wp2
            go_ret
            exact ⟨ret_int HR.out.symm, rfl⟩
      · have h0 : 0 ≤ z1 := by omega
        have h2 : z1 < k := by omega
        rcases HL.out with ⟨rfl, rfl⟩ | ⟨hp, hg⟩
        · have HR := Lib.hid (show parsV k z1 (l.drop (0 + 1)) = parsV k (-1) l by rw [← HQ.out, HZ.out]; simp only [parsV]; rw [if_neg h1, if_neg (by omega)])
          have hc0 : w.cell? ⟨b1, o1, none⟩ = some (.int .i64 z1) := hc1
          clear h1 hc1
          go_wp2
          go_round
          case rel => exact ⟨1, z1, by omega, by go_num, Last.step HG.out, HR.out⟩
          case measure => simp [intOf]; omega
        · obtain ⟨b2, o2, z2, e2, hc2, hz2, hi2⟩ := hi (j - 1) (by omega)
          cases e2
          have e3 : z2 = last := by rw [hz2] at hg; exact Option.some.inj hg
          subst e3
          clear hz2 hg HL
          have hj1 : (0 : Int) < (j : Int) := by omega
          have hc3 : w.cell? ⟨b1, o1 + (j - 1), none⟩ = some (.int .i64 z2) := hc2
          by_cases h3 : z1 ≤ z2
          · have HR := Lib.hid (show parsV k (-1) l = 5 by rw [← HQ.out, HZ.out]; simp only [parsV]; rw [if_neg h1, if_pos h3])
            clear h1
            go_wp2
            go_ret
            exact ⟨ret_int HR.out.symm, rfl⟩
          · have HR := Lib.hid (show parsV k z1 (l.drop (j + 1)) = parsV k (-1) l by rw [← HQ.out, HZ.out]; simp only [parsV]; rw [if_neg h1, if_neg h3])
            clear h1
            go_wp2
            go_round
            case rel => exact ⟨j + 1, z1, by omega, by go_num, Last.step HG.out, HR.out⟩
            case measure => simp [intOf]; omega
    · obtain rfl : l.length = j := by omega
      go_wp2
      go_ret
      refine ⟨ret_int ?_, rfl⟩
      rw [← HQ.out, List.drop_length]
      rfl

set_option maxRecDepth 100000 in
set_option maxHeartbeats 2000000 in
theorem bookCheck_any (v : Value) (b : List Ver) (W : World) (hv : IsVers W v b) :
    Calls Try.prog 31 #[.agg #[v]] W fun e w' => e = .returned (.int .i64 (bookV b)) ∧ Below W.heap.size W w' := by
  obtain ⟨a, c, rfl, hc, ⟨hm, hcm, _⟩, _⟩ := hv.opened
  have S0 := (Since.refl W).alloc (.cells #[.slice a b.length c] 24)
  have hv0 := hv.stays RVer.stays (below_alloc _ (.cells #[.slice a b.length c] 24))
  have c0 : (W.alloc (.cells #[.slice a b.length c] 24)).cell? ⟨W.heap.size, 0, none⟩ = some (.slice a b.length c) := by go_simp
  clear hv
  by_cases h12 : 12 < b.length
  · have H := Lib.hid (show bookV b = 1 by unfold bookV; rw [if_pos (by omega)])
    clear c0
    go_enter Try.func31, Try.ntmps31
    go_wp2_with fail
    go_ret
    exact ⟨ret_int H.out.symm, S0.below⟩
  · have H := Lib.hid (show bookV b = versV 0 b by unfold bookV; rw [if_neg (by omega)])
    have h12' : b.length ≤ 12 := by omega
    clear c0 h12
    go_enter Try.func31, Try.ntmps31
    go_wp2_with fail
    go_loopw [14] (fun i wr => ∃ k : Nat, k ≤ b.length ∧ i = .int .i64 k ∧ Since W.heap.size W wr ∧ IsVers wr (.slice a b.length c) b ∧ versV k (b.drop k) = versV 0 b) (fun i _ => b.length - (intOf i).toNat)
    case atStart => exact ⟨0, by omega, rfl, S0, hv0, rfl⟩
    case round =>
      obtain ⟨k, hk, rfl, hS, hvr, hq⟩ := hrel
      have HQ := Lib.hid hq
      clear hq
      by_cases hlt : k < b.length
      · obtain ⟨g, off, u, cu, rfl, k0, k1, k2, k3, hp, i1, i2, i3⟩ := vers_at hvr (List.getElem?_eq_getElem hlt)
        have HD := Lib.hid (List.drop_eq_getElem_cons hlt)
        generalize b[k] = x at *
        have B1 := below_alloc wr (.cells #[.slice u x.1.length cu, .int .i64 x.2.1, .int .i64 x.2.2.1, .int .i64 x.2.2.2] 69)
        have S1 := hS.alloc (.cells #[.slice u x.1.length cu, .int .i64 x.2.1, .int .i64 x.2.2.1, .int .i64 x.2.2.2] 69)
        have hp1 := hp.stays B1
        have hv1 := hvr.stays RVer.stays B1
        go_wp2_with fail
        refine (parents_any _ x.1 _ _ hp1).mono ?_
        rintro e w' ⟨rfl, rfl⟩
        by_cases hpz : parsV k (-1) x.1 = 0
        · have HP := Lib.hid hpz
          rw [hpz]
          clear hpz
          go_wp2_with fail
          refine (planCheck_any _ _ _ _).mono ?_
          rintro e w2 ⟨rfl, hb2⟩
          have S2 := S1.step hb2
          have hv2 := hv1.stays RVer.stays hb2
          by_cases hpl : planV x.2.1 x.2.2.1 x.2.2.2 = 0
          · have HV := Lib.hid (show versV (k + 1) (b.drop (k + 1)) = versV 0 b by rw [← HQ.out, HD.out]; simp only [versV]; rw [if_neg]; unfold verV; rw [if_neg (by simpa using HP.out)]; simpa using hpl)
            rw [hpl]
            clear hpl k0 k1 k2 k3 hp hp1
            go_wp2_with fail
            go_roundw
            case rel => exact ⟨k + 1, by omega, by go_num, S2, hv2, HV.out⟩
            case measure => simp [intOf]; omega
          · have HV := Lib.hid (show versV 0 b = planV x.2.1 x.2.2.1 x.2.2.2 by rw [← HQ.out, HD.out]; have hve : verV k x = planV x.2.1 x.2.2.1 x.2.2.2 := (by unfold verV; rw [if_neg (by simpa using HP.out)]); simp only [versV]; rw [if_pos (by rw [hve]; exact hpl), hve])
            have hne : (planV x.2.1 x.2.2.1 x.2.2.2 != 0) = true := by simpa using hpl
            clear hpl k0 k1 k2 k3 hp hp1
            go_wp2_with fail
            go_ret
            exact ⟨ret_int (by rw [H.out, HV.out]), S2.below⟩
        · have HV := Lib.hid (show versV 0 b = parsV k (-1) x.1 by rw [← HQ.out, HD.out]; have hve : verV k x = parsV k (-1) x.1 := (by unfold verV; rw [if_pos (by simpa using hpz)]); simp only [versV]; rw [if_pos (by rw [hve]; exact hpz), hve])
          have hne : (parsV k (-1) x.1 != 0) = true := by simpa using hpz
          clear hpz k0 k1 k2 k3 hp hp1
          go_wp2_with fail
          go_ret
          exact ⟨ret_int (by rw [H.out, HV.out]), S1.below⟩
      · obtain rfl : b.length = k := by omega
        go_wp2_with fail
        go_ret
        refine ⟨ret_int ?_, hS.below⟩
        rw [H.out, ← HQ.out, List.drop_length]
        rfl

end Go.Proofs.Ytpjlngkndofjfaa
