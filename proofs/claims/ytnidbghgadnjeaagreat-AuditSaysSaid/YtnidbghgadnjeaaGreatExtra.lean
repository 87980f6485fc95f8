/-
  What is wanted besides.
-/
import Derived.Test.YtnidbghgadnjeaaGreatBooks
import Derived.Test.YtnidbghgadnjeaaGreatPeers
import Derived.Test.YtnidbghgadnjeaaGreatPlaces
import Derived.Test.YtnidbghgadnjeaaGreatDeeps
import Derived.Test.YtnidbghgadnjeaaGreatVotes
import Derived.Test.YtnidbghgadnjeaaGreatLaws
import Derived.Deep.RegionHeld3
import Derived.Lib.Overlaps
import Derived.Deep.RegionLaw
namespace Go.Proofs.YtnidbghgadnjeaaGreat

section
variable {b : List Ver}
end

theorem addVE_ref (b : List Ver) (v : Ver) : addVE b v = if bookV b ≠ 0 then bookV b else bookV (b ++ [v]) := by
  unfold addVE
  split
  · rfl
  · split
    · rename_i h
      unfold bookV
      rw [if_pos (by simp; omega)]
    · rfl
end Go.Proofs.YtnidbghgadnjeaaGreat
namespace Go.Proofs.YtnidbghgadnjeaaGreat
section
variable {b : List Ver}

end
end Go.Proofs.YtnidbghgadnjeaaGreat
namespace Go.Proofs.YtnidbghgadnjeaaGreat
open Go.RowKit

end Go.Proofs.YtnidbghgadnjeaaGreat
namespace Go.Proofs.YtnidbghgadnjeaaGreat
open Go.RowKit

set_option maxRecDepth 100000 in
set_option maxHeartbeats 2000000 in
theorem CheckBook_any (v : Value) (b : List Ver) (W : World) (hv : IsVers W v b) :
    Calls Tryz.prog 120 #[.agg #[v]] W fun e w' => e = .returned (.int .i64 (bookV b)) ∧ Below W.heap.size W w' := by
  obtain ⟨a, c, rfl, hc, ⟨hm, hcm, _⟩, _⟩ := hv.opened
  have S0 := (Since.refl W).alloc (.cells #[.slice a b.length c] 32)
  have hv0 := hv.stays RVer.stays (below_alloc _ (.cells #[.slice a b.length c] 32))
  have c0 : (W.alloc (.cells #[.slice a b.length c] 32)).cell? ⟨W.heap.size, 0, none⟩ = some (.slice a b.length c) := by go_simp
  clear hv
  by_cases h12 : 12 < b.length
  · have H := Lib.hid (show bookV b = 1 by unfold bookV; rw [if_pos (by omega)])
    clear c0
    go_enter Tryz.func120, Tryz.ntmps120
    go_wp2_with fail
    go_ret
    exact ⟨ret_int H.out.symm, S0.below⟩
  · have H := Lib.hid (show bookV b = versV 0 b by unfold bookV; rw [if_neg (by omega)])
    have h12' : b.length ≤ 12 := by omega
    clear c0 h12
    go_enter Tryz.func120, Tryz.ntmps120
    go_wp2_with fail
    go_loopw [16] (fun i wr => ∃ k : Nat, k ≤ b.length ∧ i = .int .i64 k ∧ Since W.heap.size W wr ∧ IsVers wr (.slice a b.length c) b ∧ versV k (b.drop k) = versV 0 b) (fun i _ => b.length - (intOf i).toNat)
    case atStart => exact ⟨0, by omega, rfl, S0, hv0, rfl⟩
    case round =>
      obtain ⟨k, hk, rfl, hS, hvr, hq⟩ := hrel
      obtain ⟨wo, hwo⟩ : ∃ wo : World, wo = wr := ⟨_, rfl⟩
      rw [← hwo] at hS hvr ⊢
      clear hwo
      have HQ := Lib.hid hq
      clear hq
      by_cases hlt : k < b.length
      · obtain ⟨g, off, u, cu, rfl, k0, k1, k2, k3, hp, i1, i2, i3⟩ := vers_at hvr (List.getElem?_eq_getElem hlt)
        have HD := Lib.hid (List.drop_eq_getElem_cons hlt)
        generalize b[k] = x at *
        have B1 := below_alloc wo (.cells #[.slice u x.1.length cu, .int .i64 x.2.1, .int .i64 x.2.2.1, .int .i64 x.2.2.2] 54)
        have S1 := hS.alloc (.cells #[.slice u x.1.length cu, .int .i64 x.2.1, .int .i64 x.2.2.1, .int .i64 x.2.2.2] 54)
        have hp1 := hp.stays B1
        have hv1 := hvr.stays RVer.stays B1
        obtain ⟨_, _, e5, _, ⟨hpm, hpcm, _⟩, hpi⟩ := hp1.opened
        simp only [Value.slice.injEq, true_and] at e5
        obtain ⟨rfl, rfl⟩ := e5
        go_wp2_with fail
        go_loop [24, 5] (fun i z => ∃ j : Nat, ∃ last : Int, j ≤ x.1.length ∧ i = .int .i64 j ∧ z = .int .i64 last ∧ I64 last ∧ parsV k last (x.1.drop j) = parsV k (-1) x.1) (fun i _ => x.1.length - (intOf i).toNat)
        case atStart => exact ⟨0, -1, by omega, rfl, rfl, ⟨by omega, by omega⟩, rfl⟩
        case round =>
          obtain ⟨j, last, hj, rfl, rfl, ⟨il0, il1⟩, hq2⟩ := hrel
          have HR := Lib.hid hq2
          clear hq2
          by_cases hlt2 : j < x.1.length
          · obtain ⟨b1, o1, z1, rfl, hc1, hz1, hi1⟩ := hpi j hlt2
            have HZ := Lib.hid (drop_get hz1)
            clear hz1
            by_cases h1 : z1 < 0 ∨ k ≤ z1
            · have HV := Lib.hid (show versV 0 b = 4 by
                have e1 : parsV k (-1) x.1 = 4 := by rw [← HR.out, HZ.out]; unfold parsV; rw [if_pos h1]
                have e2 : verV k x = 4 := by unfold verV; rw [e1, if_pos (by omega)]
                rw [← HQ.out, HD.out]; simp only [versV]; rw [e2, if_pos (by omega)])
              rcases h1 with h1 | h1
              · go_wp2_with fail
                go_ret
                exact ⟨ret_int (by rw [H.out, HV.out]), S1.below⟩
              · by_cases h0 : z1 < 0
                · go_wp2_with fail
                  go_ret
                  exact ⟨ret_int (by rw [H.out, HV.out]), S1.below⟩
                · go_wp2_with fail
                  go_ret
                  exact ⟨ret_int (by rw [H.out, HV.out]), S1.below⟩
            · have h0 : 0 ≤ z1 := by omega
              have h2 : z1 < k := by omega
              by_cases h3 : z1 ≤ last
              · have HV := Lib.hid (show versV 0 b = 5 by
                  have e1 : parsV k (-1) x.1 = 5 := by rw [← HR.out, HZ.out]; simp only [parsV]; rw [if_neg h1, if_pos h3]
                  have e2 : verV k x = 5 := by unfold verV; rw [e1, if_pos (by omega)]
                  rw [← HQ.out, HD.out]; simp only [versV]; rw [e2, if_pos (by omega)])
                clear h1
                go_wp2_with fail
                go_ret
                exact ⟨ret_int (by rw [H.out, HV.out]), S1.below⟩
              · have HE := Lib.hid (show parsV k z1 (x.1.drop (j + 1)) = parsV k (-1) x.1 by rw [← HR.out, HZ.out]; simp only [parsV]; rw [if_neg h1, if_neg h3])
                clear h1
                go_wp2_with fail
                go_round
                case rel => exact ⟨j + 1, z1, by omega, by go_num, rfl, hi1, HE.out⟩
                case measure => simp [intOf]; omega
          · obtain rfl : x.1.length = j := by omega
            have HP := Lib.hid (show parsV k (-1) x.1 = 0 by rw [← HR.out, List.drop_length]; rfl)
            clear hpi
            go_wp2_with fail
            refine (CheckPlan_any _ _ _ _).mono ?_
            rintro e w2 ⟨rfl, hb2⟩
            have S2 := S1.step hb2
            have hv2 := hv1.stays RVer.stays hb2
            by_cases hpl : planV x.2.1 x.2.2.1 x.2.2.2 = 0
            · have HV := Lib.hid (show versV (k + 1) (b.drop (k + 1)) = versV 0 b by rw [← HQ.out, HD.out]; simp only [versV]; rw [if_neg]; unfold verV; rw [if_neg (by simpa using HP.out)]; simpa using hpl)
              rw [hpl]
              clear hpl k0 k1 k2 k3 hp hp1
              go_wp2_with fail
              go_roundw
              case rel => exact ⟨k + 1, by omega, by go_num, S2, hv2, HV.out⟩
              case measure => simp [intOf]; omega
            · have HV := Lib.hid (show versV 0 b = planV x.2.1 x.2.2.1 x.2.2.2 by rw [← HQ.out, HD.out]; have hve : verV k x = planV x.2.1 x.2.2.1 x.2.2.2 := (by unfold verV; rw [if_neg (by simpa using HP.out)]); simp only [versV]; rw [if_pos (by rw [hve]; exact hpl), hve])
              have hne : (planV x.2.1 x.2.2.1 x.2.2.2 != 0) = true := by simpa using hpl
              clear hpl k0 k1 k2 k3 hp hp1
              go_wp2_with fail
              go_ret
              exact ⟨ret_int (by rw [H.out, HV.out]), S2.below⟩
      · obtain rfl : b.length = k := by omega
        go_wp2_with fail
        go_ret
        refine ⟨ret_int ?_, hS.below⟩
        rw [H.out, ← HQ.out, List.drop_length]
        rfl

end Go.Proofs.YtnidbghgadnjeaaGreat
namespace Go.Proofs.YtnidbghgadnjeaaGreat
open Go.RowKit

end Go.Proofs.YtnidbghgadnjeaaGreat
namespace Go.Proofs.YtnidbghgadnjeaaGreat
open Go.ChangeShapes Go.WideShapes Go.ChangeAt Go.RowKit Go.Deep
section
variable {H : Type} {enc : TypeId × Value → H} {W : World} {base : Nat} {v : Value} {d : DataW H} {ps : List MemPlace}
end
end Go.Proofs.YtnidbghgadnjeaaGreat
namespace Go.Proofs.YtnidbghgadnjeaaGreat
open Go.ChangeShapes Go.WideShapes Go.ChangeAt Go.RowKit Go.Deep

section
variable {H : Type} {enc : TypeId × Value → H} {W : World} {base : Nat} {v : Value} {d : DataW H} {ps : List MemPlace}
end
end Go.Proofs.YtnidbghgadnjeaaGreat
namespace Go.Proofs.YtnidbghgadnjeaaGreat

end Go.Proofs.YtnidbghgadnjeaaGreat
namespace Go.Proofs.YtnidbghgadnjeaaGreat
open Go.RowKit

set_option maxRecDepth 100000 in
set_option maxHeartbeats 2000000 in
theorem At_any (t : Bool) (r : Int) (v : Value) (l : List Kp) (M : Int) (W : World) (hv : IsKepts W v l) :
    Calls Tryz.prog 71 #[.agg #[.bool t, .int .i64 r, v], .int .i64 M] W fun e w' => e = .returned (.int .i64 (findV M l 0)) ∧ Below W.heap.size W w' := by
  obtain ⟨a, c, rfl, hcap, ⟨hm, hcm, _⟩, _⟩ := hv.opened
  have S0 := (Since.refl W).alloc (.cells #[.bool t, .int .i64 r, .slice a l.length c] 78)
  have hv0 := hv.stays RKept.stays S0.below
  clear hv
  go_enter Tryz.func71, Tryz.ntmps71
  go_wp2_with fail
  generalize W.alloc (.cells #[.bool t, .int .i64 r, .slice a l.length c] 78) = w0 at *
  go_loopw [10] (fun i wr => ∃ k : Nat, k ≤ l.length ∧ i = .int .i64 k ∧ Since w0.heap.size w0 wr ∧ findV M (l.drop k) k = findV M l 0) (fun i _ => l.length - (intOf i).toNat)
  case atStart => exact ⟨0, by omega, rfl, Since.refl w0, rfl⟩
  case round =>
    obtain ⟨k, hk, rfl, hS, hq⟩ := hrel
    have HQ := Lib.hid hq
    clear hq
    by_cases hlt : k < l.length
    · obtain ⟨g, off, u, cu, rfl, k0, k1, k2, hp, hi⟩ := kept_at (hv0.later RKept.stays (Dirty.old hS.below _)) (List.getElem?_eq_getElem hlt)
      have HD := Lib.hid (List.drop_eq_getElem_cons hlt)
      generalize l[k] = x at *
      have S1 := hS.alloc (.cells #[.int .i64 x.1, .int .i64 x.2.1, .slice u x.2.2.length cu] 85)
      clear hp hi
      by_cases hx : x.1 = M
      · have HH := Lib.hid (show findV M l 0 = (k : Int) by rw [← HQ.out, HD.out]; simp [findV, hx])
        have hd : (x.1 == M) = true := by simpa using hx
        clear hx
        go_wp2_with fail
        go_ret
        exact ⟨ret_int HH.out.symm, (S0.step S1.below).below⟩
      · have HH := Lib.hid (show findV M (l.drop (k + 1)) (k + 1) = findV M l 0 by rw [← HQ.out, HD.out]; simp [findV, hx])
        have hd : (x.1 == M) = false := by simpa using hx
        clear hx
        go_wp2_with fail
        clear k0 k1 k2
        go_roundw
        case rel => exact ⟨k + 1, by omega, by go_num, S1, HH.out⟩
        case measure => simp [intOf]; omega
    · obtain rfl : l.length = k := by omega
      go_wp2_with fail
      go_ret
      refine ⟨ret_int ?_, (S0.step hS.below).below⟩
      rw [← HQ.out]
      simp [findV]

end Go.Proofs.YtnidbghgadnjeaaGreat
namespace Go.Proofs.YtnidbghgadnjeaaGreat
open Go.RowKit

end Go.Proofs.YtnidbghgadnjeaaGreat
namespace Go.Proofs.YtnidbghgadnjeaaGreat
open Go.RowKit

set_option maxRecDepth 100000 in
set_option maxHeartbeats 4000000 in
theorem CheckPeer_any (vb : Value) (b : List Ver) (u : Value) (p : Pr) (W : World) (hb : IsVers W vb b) (hu : IsKepts W u p.2.2) (hi : I64 p.2.1) :
    Calls Tryz.prog 123 #[.agg #[vb], .agg #[.bool p.1, .int .i64 p.2.1, u]] W fun e w' => e = .returned (.int .i64 (peerV b p)) ∧ Below W.heap.size W w' := by
  obtain ⟨t, r, l⟩ := p
  obtain ⟨ab, cb, rfl, hcb, ⟨hbm, hbc, _⟩, _⟩ := hb.opened
  obtain ⟨al, cl, rfl, hcl, ⟨hlm, hlc, _⟩, _⟩ := hu.opened
  have S0 := ((Since.refl W).alloc (.cells #[.slice ab b.length cb] 32)).alloc (.cells #[.bool t, .int .i64 r, .slice al l.length cl] 78)
  have hb0 := hb.stays RVer.stays S0.below
  have hu0 := hu.stays RKept.stays S0.below
  obtain ⟨w0, hw0⟩ : ∃ w0, w0 = (W.alloc (.cells #[.slice ab b.length cb] 32)).alloc (.cells #[.bool t, .int .i64 r, .slice al l.length cl] 78) := ⟨_, rfl⟩
  have c0 : w0.cell? ⟨W.heap.size, 0, none⟩ = some (.slice ab b.length cb) := by rw [hw0]; go_simp
  have c1 : w0.cell? ⟨W.heap.size + 1, 0, none⟩ = some (.bool t) := by rw [hw0]; go_simp
  have c2 : w0.cell? ⟨W.heap.size + 1, 1, none⟩ = some (.int .i64 r) := by rw [hw0]; go_simp
  have c3 : w0.cell? ⟨W.heap.size + 1, 2, none⟩ = some (.slice al l.length cl) := by rw [hw0]; go_simp
  rw [← hw0] at S0 hb0 hu0
  have HW := Lib.hid hw0
  clear hw0 hb hu
  obtain ⟨B, hB⟩ : ∃ B, B = W.heap.size := ⟨_, rfl⟩
  obtain ⟨B1, hB1⟩ : ∃ B1, B1 = W.heap.size + 1 := ⟨_, rfl⟩
  rw [← hB1] at c1 c2 c3
  rw [← hB] at c0
  have HB := Lib.hid hB
  have HB1 := Lib.hid hB1
  clear hB hB1
  have l0 := cell_lt c0
  have l1 := cell_lt c1
  go_enter Tryz.func123, Tryz.ntmps123
  go_wp2_with fail
  rw [← HW.out, ← HB1.out, ← HB.out]
  refine (CheckBook_any _ b _ hb0).mono ?_
  rintro e w1 ⟨rfl, hb1⟩
  have T1 := (Since.refl w0).step hb1
  have HVB := Lib.hid (hb0.stays RVer.stays hb1)
  have HVK := Lib.hid (hu0.stays RKept.stays hb1)
  have d0 := below_cell hb1 c0
  have d1 := below_cell hb1 c1
  have d2 := below_cell hb1 c2
  have d3 := below_cell hb1 c3
  clear c0 c1 c2 c3 hb1 l0 l1 hb0 hu0
  by_cases h0 : bookV b = 0
  · have H0 := Lib.hid h0
    have ht := (bookV_ok.1 h0).top
    rw [h0]
    clear h0
    by_cases hr : r < 0 ∨ 20 < r
    · have H := Lib.hid (show peerV b (t, r, l) = 2 by unfold peerV; rw [if_neg (by simpa using H0.out), if_pos hr])
      have hin := inB_no (n := r) (a := 0) (b := 20) hr
      clear hr
      go_wp2_with (go_at_call 83; refine (in_any _ _ _ _).mono ?_; rintro e w' ⟨rfl, rfl⟩; rw [hin])
      go_ret
      exact ⟨ret_int H.out.symm, (S0.step T1.below).below⟩
    · have hr0 : 0 ≤ r := by omega
      have hr1 : r ≤ 20 := by omega
      have hin := inB_yes (n := r) (a := 0) (b := 20) hr0 hr1
      by_cases hf : r < (l.length : Int)
      · have H := Lib.hid (show peerV b (t, r, l) = 8 by unfold peerV; rw [if_neg (by simpa using H0.out), if_neg hr, if_pos hf])
        clear hr
        go_wp2_with (go_at_call 83; refine (in_any _ _ _ _).mono ?_; rintro e w' ⟨rfl, rfl⟩; rw [hin])
        go_ret
        exact ⟨ret_int H.out.symm, (S0.step T1.below).below⟩
      · have H := Lib.hid (show peerV b (t, r, l) = keptsV b (-1) l by unfold peerV; rw [if_neg (by simpa using H0.out), if_neg hr, if_neg hf])
        have hl20 : l.length ≤ 20 := by omega
        have hf' : (l.length : Int) ≤ r := by omega
        have HS : Hid (∀ w', Since w1.heap.size w1 w' → w'.cell? ⟨B, 0, none⟩ = some (.slice ab b.length cb) ∧ w'.cell? ⟨B1, 2, none⟩ = some (.slice al l.length cl)) := Lib.hid (fun w' q => ⟨below_cell q.below d0, below_cell q.below d3⟩)
        clear hr hf
        go_wp2_with (go_at_call 83; refine (in_any _ _ _ _).mono ?_; rintro e w' ⟨rfl, rfl⟩; rw [hin])
        go_loopw [28, 6] (fun i z wr => ∃ k : Nat, k ≤ l.length ∧ i = .int .i64 k ∧ z = .int .i64 (lastK l k) ∧ Since w1.heap.size w1 wr ∧ keptsV b (lastK l k) (l.drop k) = keptsV b (-1) l) (fun i _ _ => l.length - (intOf i).toNat)
        case atStart => exact ⟨0, by omega, rfl, rfl, Since.refl w1, rfl⟩
        case round =>
          obtain ⟨k, hk, rfl, rfl, hS, hq⟩ := hrel
          have HQ := Lib.hid hq
          clear hq d0 d1 d2 d3
          by_cases hlt : k < l.length
          · have hx : l[k]? = some l[k] := List.getElem?_eq_getElem hlt
            obtain ⟨g, off, u, cu, rfl, k0, k1, k2, hp, i0, i1⟩ := kept_at (HVK.out.later RKept.stays (Dirty.old hS.below _)) hx
            have HD := Lib.hid (List.drop_eq_getElem_cons hlt)
            generalize l[k] = x at *
            have HLK := Lib.hid (lastK_next hx)
            have S1 := hS.alloc (.cells #[.int .i64 x.1, .int .i64 x.2.1, .slice u x.2.2.length cu] 85)
            have S1' := (Since.refl wr).alloc (.cells #[.int .i64 x.1, .int .i64 x.2.1, .slice u x.2.2.length cu] 85)
            obtain ⟨d0, d3⟩ := HS.out _ S1
            obtain ⟨e0, e3⟩ := HS.out _ hS
            have HPI := Lib.hid (hp.stays S1'.below)
            clear hp hx
            by_cases hw : x.1 < 0 ∨ (b.length : Int) ≤ x.1
            · have HH := Lib.hid (show keptsV b (-1) l = 4 by rw [← HQ.out, HD.out]; unfold keptsV; rw [if_pos hw])
              have hw2 : x.1 < 0 ∨ (0 ≤ x.1 ∧ (b.length : Int) ≤ x.1) := by omega
              clear hw
              rcases hw2 with hw | ⟨hw, hw'⟩
              all_goals
                go_wp2_with fail
                go_ret
                exact ⟨ret_int (by rw [H.out, HH.out]), (S0.step (T1.step S1.below).below).below⟩
            · have hn0 : 0 ≤ x.1 := by omega
              have hn1 : x.1 < (b.length : Int) := by omega
              have HW2 := Lib.hid hw
              clear hw
              have hs1 : (k : Int) < (l.length : Int) := by omega
              obtain ⟨f0, f1, f2⟩ : (wr.alloc (.cells #[.int .i64 x.1, .int .i64 x.2.1, .slice u x.2.2.length cu] 85)).cell? ⟨wr.heap.size, 0, none⟩ = some (.int .i64 x.1) ∧ (wr.alloc (.cells #[.int .i64 x.1, .int .i64 x.2.1, .slice u x.2.2.length cu] 85)).cell? ⟨wr.heap.size, 1, none⟩ = some (.int .i64 x.2.1) ∧ (wr.alloc (.cells #[.int .i64 x.1, .int .i64 x.2.1, .slice u x.2.2.length cu] 85)).cell? ⟨wr.heap.size, 2, none⟩ = some (.slice u x.2.2.length cu) := ⟨by go_simp, by go_simp, by go_simp⟩
              go_upto_region 14 with fail
              clear k0 k1 k2 e0 e3 hS
              obtain ⟨Bk, hBk⟩ : ∃ Bk, Bk = wr.heap.size := ⟨_, rfl⟩
              rw [← hBk] at f0 f1 f2 ⊢
              clear hBk S1'
              generalize wr.alloc (.cells #[.int .i64 x.1, .int .i64 x.2.1, .slice u x.2.2.length cu] 85) = w2 at *
              obtain ⟨n, hn⟩ := Int.eq_ofNat_of_zero_le hn0
              have hnb : n < b.length := by omega
              have hv : b[n]? = some b[n] := List.getElem?_eq_getElem hnb
              obtain ⟨gv, ov, uv, cv, hab, m0, m1, m2, m3, hpv, iv0, iv1, iv2⟩ := vers_at (HVB.out.later RVer.stays (Dirty.old S1.below _)) hv
              have HSV := Lib.hid (show shareV b x = oneV (b[n]).2.1 (b[n]).2.2.1 (b[n]).2.2.2 x.2.1 x.2.2 from shareV_at hn hv)
              generalize b[n] = y at *
              subst hab
              clear hv hpv m0
              have HSQ : Hid (∀ w', Since w2.heap.size w2 w' → w'.cell? ⟨B, 0, none⟩ = some (.slice (some ⟨gv, ov, none⟩) b.length cb) ∧ w'.cell? ⟨Bk, 0, none⟩ = some (.int .i64 (n : Int)) ∧ w'.cell? ⟨Bk, 1, none⟩ = some (.int .i64 x.2.1) ∧ w'.cell? ⟨Bk, 2, none⟩ = some (.slice u x.2.2.length cu) ∧ w'.cell? ⟨gv, ov + n * 4 + 1, none⟩ = some (.int .i64 y.2.1) ∧ w'.cell? ⟨gv, ov + n * 4 + 1 + 1, none⟩ = some (.int .i64 y.2.2.1) ∧ w'.cell? ⟨gv, ov + n * 4 + 1 + 2, none⟩ = some (.int .i64 y.2.2.2)) :=
                Lib.hid (fun w' q => ⟨below_cell q.below d0, by rw [← hn]; exact below_cell q.below f0, below_cell q.below f1, below_cell q.below f2, below_cell q.below m1, below_cell q.below m2, below_cell q.below m3⟩)
              clear m1 m2 m3
              by_cases hle : x.1 ≤ lastK l k
              · have HH := Lib.hid (show keptsV b (-1) l = 5 by rw [← HQ.out, HD.out]; unfold keptsV; rw [if_neg HW2.out, if_pos hle])
                go_wp2_with fail
                go_ret
                exact ⟨ret_int (by rw [H.out, HH.out]), (S0.step (T1.step S1.below).below).below⟩
              · have HH := Lib.hid (show shareV b x = 0 → keptsV b (lastK l (k + 1)) (l.drop (k + 1)) = keptsV b (-1) l from fun h => by rw [← HQ.out, HD.out, HLK.out]; conv => rhs; unfold keptsV; rw [if_neg HW2.out, if_neg hle, if_neg (by simpa using h)])
                have HN := Lib.hid (show shareV b x ≠ 0 → keptsV b (-1) l = shareV b x from fun h => by rw [← HQ.out, HD.out]; unfold keptsV; rw [if_neg HW2.out, if_neg hle, if_pos h])
                go_upto_region 17 with fail
                have q2 := Since.refl w2
                have S3 := S1
                have sq := HSQ.out w2.drew q2.drew
                clear d0 d3 f0 f1 f2 hle
                go_region_held3 (fun w' => w'.cell? ⟨B, 0, none⟩ = some (.slice (some ⟨gv, ov, none⟩) b.length cb) ∧ w'.cell? ⟨Bk, 0, none⟩ = some (.int .i64 (n : Int)) ∧ w'.cell? ⟨Bk, 1, none⟩ = some (.int .i64 x.2.1) ∧ w'.cell? ⟨Bk, 2, none⟩ = some (.slice u x.2.2.length cu) ∧ w'.cell? ⟨gv, ov + n * 4 + 1, none⟩ = some (.int .i64 y.2.1) ∧ w'.cell? ⟨gv, ov + n * 4 + 1 + 1, none⟩ = some (.int .i64 y.2.2.1) ∧ w'.cell? ⟨gv, ov + n * 4 + 1 + 2, none⟩ = some (.int .i64 y.2.2.2)) (first | exact sq | exact s5) (first
                  | (go_at_call 148; refine (CheckShare_any _ _ _ _ _ x.2.2 _ (HPI.out.stays q2.drew.below)).mono ?_; rintro e w5 ⟨rfl, hb5⟩; rw [← HSV.out]; have q5 := q2.drew.step hb5; have s5 := HSQ.out w5 q5))
                all_goals
                  have S5 := S3.drew.step hb5
                  clear sq s5 hb5
                  by_cases hz : shareV b x = 0
                  · have HK2 := Lib.hid (HH.out hz)
                    rw [hz]
                    clear hz
                    go_wp2_with fail
                    go_roundw
                    case rel => exact ⟨k + 1, by omega, by go_num, by rw [HLK.out, hn], S5, HK2.out⟩
                    case measure => simp [intOf]; omega
                  · have HK2 := Lib.hid (HN.out hz)
                    have hne : (shareV b x != 0) = true := by simpa using hz
                    clear hz
                    go_wp2_with fail
                    go_ret
                    exact ⟨ret_int (by rw [H.out, HK2.out]), (S0.step (T1.step S5.below).below).below⟩
          · obtain rfl : l.length = k := by omega
            go_wp2_with fail
            go_ret
            refine ⟨ret_int ?_, (S0.step (T1.step hS.below).below).below⟩
            rw [H.out, ← HQ.out, List.drop_length]
            rfl
  · have H := Lib.hid (show peerV b (t, r, l) = bookV b by unfold peerV; rw [if_pos h0])
    have hne : (bookV b != 0) = true := by simpa using h0
    clear h0
    go_wp2_with fail
    go_ret
    exact ⟨ret_int H.out.symm, (S0.step T1.below).below⟩

end Go.Proofs.YtnidbghgadnjeaaGreat
namespace Go.Proofs.YtnidbghgadnjeaaGreat
open Go.RowKit

set_option maxRecDepth 100000 in
set_option maxHeartbeats 2000000 in
theorem CheckPeers_any (vb : Value) (b : List Ver) (u : Value) (l : List Pr) (W : World) (hb : IsVers W vb b) (hu : IsPeers W u l) :
    Calls Tryz.prog 77 #[.agg #[vb], u] W fun e w' => e = .returned (.int .i64 (placeV b l)) ∧ Below W.heap.size W w' := by
  obtain ⟨ab, cb, rfl, hcb, ⟨hbm, hbc, _⟩, _⟩ := hb.opened
  obtain ⟨al, cl, rfl, hcl, ⟨hlm, hlc, _⟩, _⟩ := hu.opened
  have S0 := (Since.refl W).alloc (.cells #[.slice ab b.length cb] 32)
  have hb0 := hb.stays RVer.stays S0.below
  have hu0 := hu.stays RPeer.stays S0.below
  have c0 : (W.alloc (.cells #[.slice ab b.length cb] 32)).cell? ⟨W.heap.size, 0, none⟩ = some (.slice ab b.length cb) := by go_simp
  clear hb hu
  go_enter Tryz.func77, Tryz.ntmps77
  go_wp2_with fail
  generalize W.alloc (.cells #[.slice ab b.length cb] 32) = w0 at *
  obtain ⟨B, hB⟩ : ∃ B, B = W.heap.size := ⟨_, rfl⟩
  rw [← hB] at c0 ⊢
  have HB := Lib.hid hB
  clear hB
  refine (CheckBook_any _ b _ hb0).mono ?_
  rintro e w1 ⟨rfl, hb1⟩
  have T1 := (Since.refl w0).step hb1
  have HVB := Lib.hid (hb0.stays RVer.stays hb1)
  have HVK := Lib.hid (hu0.stays RPeer.stays hb1)
  have d0 := below_cell hb1 c0
  clear c0 hb1 hb0 hu0
  by_cases h0 : bookV b = 0
  · have H0 := Lib.hid h0
    rw [h0]
    clear h0
    by_cases hr : 8 < (l.length : Int)
    · have H := Lib.hid (show placeV b l = 1 by unfold placeV; rw [if_neg (by simpa using H0.out), if_pos hr])
      go_wp2_with fail
      go_ret
      exact ⟨ret_int H.out.symm, (S0.step T1.below).below⟩
    · have H := Lib.hid (show placeV b l = peersV b l by unfold placeV; rw [if_neg (by simpa using H0.out), if_neg hr])
      have hr' : (l.length : Int) ≤ 8 := by omega
      have HS : Hid (∀ w', Since w1.heap.size w1 w' → w'.cell? ⟨B, 0, none⟩ = some (.slice ab b.length cb)) := Lib.hid (fun w' q => below_cell q.below d0)
      clear hr
      go_wp2_with fail
      go_loopw [19] (fun i wr => ∃ k : Nat, k ≤ l.length ∧ i = .int .i64 k ∧ Since w1.heap.size w1 wr ∧ peersV b (l.drop k) = peersV b l) (fun i _ => l.length - (intOf i).toNat)
      case atStart => exact ⟨0, by omega, rfl, Since.refl w1, rfl⟩
      case round =>
        obtain ⟨k, hk, rfl, hS, hq⟩ := hrel
        have HQ := Lib.hid hq
        clear hq d0
        by_cases hlt : k < l.length
        · obtain ⟨g, off, u, cu, rfl, k0, k1, k2, hp, i1⟩ := peer_at (HVK.out.later RPeer.stays (Dirty.old hS.below _)) (List.getElem?_eq_getElem hlt)
          have HD := Lib.hid (List.drop_eq_getElem_cons hlt)
          generalize l[k] = p at *
          have S1 := hS.alloc (.cells #[.bool p.1, .int .i64 p.2.1, .slice u p.2.2.length cu] 78)
          have S1' := (Since.refl wr).alloc (.cells #[.bool p.1, .int .i64 p.2.1, .slice u p.2.2.length cu] 78)
          have d0 := HS.out _ S1
          have HPI := Lib.hid (hp.stays RKept.stays S1'.below)
          have HVB1 := Lib.hid (HVB.out.later RVer.stays (Dirty.old S1.below _))
          clear hp S1'
          go_wp2_with fail
          refine (CheckPeer_any _ b _ p _ HVB1.out HPI.out i1).mono ?_
          rintro e w2 ⟨rfl, hb2⟩
          have S2 := S1.step hb2
          clear k0 k1 k2 hb2 d0
          by_cases hz : peerV b p = 0
          · have HH := Lib.hid (show peersV b (l.drop (k + 1)) = peersV b l by rw [← HQ.out, HD.out]; conv => rhs; unfold peersV; rw [if_neg (by simpa using hz)])
            rw [hz]
            clear hz
            go_wp2_with fail
            go_roundw
            case rel => exact ⟨k + 1, by omega, by go_num, S2, HH.out⟩
            case measure => simp [intOf]; omega
          · have HH := Lib.hid (show peersV b l = peerV b p by rw [← HQ.out, HD.out]; unfold peersV; rw [if_pos hz])
            have hne : (peerV b p != 0) = true := by simpa using hz
            clear hz
            go_wp2_with fail
            go_ret
            exact ⟨ret_int (by rw [H.out, HH.out]), (S0.step (T1.step S2.below).below).below⟩
        · obtain rfl : l.length = k := by omega
          go_wp2_with fail
          go_ret
          refine ⟨ret_int ?_, (S0.step (T1.step hS.below).below).below⟩
          rw [H.out, ← HQ.out, List.drop_length]
          rfl
  · have H := Lib.hid (show placeV b l = bookV b by unfold placeV; rw [if_pos h0])
    have hne : (bookV b != 0) = true := by simpa using h0
    clear h0
    go_wp2_with fail
    go_ret
    exact ⟨ret_int H.out.symm, (S0.step T1.below).below⟩

end Go.Proofs.YtnidbghgadnjeaaGreat
namespace Go.Proofs.YtnidbghgadnjeaaGreat

/-- x comes ahead of y. -/
def ahead (l : List Pr) (x y : Int) : Prop := leftAt l y < leftAt l x ∨ (leftAt l x = leftAt l y ∧ x < y)
theorem insA_ahead (l : List Pr) {x : Int} : ∀ {r : List Int}, r.Pairwise (fun a b => ahead l b a) → (∀ y ∈ r, y < x) → (insA (fun i j => decide (cfP l i j < 0)) x r).Pairwise (fun a b => ahead l b a)
  | [], _, _ => by simp [insA]
  | y :: r, hp, hx => by
    have hp' := List.pairwise_cons.1 hp
    unfold insA
    by_cases h : cfP l x y < 0
    · rw [if_pos (by simpa using h), List.pairwise_cons]
      refine ⟨fun z hz => ?_, insA_ahead l hp'.2 (fun z hz => hx z (by simp [hz]))⟩
      rcases List.mem_cons.1 ((insA_perm x r).mem_iff.1 hz) with rfl | hz
      · unfold cfP at h; exact Or.inl (by omega)
      · exact hp'.1 z hz
    · rw [if_neg (by simpa using h), List.pairwise_cons]
      refine ⟨fun z hz => ?_, hp⟩
      have hy := hx y (by simp)
      have hzx := hx z hz
      unfold cfP at h
      rcases List.mem_cons.1 hz with rfl | hz
      · unfold ahead; omega
      · have := hp'.1 z hz
        unfold ahead at this ⊢
        omega
theorem foldA_ahead (l : List Pr) : ∀ (c acc : List Int), acc.Pairwise (fun a b => ahead l b a) → c.Pairwise (· < ·) → (∀ a ∈ acc, ∀ b ∈ c, a < b) → (c.foldl (fun acc x => insA (fun i j => decide (cfP l i j < 0)) x acc) acc).Pairwise (fun a b => ahead l b a)
  | [], acc, h, _, _ => h
  | x :: c, acc, h, hc, hb => by
    have hc' := List.pairwise_cons.1 hc
    rw [List.foldl_cons]
    refine foldA_ahead l c _ (insA_ahead l h (fun y hy => hb y hy x (by simp))) hc'.2 ?_
    intro a ha b hbb
    rcases List.mem_cons.1 ((insA_perm x acc).mem_iff.1 ha) with rfl | ha
    · exact hc'.1 b hbb
    · exact hb a ha b (by simp [hbb])
theorem places_ahead (v : Int) (l : List Pr) : (gotL v l).Pairwise (ahead l) := by
  unfold gotL srtL srtR
  rw [List.pairwise_reverse]
  exact foldA_ahead l _ [] List.Pairwise.nil (candL_sorted v l _) (by simp)
theorem ahead_ext {l : List Pr} : ∀ {c r : List Int}, c.Pairwise (ahead l) → r.Pairwise (ahead l) → (∀ x, x ∈ c ↔ x ∈ r) → c = r
  | [], [], _, _, _ => rfl
  | [], y :: r, _, _, h => by have := (h y).2 (by simp); simp at this
  | x :: c, [], _, _, h => by have := (h x).1 (by simp); simp at this
  | x :: c, y :: r, hc, hr, h => by
    have hc' := List.pairwise_cons.1 hc
    have hr' := List.pairwise_cons.1 hr
    have hxy : x = y := by
      have h1 : x = y ∨ x ∈ r := by simpa using (h x).1 (by simp)
      have h2 : y = x ∨ y ∈ c := by simpa using (h y).2 (by simp)
      rcases h1 with h1 | h1
      · exact h1
      · rcases h2 with h2 | h2
        · exact h2.symm
        · have a1 := hr'.1 x h1
          have a2 := hc'.1 y h2
          unfold ahead at a1 a2
          omega
    subst hxy
    rw [ahead_ext hc'.2 hr'.2 (fun z => ?_)]
    have hz := h z
    simp only [List.mem_cons] at hz
    constructor
    · intro hzc
      rcases hz.1 (Or.inr hzc) with rfl | hh
      · have := hc'.1 z hzc; unfold ahead at this; omega
      · exact hh
    · intro hzr
      rcases hz.2 (Or.inr hzr) with rfl | hh
      · have := hr'.1 z hzr; unfold ahead at this; omega
      · exact hh

/-- Those of the first n who can have it, and have just so much room left. -/
def roomL (v : Int) (l : List Pr) (left : Int) (n : Nat) : List Int := (numsL n).filter fun k => canAt v l k && decide (leftAt l k = left)
theorem roomL_step (v : Int) (l : List Pr) (left : Int) {k : Nat} {p : Pr} (h : l[k]? = some p) : roomL v l left (k + 1) = roomL v l left k ++ (if canV v p = true ∧ leftV p = left then [(k : Int)] else []) := by
  unfold roomL
  rw [numsL_step, List.filter_append]
  congr 1
  rw [← canAt_get h, ← leftAt_get h]
  by_cases hc : canAt v l (k : Int) = true <;> by_cases hl : leftAt l (k : Int) = left <;> simp [hc, hl]
/-- Gathered from 20 down to the room that is left to be asked for (not itself). -/
def gathL (v : Int) (l : List Pr) : Nat → List Int
  | 0 => []
  | n + 1 => gathL v l n ++ roomL v l (20 - (n : Int)) l.length
theorem mem_roomL {v : Int} {l : List Pr} {left : Int} {n : Nat} {z : Int} : z ∈ roomL v l left n ↔ ((0 ≤ z ∧ z < n) ∧ canAt v l z = true) ∧ leftAt l z = left := by
  unfold roomL
  rw [List.mem_filter, mem_numsL]
  simp [and_assoc]
theorem mem_gathL {v : Int} {l : List Pr} {z : Int} : ∀ {n : Nat}, z ∈ gathL v l n ↔ z ∈ candL v l l.length ∧ 20 - (n : Int) < leftAt l z ∧ leftAt l z ≤ 20
  | 0 => by simp [gathL]
  | n + 1 => by
    unfold gathL
    rw [List.mem_append, mem_gathL (n := n), mem_roomL, mem_candL]
    constructor
    · rintro (⟨h1, h2, h3⟩ | ⟨h1, h2⟩)
      · exact ⟨h1, by omega, h3⟩
      · exact ⟨h1, by omega, by omega⟩
    · rintro ⟨h1, h2, h3⟩
      by_cases h : leftAt l z = 20 - (n : Int)
      · exact Or.inr ⟨h1, h⟩
      · exact Or.inl ⟨h1, by omega, h3⟩
theorem roomL_ahead (v : Int) (l : List Pr) (left : Int) (n : Nat) : (roomL v l left n).Pairwise (ahead l) := by
  have h := (numsL_sorted n).filter (fun k => canAt v l k && decide (leftAt l k = left))
  refine List.Pairwise.imp_of_mem (fun {a b} ha hb hab => ?_) h
  have h1 := (mem_roomL (v := v) (l := l) (left := left) (n := n)).1 ha
  have h2 := (mem_roomL (v := v) (l := l) (left := left) (n := n)).1 hb
  exact Or.inr ⟨by rw [h1.2, h2.2], hab⟩
theorem gathL_ahead (v : Int) (l : List Pr) : ∀ n, (gathL v l n).Pairwise (ahead l)
  | 0 => List.Pairwise.nil
  | n + 1 => by
    unfold gathL
    rw [List.pairwise_append]
    refine ⟨gathL_ahead v l n, roomL_ahead v l _ _, fun a ha b hb => ?_⟩
    have h1 := mem_gathL.1 ha
    have h2 := mem_roomL.1 hb
    exact Or.inl (by omega)
theorem canV_left {v : Int} {p : Pr} (h : canV v p = true) : 1 ≤ leftV p := by
  simp [canV] at h
  unfold leftV
  omega
theorem gath_places {v : Int} {l : List Pr} (h : ∀ p ∈ l, leftV p ≤ 20) : gathL v l 20 = gotL v l := by
  refine ahead_ext (gathL_ahead v l 20) (places_ahead v l) (fun z => ?_)
  rw [mem_gathL, (places_perm v l).mem_iff]
  constructor
  · exact fun h => h.1
  · intro hz
    have hz' := mem_candL.1 hz
    obtain ⟨k, rfl⟩ := Int.eq_ofNat_of_zero_le hz'.1.1
    have hk : k < l.length := by omega
    have hg : l[k]? = some l[k] := List.getElem?_eq_getElem hk
    have hc := hz'.2
    rw [canAt_get hg] at hc
    have h1 := canV_left hc
    have h2 := h _ (List.getElem_mem hk)
    rw [leftAt_get hg]
    exact ⟨hz, by omega, by omega⟩
end Go.Proofs.YtnidbghgadnjeaaGreat
namespace Go.Proofs.YtnidbghgadnjeaaGreat

end Go.Proofs.YtnidbghgadnjeaaGreat
namespace Go.Proofs.YtnidbghgadnjeaaGreat
open Go.RowKit

theorem CloneKepts_any (v : Value) (b : List Kp) (w0 w : World) (hw0 : Dirty (fun _ => False) w0 w) (hv : IsKepts w0 v b) (hb : b.length ≤ 1000000) :
    Calls Tryz.prog 84 #[v] w fun e w' => (∃ v', e = .returned v' ∧ OwnRow 3 RKept (fun k => w0.heap.size ≤ k) w' 85 w.heap.size v' b) ∧ Below w.heap.size w w' :=
  CloneKeptsR_any RKept.stays RKept.one v b w0 w hw0 hv hb

end Go.Proofs.YtnidbghgadnjeaaGreat
namespace Go.Proofs.YtnidbghgadnjeaaGreat
open Go.RowKit

section
variable {w w' : World} {base : Nat} {v : Value} {ys : List KpD}
end

section
variable {w w' : World} {base : Nat} {v : Value} {zs : List PrD}
end
end Go.Proofs.YtnidbghgadnjeaaGreat
namespace Go.Proofs.YtnidbghgadnjeaaGreat
open Go.RowKit

section
variable {ys : List KpD} {b : List Kp} {base k : Nat} {V : Value} {w w' : World}
end

section
variable {w w' : World} {base : Nat} {v : Value} {l : List Kp}
end

end Go.Proofs.YtnidbghgadnjeaaGreat
namespace Go.Proofs.YtnidbghgadnjeaaGreat
open Go.RowKit

end Go.Proofs.YtnidbghgadnjeaaGreat
namespace Go.Proofs.YtnidbghgadnjeaaGreat
open Go.RowKit

end Go.Proofs.YtnidbghgadnjeaaGreat
namespace Go.Proofs.YtnidbghgadnjeaaGreat
open Go.RowKit

end Go.Proofs.YtnidbghgadnjeaaGreat
namespace Go.Proofs.YtnidbghgadnjeaaGreat
open Go.RowKit

section
variable {ys : List PrD} {ps : List Pr} {base k : Nat} {V : Value} {w w' : World}
end
end Go.Proofs.YtnidbghgadnjeaaGreat
namespace Go.Proofs.YtnidbghgadnjeaaGreat
open Go.RowKit

end Go.Proofs.YtnidbghgadnjeaaGreat
namespace Go.Proofs.YtnidbghgadnjeaaGreat
open Go.RowKit

end Go.Proofs.YtnidbghgadnjeaaGreat
namespace Go.Proofs.YtnidbghgadnjeaaGreat
open Go.RowKit

section
variable {B3 B6 B7 : Nat} {n k : Int} {vv : Value} {w w' : World}
end

end Go.Proofs.YtnidbghgadnjeaaGreat
namespace Go.Proofs.YtnidbghgadnjeaaGreat
open Go.RowKit

end Go.Proofs.YtnidbghgadnjeaaGreat
namespace Go.Proofs.YtnidbghgadnjeaaGreat
open Go.RowKit

end Go.Proofs.YtnidbghgadnjeaaGreat
namespace Go.Proofs.YtnidbghgadnjeaaGreat
open Go.RowKit

end Go.Proofs.YtnidbghgadnjeaaGreat
namespace Go.Proofs.YtnidbghgadnjeaaGreat

section
variable {n o s : Nat} {ls : List Sh}
end
end Go.Proofs.YtnidbghgadnjeaaGreat
namespace Go.Proofs.YtnidbghgadnjeaaGreat

section
variable {n o s : Nat} {ls : List Sh}
theorem fold_from : ∀ (cs : List (List Sh)) (st : Vs), cs.foldl (fun st c => castV n o s ls c st) st = st ∨ ∃ c ∈ cs, joinE n o s c = 0 ∧ cs.foldl (fun st c => castV n o s ls c st) st = (joinC n o s c, idxF (ofD n (rowsN n s) (joinC n o s c)) 0 ls)
  | [], st => Or.inl rfl
  | c :: cs, st => by
    rw [List.foldl_cons]
    rcases fold_from cs (castV n o s ls c st) with h | ⟨d, hd, h1, h2⟩
    · rw [h]
      unfold castV
      by_cases hj : joinE n o s c = 0
      · rw [if_neg (by simpa using hj)]
        split
        · exact Or.inr ⟨c, by simp, hj, rfl⟩
        · exact Or.inl rfl
      · rw [if_pos hj]
        exact Or.inl rfl
    · exact Or.inr ⟨d, by simp [hd], h1, h2⟩
/-- Where there is an answer: whose it is. -/
theorem most_some (hR : Right n o s ls) (hE : mostE n o s ls = 0) : ∃ c ∈ combL n [] ls, joinE n o s c = 0 ∧ mostB n o s ls = joinC n o s c ∧ finV n o s ls = (joinC n o s c, idxF (ofD n (rowsN n s) (joinC n o s c)) 0 ls) := by
  have h1 := mostE_nat (n := n) (o := o) (s := s) hR.checks
  rw [hE] at h1
  have hne : (finV n o s ls).2 ≠ [] := by
    intro h
    rw [if_pos h] at h1
    cases h1
  rcases fold_from (n := n) (o := o) (s := s) (ls := ls) (combL n [] ls) ([], []) with h | ⟨c, hc, hj, h⟩
  · rw [← finV_fold] at h
    rw [h] at hne
    exact absurd rfl hne
  · rw [← finV_fold] at h
    exact ⟨c, hc, hj, by rw [mostB_nat hE, h], h⟩
end
end Go.Proofs.YtnidbghgadnjeaaGreat
namespace Go.Proofs.YtnidbghgadnjeaaGreat

section
variable {b : List Ver} {v : Int} {ss : List Sh} {ps qs : List Pr} {cs : List Int}
end
end Go.Proofs.YtnidbghgadnjeaaGreat
namespace Go.Proofs.YtnidbghgadnjeaaGreat

section
variable {m : Me} {data pr : List Int} {n o : Nat} {qs : List Pr} {cs : List Int}
end
end Go.Proofs.YtnidbghgadnjeaaGreat
namespace Go.Proofs.YtnidbghgadnjeaaGreat

/-- Is it there, with a share of the version that is not of these? -/
def blameB (v : Int) (all : List Sh) (p : Pr) : Bool := p.1 && (match keptAt v p.2.2 with
  | none => false
  | some x => !sameS all x.2)
def blameF (v : Int) (all : List Sh) (ps : List Pr) (k : Nat) : List Int := idxF (blameB v all) 0 (ps.take k)
theorem blameF_step (v : Int) (all : List Sh) {ps : List Pr} {k : Nat} {p : Pr} (h : ps[k]? = some p) : blameF v all ps (k + 1) = blameF v all ps k ++ (if blameB v all p then [(k : Int)] else []) := idxF_step _ h
theorem blameF_len (v : Int) (all : List Sh) (ps : List Pr) (k : Nat) : (blameF v all ps k).length ≤ k := by
  unfold blameF
  rw [idxF_len]
  exact Nat.le_trans List.countP_le_length (by simp [List.length_take]; omega)
/-- What Blamed answers. -/
def blamedE (m : Me) (v : Int) : Int :=
  if restE m v ≠ 0 then restE m v else splitE (planAt m.1 v).1 (planAt m.1 v).2.1 (planAt m.1 v).2.2 (restB m v)
def blamedC (m : Me) (v : Int) : List Int :=
  if blamedE m v = 0 then blameF v (splitL (planAt m.1 v).1 (planAt m.1 v).2.1 (planAt m.1 v).2.2 (restB m v)) m.2 m.2.length else []
/-- How many shares lack. -/
def lackV (m : Me) (v : Int) : Int := if readyE m v ≠ 0 then 0 else (planAt m.1 v).2.1 - ((onceL (numsS v m.2)).length : Int)
end Go.Proofs.YtnidbghgadnjeaaGreat