/-
  The walks of what checks peers: the program's and the reference's.
-/
import Derived.Test.YtpjlngkndofjfaaPeer3
namespace Go.Proofs.Ytpjlngkndofjfaa
open Go.RowKit

/-- What is wrong with the first peer that isn't right. -/
def peersV (b : List Ver) : List Pr → Int
  | [] => 0
  | p :: r => if peerV b p ≠ 0 then peerV b p else peersV b r
/-- What Check of peers answers. -/
def placeV (b : List Ver) (l : List Pr) : Int := if bookV b ≠ 0 then bookV b else if 8 < (l.length : Int) then 1 else peersV b l
theorem peersV_ok {b : List Ver} : ∀ {l : List Pr}, peersV b l = 0 ↔ ∀ p ∈ l, PeerOk b p
  | [] => by simp [peersV]
  | p :: r => by
    unfold peersV
    by_cases h : peerV b p = 0
    · rw [if_neg (by simpa using h), peersV_ok (l := r)]
      exact ⟨fun h2 q hq => by rcases List.mem_cons.1 hq with rfl | hq; exact peerV_ok.1 h; exact h2 q hq, fun h2 q hq => h2 q (by simp [hq])⟩
    · rw [if_pos h]
      exact ⟨fun h2 => absurd h2 h, fun h2 => absurd (peerV_ok.2 (h2 p (by simp))) h⟩
theorem placeV_ok {b : List Ver} {l : List Pr} : placeV b l = 0 ↔ bookV b = 0 ∧ l.length ≤ 8 ∧ ∀ p ∈ l, PeerOk b p := by
  unfold placeV
  by_cases h : bookV b = 0
  · rw [if_neg (by simpa using h)]
    by_cases h2 : 8 < (l.length : Int)
    · rw [if_pos h2]
      exact ⟨fun e => by simp at e, fun h3 => by omega⟩
    · rw [if_neg h2, peersV_ok]
      exact ⟨fun h3 => ⟨h, by omega, h3⟩, fun h3 => h3.2.2⟩
  · rw [if_pos h]
    exact ⟨fun e => absurd e h, fun h2 => absurd h2.1 h⟩

set_option maxRecDepth 100000 in
set_option maxHeartbeats 2000000 in
theorem placeCheck_any (vb : Value) (b : List Ver) (u : Value) (l : List Pr) (W : World) (hb : IsVers W vb b) (hu : IsPeers W u l) :
    Calls Try.prog 10 #[.agg #[vb], u] W fun e w' => e = .returned (.int .i64 (placeV b l)) ∧ Below W.heap.size W w' := by
  obtain ⟨ab, cb, rfl, hcb, ⟨hbm, hbc, _⟩, _⟩ := hb.opened
  obtain ⟨al, cl, rfl, hcl, ⟨hlm, hlc, _⟩, _⟩ := hu.opened
  have S0 := (Since.refl W).alloc (.cells #[.slice ab b.length cb] 24)
  have hb0 := hb.stays RVer.stays S0.below
  have hu0 := hu.stays RPeer.stays S0.below
  have c0 : (W.alloc (.cells #[.slice ab b.length cb] 24)).cell? ⟨W.heap.size, 0, none⟩ = some (.slice ab b.length cb) := by go_simp
  clear hb hu
  go_enter Try.func10, Try.ntmps10
  go_wp2_with fail
  generalize W.alloc (.cells #[.slice ab b.length cb] 24) = w0 at *
  obtain ⟨B, hB⟩ : ∃ B, B = W.heap.size := ⟨_, rfl⟩
  rw [← hB] at c0 ⊢
  have HB := Lib.hid hB
  clear hB
  refine (bookCheck_any _ b _ hb0).mono ?_
  rintro e w1 ⟨rfl, hb1⟩
  have T1 := (Since.refl w0).step hb1
  have HVB := Lib.hid (hb0.stays RVer.stays hb1)
  have HVK := Lib.hid (hu0.stays RPeer.stays hb1)
  have d0 := below_cell hb1 c0
  clear c0 hb1 hb0 hu0
  by_cases h0 : bookV b = 0
  · have H0 := Lib.hid h0
    rw [h0]
    clear h0
    by_cases hr : 8 < (l.length : Int)
    · have H := Lib.hid (show placeV b l = 1 by unfold placeV; rw [if_neg (by simpa using H0.out), if_pos hr])
      go_wp2_with fail
      go_ret
      exact ⟨ret_int H.out.symm, (S0.step T1.below).below⟩
    · have H := Lib.hid (show placeV b l = peersV b l by unfold placeV; rw [if_neg (by simpa using H0.out), if_neg hr])
      have hr' : (l.length : Int) ≤ 8 := by omega
      have HS : Hid (∀ w', Since w1.heap.size w1 w' → w'.cell? ⟨B, 0, none⟩ = some (.slice ab b.length cb)) := Lib.hid (fun w' q => below_cell q.below d0)
      clear hr
      go_wp2_with fail
      go_loopw [19] (fun i wr => ∃ k : Nat, k ≤ l.length ∧ i = .int .i64 k ∧ Since w1.heap.size w1 wr ∧ peersV b (l.drop k) = peersV b l) (fun i _ => l.length - (intOf i).toNat)
      case atStart => exact ⟨0, by omega, rfl, Since.refl w1, rfl⟩
      case round =>
        obtain ⟨k, hk, rfl, hS, hq⟩ := hrel
        have HQ := Lib.hid hq
        clear hq d0
        by_cases hlt : k < l.length
        · obtain ⟨g, off, u, cu, rfl, k0, k1, k2, hp, i1⟩ := peer_at (HVK.out.later RPeer.stays (Dirty.old hS.below _)) (List.getElem?_eq_getElem hlt)
          have HD := Lib.hid (List.drop_eq_getElem_cons hlt)
          generalize l[k] = p at *
          have S1 := hS.alloc (.cells #[.bool p.1, .int .i64 p.2.1, .slice u p.2.2.length cu] 37)
          have S1' := (Since.refl wr).alloc (.cells #[.bool p.1, .int .i64 p.2.1, .slice u p.2.2.length cu] 37)
          have d0 := HS.out _ S1
          have HPI := Lib.hid (hp.stays RKept.stays S1'.below)
          have HVB1 := Lib.hid (HVB.out.later RVer.stays (Dirty.old S1.below _))
          clear hp S1'
          go_wp2_with fail
          refine (peerCheck_any _ b _ p _ HVB1.out HPI.out i1).mono ?_
          rintro e w2 ⟨rfl, hb2⟩
          have S2 := S1.step hb2
          clear k0 k1 k2 hb2 d0
          by_cases hz : peerV b p = 0
          · have HH := Lib.hid (show peersV b (l.drop (k + 1)) = peersV b l by rw [← HQ.out, HD.out]; conv => rhs; unfold peersV; rw [if_neg (by simpa using hz)])
            rw [hz]
            clear hz
            go_wp2_with fail
            go_roundw
            case rel => exact ⟨k + 1, by omega, by go_num, S2, HH.out⟩
            case measure => simp [intOf]; omega
          · have HH := Lib.hid (show peersV b l = peerV b p by rw [← HQ.out, HD.out]; unfold peersV; rw [if_pos hz])
            have hne : (peerV b p != 0) = true := by simpa using hz
            clear hz
            go_wp2_with fail
            go_ret
            exact ⟨ret_int (by rw [H.out, HH.out]), (S0.step (T1.step S2.below).below).below⟩
        · obtain rfl : l.length = k := by omega
          go_wp2_with fail
          go_ret
          refine ⟨ret_int ?_, (S0.step (T1.step hS.below).below).below⟩
          rw [H.out, ← HQ.out, List.drop_length]
          rfl
  · have H := Lib.hid (show placeV b l = bookV b by unfold placeV; rw [if_pos h0])
    have hne : (bookV b != 0) = true := by simpa using h0
    clear h0
    go_wp2_with fail
    go_ret
    exact ⟨ret_int H.out.symm, (S0.step T1.below).below⟩

set_option maxRecDepth 100000 in
set_option maxHeartbeats 2000000 in
theorem CheckPeers_any (vb : Value) (b : List Ver) (u : Value) (l : List Pr) (W : World) (hb : IsVers W vb b) (hu : IsPeers W u l) :
    Calls Try.prog 8 #[.agg #[vb], u] W fun e w' => e = .returned (.int .i64 (placeV b l)) ∧ Below W.heap.size W w' := by
  obtain ⟨ab, cb, rfl, hcb, ⟨hbm, hbc, _⟩, _⟩ := hb.opened
  obtain ⟨al, cl, rfl, hcl, ⟨hlm, hlc, _⟩, _⟩ := hu.opened
  have S0 := (Since.refl W).alloc (.cells #[.slice ab b.length cb] 24)
  have hb0 := hb.stays RVer.stays S0.below
  have hu0 := hu.stays RPeer.stays S0.below
  have c0 : (W.alloc (.cells #[.slice ab b.length cb] 24)).cell? ⟨W.heap.size, 0, none⟩ = some (.slice ab b.length cb) := by go_simp
  clear hb hu
  go_enter Try.func8, Try.ntmps8
  go_wp2_with fail
  generalize W.alloc (.cells #[.slice ab b.length cb] 24) = w0 at *
  obtain ⟨B, hB⟩ : ∃ B, B = W.heap.size := ⟨_, rfl⟩
  rw [← hB] at c0 ⊢
  have HB := Lib.hid hB
  clear hB
  refine (CheckBook_any _ b _ hb0).mono ?_
  rintro e w1 ⟨rfl, hb1⟩
  have T1 := (Since.refl w0).step hb1
  have HVB := Lib.hid (hb0.stays RVer.stays hb1)
  have HVK := Lib.hid (hu0.stays RPeer.stays hb1)
  have d0 := below_cell hb1 c0
  clear c0 hb1 hb0 hu0
  by_cases h0 : bookV b = 0
  · have H0 := Lib.hid h0
    rw [h0]
    clear h0
    by_cases hr : 8 < (l.length : Int)
    · have H := Lib.hid (show placeV b l = 1 by unfold placeV; rw [if_neg (by simpa using H0.out), if_pos hr])
      go_wp2_with fail
      go_ret
      exact ⟨ret_int H.out.symm, (S0.step T1.below).below⟩
    · have H := Lib.hid (show placeV b l = peersV b l by unfold placeV; rw [if_neg (by simpa using H0.out), if_neg hr])
      have hr' : (l.length : Int) ≤ 8 := by omega
      have HS : Hid (∀ w', Since w1.heap.size w1 w' → w'.cell? ⟨B, 0, none⟩ = some (.slice ab b.length cb)) := Lib.hid (fun w' q => below_cell q.below d0)
      clear hr
      go_wp2_with fail
      go_loopw [19] (fun i wr => ∃ k : Nat, k ≤ l.length ∧ i = .int .i64 k ∧ Since w1.heap.size w1 wr ∧ peersV b (l.drop k) = peersV b l) (fun i _ => l.length - (intOf i).toNat)
      case atStart => exact ⟨0, by omega, rfl, Since.refl w1, rfl⟩
      case round =>
        obtain ⟨k, hk, rfl, hS, hq⟩ := hrel
        have HQ := Lib.hid hq
        clear hq d0
        by_cases hlt : k < l.length
        · obtain ⟨g, off, u, cu, rfl, k0, k1, k2, hp, i1⟩ := peer_at (HVK.out.later RPeer.stays (Dirty.old hS.below _)) (List.getElem?_eq_getElem hlt)
          have HD := Lib.hid (List.drop_eq_getElem_cons hlt)
          generalize l[k] = p at *
          have S1 := hS.alloc (.cells #[.bool p.1, .int .i64 p.2.1, .slice u p.2.2.length cu] 37)
          have S1' := (Since.refl wr).alloc (.cells #[.bool p.1, .int .i64 p.2.1, .slice u p.2.2.length cu] 37)
          have d0 := HS.out _ S1
          have HPI := Lib.hid (hp.stays RKept.stays S1'.below)
          have HVB1 := Lib.hid (HVB.out.later RVer.stays (Dirty.old S1.below _))
          clear hp S1'
          go_wp2_with fail
          refine (CheckPeer_any _ b _ p _ HVB1.out HPI.out i1).mono ?_
          rintro e w2 ⟨rfl, hb2⟩
          have S2 := S1.step hb2
          clear k0 k1 k2 hb2 d0
          by_cases hz : peerV b p = 0
          · have HH := Lib.hid (show peersV b (l.drop (k + 1)) = peersV b l by rw [← HQ.out, HD.out]; conv => rhs; unfold peersV; rw [if_neg (by simpa using hz)])
            rw [hz]
            clear hz
            go_wp2_with fail
            go_roundw
            case rel => exact ⟨k + 1, by omega, by go_num, S2, HH.out⟩
            case measure => simp [intOf]; omega
          · have HH := Lib.hid (show peersV b l = peerV b p by rw [← HQ.out, HD.out]; unfold peersV; rw [if_pos hz])
            have hne : (peerV b p != 0) = true := by simpa using hz
            clear hz
            go_wp2_with fail
            go_ret
            exact ⟨ret_int (by rw [H.out, HH.out]), (S0.step (T1.step S2.below).below).below⟩
        · obtain rfl : l.length = k := by omega
          go_wp2_with fail
          go_ret
          refine ⟨ret_int ?_, (S0.step (T1.step hS.below).below).below⟩
          rw [H.out, ← HQ.out, List.drop_length]
          rfl
  · have H := Lib.hid (show placeV b l = bookV b by unfold placeV; rw [if_pos h0])
    have hne : (bookV b != 0) = true := by simpa using h0
    clear h0
    go_wp2_with fail
    go_ret
    exact ⟨ret_int H.out.symm, (S0.step T1.below).below⟩

end Go.Proofs.Ytpjlngkndofjfaa
