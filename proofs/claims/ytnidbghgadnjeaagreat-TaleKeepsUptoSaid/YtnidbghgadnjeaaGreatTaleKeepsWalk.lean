/-
  Where nobody bends anything each version of which enough is there is restored as it was saved.
-/
import Derived.Test.YtnidbghgadnjeaaGreatStraight
import Derived.Test.YtnidbghgadnjeaaGreatSaved
import Derived.Test.YtnidbghgadnjeaaGreatTold
import Derived.Test.YtnidbghgadnjeaaGreatRun
import Derived.Test.YtnidbghgadnjeaaGreatSpare
import Derived.Test.YtnidbghgadnjeaaGreatWovens
namespace Go.Proofs.YtnidbghgadnjeaaGreat
open Go.RowKit

set_option linter.unusedSimpArgs false in
set_option maxRecDepth 100000 in
set_option maxHeartbeats 8000000 in
theorem TaleKeeps_walk (vr : Value) (room : List Int) (vl : Value) (l : List Hp) (W : World) (hr : IsInts W vr room) (hl : IsHaps W vl l) (hrb : room.length ≤ 1900000) (hlb : l.length ≤ 2000000) :
    Calls Tryz.prog 3 #[vr, vl] W fun e w' => e = .returned (.bool true) ∧ Below W.heap.size W w' := by
  obtain ⟨ar, cr, rfl, _⟩ := hr.opened
  obtain ⟨al, cl, rfl, _⟩ := hl.opened
  have HR : Hid (∀ w', Since W.heap.size W w' → IsInts w' (.slice ar room.length cr) room) := Lib.hid (fun w' q => hr.stays q.below)
  have HS := Lib.hid (straight_any _ l W hl hlb)
  clear hr hl
  go_enter Tryz.func3, Tryz.ntmps3
  go_upto_region 2 with (go_at_call 11; go_fit HS.out; rintro e w1 ⟨⟨v1, rfl, h1⟩, hb1⟩; obtain ⟨a1, c1, rfl, _⟩ := h1.opened)
  have S1 := (Since.refl W).step hb1
  obtain ⟨h5, h60⟩ := strL_ok l
  have hTG : Hid (savedE room (strL l) = 0 → newE room = 0 ∧ runE (newC room) (strL l) = 0 ∧ Good (runM (newC room) (strL l)) (savedC room (strL l))) := Lib.hid (fun h => tale_good h h5 (by omega))
  clear h5 HS hb1
  generalize strL l = L at *
  have HSV := Lib.hid (Saved_any _ _ room L w1 (HR.out w1 S1) h1 hrb)
  generalize savedE room L = E at *
  generalize savedC room L = SV at *
  go_upto_region 3 with (go_at_call 12; go_fit HSV.out; rintro e w2 ⟨⟨v2, rfl, h2⟩, hb2⟩; obtain ⟨a2, c2, rfl, hc2, ⟨hm2, _, _⟩, _⟩ := h2.opened)
  have T2 := (Since.refl w1).step hb2
  have HL : Hid (∀ w', Since w1.heap.size w1 w' → IsHaps w' (.slice a1 L.length c1) L) := Lib.hid (fun w' q => h1.stays RHap.stays q.below)
  have HSR : Hid (∀ w', Since w2.heap.size w2 w' → IsRow 1 RRow w' (.slice a2 SV.length c2) SV) := Lib.hid (fun w' q => h2.stays RRow.stays q.below)
  clear h1 h2 hb2 HSV
  by_cases hE : E = 0
  · obtain ⟨hN, hRE, hG⟩ := hTG.out hE
    have HG := Lib.hid hG
    have HN := Lib.hid hN
    have HRE := Lib.hid hRE
    clear hTG hG hN hRE
    subst hE
    go_upto_region 5 with (go_at_call 13; go_fit (told_any w2); rintro e w3 ⟨rfl, hb3⟩)
    have U3 := (Since.refl w2).step hb3
    have V3 := T2.step hb3
    have HNW := Lib.hid (New_any _ room w3 (HR.out w3 (S1.step V3.below)) hrb)
    rw [HN.out] at HNW
    go_upto_region 6 with (go_at_call 14; go_fit HNW.out; rintro e w4 ⟨⟨u1, u2, rfl, ho4⟩, hb4⟩; obtain ⟨x1, e1, rfl, _⟩ := ho4.vers.opened; obtain ⟨x2, e2, rfl, _⟩ := ho4.peers.opened)
    generalize hM0 : newC room = M0 at *
    have BX := below_alloc w4 (.cells #[.slice x1 M0.1.length e1, .slice x2 M0.2.length e2] 35)
    have U5 := (U3.step hb4).alloc (.cells #[.slice x1 M0.1.length e1, .slice x2 M0.2.length e2] 35)
    have V5 := (V3.step hb4).alloc (.cells #[.slice x1 M0.1.length e1, .slice x2 M0.2.length e2] 35)
    have z0 : (w4.alloc (.cells #[.slice x1 M0.1.length e1, .slice x2 M0.2.length e2] 35)).cell? ⟨w4.heap.size, 0, none⟩ = some (.slice x1 M0.1.length e1) := by go_simp
    have z1 : (w4.alloc (.cells #[.slice x1 M0.1.length e1, .slice x2 M0.2.length e2] 35)).cell? ⟨w4.heap.size, 1, none⟩ = some (.slice x2 M0.2.length e2) := by go_simp
    have z2 : ∀ j, (w4.alloc (.cells #[.slice x1 M0.1.length e1, .slice x2 M0.2.length e2] 35)).frozen? ⟨w4.heap.size, j, none⟩ = false := by intro j; go_simp
    have hv5 := ho4.vers.stays RVer.stays BX
    have hp5 := ho4.peers.stays RPeer.stays BX
    have hW4 : w2.heap.size ≤ w4.heap.size := Nat.le_trans U3.2 hb4.size
    have hz5 : w4.heap.size < (w4.alloc (.cells #[.slice x1 M0.1.length e1, .slice x2 M0.2.length e2] 35)).heap.size := by simp
    generalize w4.alloc (.cells #[.slice x1 M0.1.length e1, .slice x2 M0.2.length e2] 35) = w5 at *
    obtain ⟨B, hB⟩ : ∃ B, B = w4.heap.size := ⟨_, rfl⟩
    rw [← hB] at z0 z1 z2 hW4 hz5 ⊢
    clear hB ho4 hb4 BX HNW hM0
    have HRN := Lib.hid (Run_any _ _ _ M0.1 M0.2 L w5 hv5 hp5 (HL.out w5 V5))
    rw [show runE (M0.1, M0.2) L = 0 from HRE.out] at HRN
    have HG2 : Hid (Good (runM (M0.1, M0.2) L) SV) := Lib.hid HG.out
    have y0 := z2 0
    have y1 := z2 1
    clear HG HRE hv5 hp5
    generalize runM (M0.1, M0.2) L = M at *
    generalize runS (M0.1, M0.2) L = SD at *
    go_upto_region 9 with (go_at_call 15; go_fit HRN.out; rintro e w6 ⟨⟨u1, u2, us, rfl, hq⟩, hb6⟩; obtain ⟨hv6, hp6, hs6⟩ := hq w6 (Dirty.refl _ _); obtain ⟨q1, f1, rfl, _⟩ := hv6.opened; obtain ⟨q2, f2, rfl, _⟩ := hp6.opened; obtain ⟨q3, f3, rfl, _⟩ := hs6.opened; have z0 := below_cell hb6 z0; have z1 := below_cell hb6 z1; have y0 := (hb6.frozen (p := ⟨B, 0, none⟩) hz5).trans y0; have y1 := (hb6.frozen (p := ⟨B, 1, none⟩) hz5).trans y1)
    have hd7 : Dirty (fun j => j = B) w6 ((w6.setCell ⟨B, 0, none⟩ (.slice q1 M.1.length f1)).setCell ⟨B, 1, none⟩ (.slice q2 M.2.length f2)) := (Dirty.of_grown ((grown_setCell w6 ⟨B, 0, none⟩ (.slice q1 M.1.length f1)).trans (grown_setCell _ ⟨B, 1, none⟩ (.slice q2 M.2.length f2)))).mono fun j _ hj => by cases hj; rfl
    obtain ⟨hv7, hp7, _⟩ := hq _ (hd7.mono fun j _ hj => by rw [hj]; exact hz5)
    have U7 := ((U5.step hb6).setCell (a := ⟨B, 0, none⟩) hW4 (.slice q1 M.1.length f1)).setCell (a := ⟨B, 1, none⟩) hW4 (.slice q2 M.2.length f2)
    have t0 : ((w6.setCell ⟨B, 0, none⟩ (.slice q1 M.1.length f1)).setCell ⟨B, 1, none⟩ (.slice q2 M.2.length f2)).cell? ⟨B, 0, none⟩ = some (.slice q1 M.1.length f1) := by go_simp
    have t1 : ((w6.setCell ⟨B, 0, none⟩ (.slice q1 M.1.length f1)).setCell ⟨B, 1, none⟩ (.slice q2 M.2.length f2)).cell? ⟨B, 1, none⟩ = some (.slice q2 M.2.length f2) := by go_simp
    clear hq hv6 hp6 hs6 hb6 z0 z1 z2 y0 y1 hd7 HRN
    generalize (w6.setCell ⟨B, 0, none⟩ (.slice q1 M.1.length f1)).setCell ⟨B, 1, none⟩ (.slice q2 M.2.length f2) = w7 at *
    obtain ⟨N, hN⟩ : ∃ N, N = M.1.length := ⟨_, rfl⟩
    have HVV : Hid (IsVers w7 (.slice q1 N f1) M.1) := Lib.hid (by rw [hN]; exact hv7)
    have HSL := Lib.hid HG2.out.len
    rw [← hN] at t0 HSL ⊢
    have hNS : N = SV.length := HSL.out.symm
    subst hNS
    clear hN hv7 HSL
    have HF : Hid (∀ w', Since w7.heap.size w7 w' → w'.cell? ⟨B, 0, none⟩ = some (.slice q1 SV.length f1) ∧ w'.cell? ⟨B, 1, none⟩ = some (.slice q2 M.2.length f2) ∧ IsVers w' (.slice q1 SV.length f1) M.1 ∧ IsPeers w' (.slice q2 M.2.length f2) M.2) := Lib.hid (fun w' q => ⟨below_cell q.below t0, below_cell q.below t1, HVV.out.stays RVer.stays q.below, hp7.stays RPeer.stays q.below⟩)
    have hb20 : ((SV.length : Int) != (SV.length : Int)) = false := by simp
    clear HVV hp7
    go_wp2_with fail
    clear t0 t1
    go_loopw [57] (fun i wr => ∃ k : Nat, k ≤ SV.length ∧ i = .int .i64 k ∧ Since w7.heap.size w7 wr) (fun i _ => SV.length - (intOf i).toNat)
    case atStart => exact ⟨0, by omega, rfl, Since.refl _⟩
    case round =>
      obtain ⟨k, hk, rfl, hS⟩ := hrel
      have hUr := U7.step hS.below
      by_cases hlt : k < SV.length
      · have hget := List.getElem?_eq_getElem hlt
        obtain ⟨g, off, rfl, cs, _, hcs, vd, rfl, hd⟩ := (HSR.out wr hUr).at hget
        obtain ⟨hrd, hsp⟩ := HG2.out.rest hget
        generalize SV[k] = D at *
        obtain ⟨ad, cd, rfl, _⟩ := hd.opened
        have k0 : wr.cell? ⟨g, off + k, none⟩ = some (.slice ad D.length cd) := by simpa using hcs 0 _ rfl
        have HD : Hid (∀ w', Since wr.heap.size wr w' → IsInts w' (.slice ad D.length cd) D) := Lib.hid (fun w' q => hd.stays q.below)
        obtain ⟨d0, d1, hv, hp⟩ := HF.out wr hS
        clear hget hcs hd
        go_upto_region 14 with fail
        clear k0
        generalize hSPV : spareV M (k : Int) = sv at *
        have HSPV := Lib.hid hSPV
        have HRD := Lib.hid hrd
        clear hSPV hrd
        go_upto_region 15 with (go_at_call 16; go_fit (Spare_any _ M.1 _ M.2 (k : Int) wr hv hp); rintro e w8 ⟨rfl, hb8⟩; rw [show readyE (M.1, M.2) (k : Int) = 0 from HRD.out, show spareV (M.1, M.2) (k : Int) = sv from HSPV.out])
        have S8 := hS.step hb8
        have T8 := (Since.refl wr).step hb8
        clear d0 d1 hv hp hb8
        obtain ⟨d0, d1, hv, hp⟩ := HF.out w8 S8
        go_upto_region 16 with (go_at_call 17; go_fit (Restore_any _ M.1 _ M.2 (k : Int) w8 hv hp); rintro e w9 ⟨⟨y1, y2, rfl, hi1, hi2⟩, hb9⟩; obtain ⟨aa, ca, rfl, _⟩ := hi1.opened; obtain ⟨ab, cb, rfl, _⟩ := hi2.opened)
        have S9 := S8.step hb9
        have T9 := T8.step hb9
        clear d0 d1 hv hp hb9
        rcases hsp with ⟨hs0, hs7⟩ | ⟨hs0, hr0, hrB, hrW⟩
        · rw [show restE (M.1, M.2) (k : Int) = 7 from hs7]
          clear hi1 hi2
          have n1 : sv < 0 := hs0
          have n2 : ¬ 0 ≤ sv := by omega
          go_wp2_with fail
          go_roundw
          case rel => exact ⟨k + 1, by omega, by go_num, S9⟩
          case measure => simp [intOf]; omega
        · rw [show restB (M.1, M.2) (k : Int) = D from hrB] at hi1 ⊢
          rw [show restW (M.1, M.2) (k : Int) = [] from hrW] at hi2 ⊢
          rw [show restE (M.1, M.2) (k : Int) = 0 from hr0]
          have n1 : ¬ sv < 0 := by omega
          have n2 : 0 ≤ sv := hs0
          have hD9 := HD.out w9 T9
          have E8 : Hid (eqInts D D = true) := Lib.hid (by simp [eqInts])
          have hl0 : ([] : List Int).length = 0 := rfl
          rw [hl0] at *
          go_wp2_with (go_at_call 18; go_fit (Equal_ints _ _ D D w9 hi1 hD9); rintro e w10 ⟨rfl, hb10⟩; rw [E8.out])
          have S10 := S9.step hb10
          clear hi1 hi2 hD9 hb10
          go_roundw
          case rel => exact ⟨k + 1, by omega, by go_num, S10⟩
          case measure => simp [intOf]; omega
      · have hke : ¬ ((k : Int) < (SV.length : Int)) := by omega
        go_wp2_with fail
        go_ret
        exact ⟨rfl, (S1.step (T2.step hUr.below).below).below⟩
  · have hne : (E != 0) = true := by simpa using hE
    go_upto_region 4 with (go_at_call 13; go_fit (told_any w2); rintro e w3 ⟨rfl, hb3⟩)
    go_wp2_with (go_at_call 13; go_fit (told_any w3); rintro e w4 ⟨rfl, hb4⟩)
    go_ret
    exact ⟨rfl, (S1.step ((T2.step hb3).step hb4).below).below⟩
end Go.Proofs.YtnidbghgadnjeaaGreat
