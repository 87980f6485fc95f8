/-
  Where nobody bends anything, and enough is there, a repair makes all shares again: then as many may go as were said. (Printed by wip/tools/mkmends.py.)
-/
import Derived.Test.YtnidbghgadnjeaaGreatStraight
import Derived.Test.YtnidbghgadnjeaaGreatMendLaw
import Derived.Test.YtnidbghgadnjeaaGreatSaved
import Derived.Test.YtnidbghgadnjeaaGreatTold
import Derived.Test.YtnidbghgadnjeaaGreatRun
import Derived.Test.YtnidbghgadnjeaaGreatSpare
import Derived.Test.YtnidbghgadnjeaaGreatWovens
import Derived.Test.YtnidbghgadnjeaaGreatVotes
namespace Go.Proofs.YtnidbghgadnjeaaGreat
open Go.RowKit

theorem BoxM.fewer {D D' : Nat → Prop} {w : World} {v1 v2 : Value} {m : Me} (h : BoxM D w v1 v2 m) (hD : ∀ k, D' k → D k) : BoxM D' w v1 v2 m := fun w' hw => h w' (hw.mono fun k _ hk => hD k hk)
theorem Good.some {b : List Ver} {ps : List Pr} {saved : List (List Int)} (h : Good (b, ps) saved) {kk : Nat} {D : List Int} (hD : saved[kk]? = some D) (hs : 0 ≤ spareV (b, ps) (kk : Int)) : 1 ≤ ps.length := by
  cases ps with
  | cons p ps => simp
  | nil =>
    obtain ⟨pr, n, o, s, hx, hp, _⟩ := good_plan h hD
    have hb := planV_bd (splitE_zero hp).1
    rw [spareV_eq (h.rest hD).1, show planAt b (kk : Int) = _ from planAt_get hx] at hs
    simp [sharesM] at hs
    omega

set_option linter.unusedSimpArgs false in
set_option maxRecDepth 100000 in
set_option maxHeartbeats 8000000 in
theorem TaleMends_walk (vr : Value) (room : List Int) (vl : Value) (l : List Hp) (vn : Value) (n : Int) (vg : Value) (gone : List Int) (W : World) (hr : IsInts W vr room) (hl : IsHaps W vl l) (hn : IsInt vn n) (hg : IsInts W vg gone) (hrb : room.length ≤ 1900000) (hlb : l.length ≤ 2000000) :
    Calls Tryz.prog 4 #[vr, vl, vn, vg] W fun e w' => e = .returned (.bool true) ∧ Below W.heap.size W w' := by
  obtain ⟨ar, cr, rfl, _⟩ := hr.opened
  obtain ⟨al, cl, rfl, _⟩ := hl.opened
  obtain ⟨rfl, hn0, hn1⟩ := hn
  obtain ⟨ag, cg, rfl, hcg, ⟨hgm, hgc, _⟩, _⟩ := hg.opened
  have HGN : Hid (∀ w', Since W.heap.size W w' → IsInts w' (.slice ag gone.length cg) gone) := Lib.hid (fun w' q => hg.stays q.below)
  have HR : Hid (∀ w', Since W.heap.size W w' → IsInts w' (.slice ar room.length cr) room) := Lib.hid (fun w' q => hr.stays q.below)
  have HS := Lib.hid (straight_any _ l W hl hlb)
  clear hr hl hg
  go_enter Tryz.func4, Tryz.ntmps4
  go_upto_region 2 with (go_at_call 11; go_fit HS.out; rintro e w1 ⟨⟨v1, rfl, h1⟩, hb1⟩; obtain ⟨a1, c1, rfl, _⟩ := h1.opened)
  have S1 := (Since.refl W).step hb1
  obtain ⟨h5, h60⟩ := strL_ok l
  have hTG : Hid (savedE room (strL l) = 0 → newE room = 0 ∧ runE (newC room) (strL l) = 0 ∧ Good (runM (newC room) (strL l)) (savedC room (strL l))) := Lib.hid (fun h => tale_good h h5 (by omega))
  clear h5 HS hb1
  generalize strL l = L at *
  have HSV := Lib.hid (Saved_any _ _ room L w1 (HR.out w1 S1) h1 hrb)
  generalize savedE room L = E at *
  generalize savedC room L = SV at *
  go_upto_region 3 with (go_at_call 12; go_fit HSV.out; rintro e w2 ⟨⟨v2, rfl, h2⟩, hb2⟩; obtain ⟨a2, c2, rfl, hc2, ⟨hm2, _, _⟩, _⟩ := h2.opened)
  have T2 := (Since.refl w1).step hb2
  have HL : Hid (∀ w', Since w1.heap.size w1 w' → IsHaps w' (.slice a1 L.length c1) L) := Lib.hid (fun w' q => h1.stays RHap.stays q.below)
  have HSR : Hid (∀ w', Since w2.heap.size w2 w' → IsRow 1 RRow w' (.slice a2 SV.length c2) SV) := Lib.hid (fun w' q => h2.stays RRow.stays q.below)
  clear h1 h2 hb2 HSV
  by_cases hE : E = 0
  · obtain ⟨hN, hRE, hG⟩ := hTG.out hE
    have HG := Lib.hid hG
    have HN := Lib.hid hN
    have HRE := Lib.hid hRE
    clear hTG hG hN hRE
    subst hE
    by_cases hSV : SV = []
    · subst hSV
      have hl0 : ([] : List (List Int)).length = 0 := rfl
      rw [hl0] at *
      go_upto_region 4 with (go_at_call 13; go_fit (told_any w2); rintro e w3 ⟨rfl, hb3⟩)
      go_wp2_with (go_at_call 13; go_fit (told_any w3); rintro e w4 ⟨rfl, hb4⟩)
      go_ret
      exact ⟨rfl, (S1.step ((T2.step hb3).step hb4).below).below⟩
    have hSVp : 0 < SV.length := List.length_pos_iff.2 hSV
    have hSVI : ((SV.length : Int) == 0) = false := by simp; omega
    clear hSV
    go_upto_region 5 with (go_at_call 13; go_fit (told_any w2); rintro e w3 ⟨rfl, hb3⟩)
    have U3 := (Since.refl w2).step hb3
    have V3 := T2.step hb3
    have HNW := Lib.hid (New_any _ room w3 (HR.out w3 (S1.step V3.below)) hrb)
    rw [HN.out] at HNW
    go_upto_region 6 with (go_at_call 14; go_fit HNW.out; rintro e w4 ⟨⟨u1, u2, rfl, ho4⟩, hb4⟩; obtain ⟨x1, e1, rfl, _⟩ := ho4.vers.opened; obtain ⟨x2, e2, rfl, _⟩ := ho4.peers.opened)
    generalize hM0 : newC room = M0 at *
    have BX := below_alloc w4 (.cells #[.slice x1 M0.1.length e1, .slice x2 M0.2.length e2] 35)
    have U5 := (U3.step hb4).alloc (.cells #[.slice x1 M0.1.length e1, .slice x2 M0.2.length e2] 35)
    have V5 := (V3.step hb4).alloc (.cells #[.slice x1 M0.1.length e1, .slice x2 M0.2.length e2] 35)
    have z0 : (w4.alloc (.cells #[.slice x1 M0.1.length e1, .slice x2 M0.2.length e2] 35)).cell? ⟨w4.heap.size, 0, none⟩ = some (.slice x1 M0.1.length e1) := by go_simp
    have z1 : (w4.alloc (.cells #[.slice x1 M0.1.length e1, .slice x2 M0.2.length e2] 35)).cell? ⟨w4.heap.size, 1, none⟩ = some (.slice x2 M0.2.length e2) := by go_simp
    have z2 : ∀ j, (w4.alloc (.cells #[.slice x1 M0.1.length e1, .slice x2 M0.2.length e2] 35)).frozen? ⟨w4.heap.size, j, none⟩ = false := by intro j; go_simp
    have hv5 := ho4.vers.stays RVer.stays BX
    have hp5 := ho4.peers.stays RPeer.stays BX
    have hW4 : w2.heap.size ≤ w4.heap.size := Nat.le_trans U3.2 hb4.size
    have hz5 : w4.heap.size < (w4.alloc (.cells #[.slice x1 M0.1.length e1, .slice x2 M0.2.length e2] 35)).heap.size := by simp
    generalize w4.alloc (.cells #[.slice x1 M0.1.length e1, .slice x2 M0.2.length e2] 35) = w5 at *
    obtain ⟨B, hB⟩ : ∃ B, B = w4.heap.size := ⟨_, rfl⟩
    rw [← hB] at z0 z1 z2 hW4 hz5 ⊢
    clear hB ho4 hb4 BX HNW hM0
    have HRN := Lib.hid (Run_any _ _ _ M0.1 M0.2 L w5 hv5 hp5 (HL.out w5 V5))
    rw [show runE (M0.1, M0.2) L = 0 from HRE.out] at HRN
    have HG2 : Hid (Good (runM (M0.1, M0.2) L) SV) := Lib.hid HG.out
    have y0 := z2 0
    have y1 := z2 1
    clear HG HRE hv5 hp5
    generalize runM (M0.1, M0.2) L = M at *
    generalize runS (M0.1, M0.2) L = SD at *
    go_upto_region 9 with (go_at_call 15; go_fit HRN.out; rintro e w6 ⟨⟨u1, u2, us, rfl, hq⟩, hb6⟩; obtain ⟨hv6, hp6, hs6⟩ := hq w6 (Dirty.refl _ _); obtain ⟨q1, f1, rfl, _⟩ := hv6.opened; obtain ⟨q2, f2, rfl, _⟩ := hp6.opened; obtain ⟨q3, f3, rfl, _⟩ := hs6.opened; have z0 := below_cell hb6 z0; have z1 := below_cell hb6 z1; have y0 := (hb6.frozen (p := ⟨B, 0, none⟩) hz5).trans y0; have y1 := (hb6.frozen (p := ⟨B, 1, none⟩) hz5).trans y1)
    have hd7 : Dirty (fun j => j = B) w6 ((w6.setCell ⟨B, 0, none⟩ (.slice q1 M.1.length f1)).setCell ⟨B, 1, none⟩ (.slice q2 M.2.length f2)) := (Dirty.of_grown ((grown_setCell w6 ⟨B, 0, none⟩ (.slice q1 M.1.length f1)).trans (grown_setCell _ ⟨B, 1, none⟩ (.slice q2 M.2.length f2)))).mono fun j _ hj => by cases hj; rfl
    obtain ⟨hv7, hp7, _⟩ := hq _ (hd7.mono fun j _ hj => by rw [hj]; exact hz5)
    have U7 := ((U5.step hb6).setCell (a := ⟨B, 0, none⟩) hW4 (.slice q1 M.1.length f1)).setCell (a := ⟨B, 1, none⟩) hW4 (.slice q2 M.2.length f2)
    have t0 : ((w6.setCell ⟨B, 0, none⟩ (.slice q1 M.1.length f1)).setCell ⟨B, 1, none⟩ (.slice q2 M.2.length f2)).cell? ⟨B, 0, none⟩ = some (.slice q1 M.1.length f1) := by go_simp
    have t1 : ((w6.setCell ⟨B, 0, none⟩ (.slice q1 M.1.length f1)).setCell ⟨B, 1, none⟩ (.slice q2 M.2.length f2)).cell? ⟨B, 1, none⟩ = some (.slice q2 M.2.length f2) := by go_simp
    clear hq hv6 hp6 hs6 hb6 z0 z1 z2 y0 y1 hd7 HRN
    generalize (w6.setCell ⟨B, 0, none⟩ (.slice q1 M.1.length f1)).setCell ⟨B, 1, none⟩ (.slice q2 M.2.length f2) = w7 at *
    obtain ⟨N, hN⟩ : ∃ N, N = M.1.length := ⟨_, rfl⟩
    have HVV : Hid (IsVers w7 (.slice q1 N f1) M.1) := Lib.hid (by rw [hN]; exact hv7)
    have HSL := Lib.hid HG2.out.len
    rw [← hN] at t0 HSL ⊢
    have hNS : N = SV.length := HSL.out.symm
    subst hNS
    clear hN hv7 HSL
    have HF : Hid (∀ w', Since w7.heap.size w7 w' → w'.cell? ⟨B, 0, none⟩ = some (.slice q1 SV.length f1) ∧ w'.cell? ⟨B, 1, none⟩ = some (.slice q2 M.2.length f2) ∧ IsVers w' (.slice q1 SV.length f1) M.1 ∧ IsPeers w' (.slice q2 M.2.length f2) M.2) := Lib.hid (fun w' q => ⟨below_cell q.below t0, below_cell q.below t1, HVV.out.stays RVer.stays q.below, hp7.stays RPeer.stays q.below⟩)
    clear HVV hp7
    have hSV12 : SV.length ≤ 12 := by
      have h1 := (bookV_ok.1 (placeV_ok.1 HG2.out.mesh).1).top
      have h2 := HG2.out.len
      omega
    go_upto_region 11 with fail
    clear t0 t1
    obtain ⟨d0, d1, hv7, hp7⟩ := HF.out w7 (Since.refl _)
    obtain ⟨hk2, hk3⟩ := modV_bd n (show (1 : Int) ≤ (SV.length : Int) by omega)
    obtain ⟨nn, hnn⟩ := Int.eq_ofNat_of_zero_le hk2
    have hAT := Lib.hid (at_any n (SV.length : Int) w7 hn0 hn1 (by omega) (by omega))
    have HNN := Lib.hid hnn
    have hnl : nn < SV.length := by omega
    have hin : I64 (nn : Int) := ⟨by omega, by omega⟩
    have hin0 : I64 0 := ⟨by omega, by omega⟩
    clear hk2 hk3 hnn
    go_upto_region 12 with (go_at_call 19; go_fit hAT.out; rintro e w' ⟨rfl, rfl⟩; rw [HNN.out])
    have hget := List.getElem?_eq_getElem hnl
    have HGET := Lib.hid hget
    generalize SV[nn] = D at *
    clear hget
    obtain ⟨mb, mp⟩ := M
    simp only at HG2 HF hv7 hp7 d0 d1
    have HDO := Lib.hid (Do_any _ _ _ _ mb mp 6 nn 0 [] [] 0 0 w7 hv7 hp7 (IsInts.nil _) (IsInts.nil _) hin hin0 hin0 hin0)
    have hDE : doE (mb, mp) (6, (nn : Int), 0, [], [], 0, 0) = repairE (mb, mp) nn ∧ doC (mb, mp) (6, (nn : Int), 0, [], [], 0, 0) = repairC (mb, mp) nn := by
      have hm : meshV (mb, mp) = 0 := HG2.out.mesh
      exact ⟨by unfold doE; simp [hm], by unfold doC; simp [hm]⟩
    rw [hDE.1, hDE.2] at HDO
    have HER : Hid (repairE (mb, mp) nn = 0 ∨ repairE (mb, mp) nn = 7) := Lib.hid (HG2.out.mend_err HGET.out)
    obtain ⟨pr, pn, po, pz, hvx, hpz, hpo⟩ := good_plan HG2.out HGET.out
    simp only at hvx
    have HVX := Lib.hid hvx
    have HMD : Hid (repairE (mb, mp) nn = 0 → Good (repairC (mb, mp) nn) SV ∧ (repairC (mb, mp) nn).1 = mb ∧ readyE (repairC (mb, mp) nn) nn = 0 ∧ spareV (repairC (mb, mp) nn) nn = (po : Int) - (pn : Int)) := Lib.hid (fun h => HG2.out.mended HVX.out h)
    have hpb := planV_bd (splitE_zero hpz).1
    clear hDE hvx hpz
    generalize repairE (mb, mp) nn = E at *
    generalize repairC (mb, mp) nn = X at *
    go_upto_region 13 with (go_at_call 20; go_fit HDO.out; rintro e w8 ⟨⟨u1, u2, rfl, ho8⟩, hb8⟩; obtain ⟨yv, ev, rfl, _⟩ := ho8.vers.opened; obtain ⟨yp, ep, rfl, _⟩ := ho8.peers.opened)
    clear d0 d1 hv7 hp7 HDO
    have BY := below_alloc w8 (.cells #[.slice yv X.1.length ev, .slice yp X.2.length ep] 35)
    have U9 := (U7.step hb8).alloc (.cells #[.slice yv X.1.length ev, .slice yp X.2.length ep] 35)
    have c0 : (w8.alloc (.cells #[.slice yv X.1.length ev, .slice yp X.2.length ep] 35)).cell? ⟨w8.heap.size, 0, none⟩ = some (.slice yv X.1.length ev) := by go_simp
    have c1 : (w8.alloc (.cells #[.slice yv X.1.length ev, .slice yp X.2.length ep] 35)).cell? ⟨w8.heap.size, 1, none⟩ = some (.slice yp X.2.length ep) := by go_simp
    have cf : ∀ j, (w8.alloc (.cells #[.slice yv X.1.length ev, .slice yp X.2.length ep] 35)).frozen? ⟨w8.heap.size, j, none⟩ = false := by intro j; go_simp
    have hbx : BoxM (fun k => k = w8.heap.size) (w8.alloc (.cells #[.slice yv X.1.length ev, .slice yp X.2.length ep] 35)) (.slice yv X.1.length ev) (.slice yp X.2.length ep) X := BoxM.of (ho8.toT.stays BY) (fun k hk => Or.inr (by rw [hk]; exact Nat.le_refl _))
    have hC2 : w2.heap.size ≤ w8.heap.size := (U7.step hb8).2
    have hCs : w8.heap.size < (w8.alloc (.cells #[.slice yv X.1.length ev, .slice yp X.2.length ep] 35)).heap.size := by simp
    generalize w8.alloc (.cells #[.slice yv X.1.length ev, .slice yp X.2.length ep] 35) = w9 at *
    obtain ⟨C, hC⟩ : ∃ C, C = w8.heap.size := ⟨_, rfl⟩
    rw [← hC] at c0 c1 cf hbx hC2 hCs ⊢
    clear hC ho8 hb8 BY
    rcases HER.out with rfl | rfl
    · obtain ⟨hGX, hxb, hrd, hspv⟩ := HMD.out rfl
      obtain ⟨q1, q2, q3, q4, q5, q6⟩ := hpb
      obtain ⟨sp, hsp⟩ : ∃ sp : Nat, (po : Int) - (pn : Int) = (sp : Int) := ⟨po - pn, by omega⟩
      rw [hsp] at hspv
      obtain ⟨hv9, hp9⟩ := hbx.now
      have HRD : Hid (readyE (X.1, X.2) (nn : Int) = 0) := Lib.hid hrd
      have HSP : Hid (spareV (X.1, X.2) (nn : Int) = (sp : Int)) := Lib.hid hspv
      have HBX0 := Lib.hid hbx
      have HCF := Lib.hid cf
      have HGX := Lib.hid hGX
      have HXB := Lib.hid hxb
      have HSPQ := Lib.hid hsp
      clear hbx cf hGX hxb hrd hspv HMD HER hsp
      go_upto_region 16 with (go_at_call 16; go_fit (Spare_any _ X.1 _ X.2 (nn : Int) w9 hv9 hp9); rintro e w10 ⟨rfl, hb10⟩; rw [HRD.out, HSP.out])
      have U10 := U9.step hb10
      have hC10 : C < w10.heap.size := Nat.lt_of_lt_of_le hCs hb10.size
      have HBX1 := Lib.hid (HBX0.out.stays hb10)
      have d0 := below_cell hb10 c0
      have d1 := below_cell hb10 c1
      have HCF1 := Lib.hid (fun j => (hb10.frozen (p := ⟨C, j, none⟩) hCs).trans (HCF.out j))
      clear c0 c1 hv9 hp9 hb10 HBX0 HCF
      have hxn : X.1[nn]? = some (pr, (pn : Int), (po : Int), (pz : Int)) := by rw [HXB.out]; exact HVX.out
      obtain ⟨gv, ov, uv, cv, ea, _, k1, k2, k3, _, i1, i2, i3⟩ := vers_at HBX1.out.now.1 hxn
      have hXl : X.1.length = SV.length := by rw [HXB.out]; exact HG2.out.len.symm
      subst ea
      rw [hXl] at d0
      clear hxn
      simp only at k1 k2 k3 i1 i2 i3
      have BP := below_alloc w10 (.cells #[.int .i64 pn, .int .i64 po, .int .i64 pz] 52)
      have U11 := U10.alloc (.cells #[.int .i64 pn, .int .i64 po, .int .i64 pz] 52)
      have d0' := below_cell BP d0
      have d1' := below_cell BP d1
      have HCF2 := Lib.hid (fun j => (BP.frozen (p := ⟨C, j, none⟩) hC10).trans (HCF1.out j))
      have HBX2 := Lib.hid (HBX1.out.stays BP)
      have hC11 : C < (w10.alloc (.cells #[.int .i64 pn, .int .i64 po, .int .i64 pz] 52)).heap.size := Nat.lt_of_lt_of_le hC10 BP.size
      have hsq : ((sp : Int) != (po : Int) - (pn : Int)) = false := by rw [HSPQ.out]; simp
      have hpp := HSPQ.out
      go_upto_region 17 with fail
      clear k1 k2 k3 d0 d1 HCF1 HBX1 BP
      obtain ⟨J, hJ, hJ1, hJ2⟩ : ∃ J : Nat, min (gone.length : Int) (sp : Int) = (J : Int) ∧ J ≤ gone.length ∧ J ≤ sp := ⟨min gone.length sp, by omega, by omega, by omega⟩
      have b1 : (J : Int) ≤ (cg : Int) := by omega
      have b0 : (0 : Int) ≤ (J : Int) := by omega
      have z0 : (w10.alloc (.cells #[.int .i64 pn, .int .i64 po, .int .i64 pz] 52)).cell? ⟨w10.heap.size, 0, none⟩ = some (.int .i64 pn) := by go_simp
      have z1 : (w10.alloc (.cells #[.int .i64 pn, .int .i64 po, .int .i64 pz] 52)).cell? ⟨w10.heap.size, 1, none⟩ = some (.int .i64 po) := by go_simp
      generalize w10.alloc (.cells #[.int .i64 pn, .int .i64 po, .int .i64 pz] 52) = w11 at *
      obtain ⟨PN, hPN⟩ : ∃ PN, PN = X.2.length := ⟨_, rfl⟩
      rw [← hPN] at d1'
      have hPN8 : PN ≤ 8 := by rw [hPN]; exact (placeV_ok.1 HGX.out.mesh).2.1
      have hPN1 : 1 ≤ PN := by
        rw [hPN]
        obtain ⟨xb, xp⟩ := X
        exact HGX.out.some HGET.out (by rw [show spareV (xb, xp) (nn : Int) = (sp : Int) from HSP.out]; omega)
      have HST : Hid (BoxM (fun k => k = C) w11 (.slice (some ⟨gv, ov, none⟩) mb.length ev) (.slice yp PN ep) (mb, X.2)) := Lib.hid (by rw [hPN, ← HXB.out]; exact HBX2.out)
      have HGS : Hid (Good (mb, X.2) SV) := Lib.hid (by rw [← HXB.out]; exact HGX.out)
      have HSS0 : Hid ((sp : Int) ≤ spareV (mb, X.2) (nn : Int) + ((0 : Nat) : Int)) := Lib.hid (by rw [← HXB.out, HSP.out]; simp)
      have hSL : SV.length = mb.length := HG2.out.len
      rw [hSL] at d0'
      have HPL : Hid (X.2.length = PN) := Lib.hid hPN.symm
      clear hPN
      go_wp2_with fail
      clear z0 z1
      go_loopw [103] (fun i wr => ∃ (j : Nat) (qs : List Pr) (x1 : Option Addr) (q1 : Nat) (x2 : Option Addr) (q2 : Nat), j ≤ J ∧ i = .int .i64 j ∧ Since w2.heap.size w2 wr ∧ C < wr.heap.size ∧ BoxM (fun k => k = C) wr (.slice x1 mb.length q1) (.slice x2 PN q2) (mb, qs) ∧ (wr.cell? ⟨C, 0, none⟩ = some (.slice x1 mb.length q1) ∧ wr.cell? ⟨C, 1, none⟩ = some (.slice x2 PN q2) ∧ ∀ j, wr.frozen? ⟨C, j, none⟩ = false) ∧ Good (mb, qs) SV ∧ qs.length = PN ∧ (sp : Int) ≤ spareV (mb, qs) (nn : Int) + j) (fun i _ => J - (intOf i).toNat)
      case atStart => exact ⟨0, X.2, _, _, _, _, by omega, rfl, U11, hC11, HST.out, ⟨d0', d1', HCF2.out⟩, HGS.out, HPL.out, HSS0.out⟩
      case round =>
        clear d0' d1' HST HGS HSS0 HBX2 HCF2 HGX
        obtain ⟨j, qs, x1, q1', x2, q2', hj, rfl, hU, hBr, hbox, ⟨y0, y1', hZ⟩, hGq, hql, hspq⟩ := hrel
        have HBX := Lib.hid hbox
        have HZ := Lib.hid hZ
        clear hbox hZ
        by_cases hlt : j < J
        · have hz1 : gone[j]? = some gone[j] := List.getElem?_eq_getElem (by omega)
          obtain ⟨b1', o1, e0, q1x, hiz1, hiz2⟩ := ints_at (HGN.out wr (S1.step (T2.step hU.below).below)) hz1
          subst e0
          generalize gone[j] = z at *
          have hAT2 := Lib.hid (fun w => at_any z (PN : Int) w hiz1 hiz2 (by omega) (by omega))
          obtain ⟨g1, g2⟩ := modV_bd z (show (1 : Int) ≤ (PN : Int) by omega)
          generalize hqq : modV z (PN : Int) = qq at *
          have HLV0 : Hid (doE (mb, qs) (2, qq, 0, [], [], 0, 0) = 0 → ∃ qs', doC (mb, qs) (2, qq, 0, [], [], 0, 0) = (mb, qs') ∧ qs'.length = qs.length ∧ Good (mb, qs') SV ∧ spareV (mb, qs) (nn : Int) ≤ spareV (mb, qs') (nn : Int) + 1) := Lib.hid (fun h => hGq.leave HGET.out h)
          have iq : I64 qq := ⟨by omega, by omega⟩
          have i2' : I64 2 := ⟨by omega, by omega⟩
          have HDO0 : Hid (∀ w, Below wr.heap.size wr w → Calls Tryz.prog 20 #[.agg #[.slice x1 mb.length q1', .slice x2 PN q2'], .agg #[.int .i64 2, .int .i64 qq, .int .i64 0, .slice none 0 0, .slice none 0 0, .int .i64 0, .int .i64 0]] w fun e w' => (∃ u1 u2, e = .returned (.tuple #[.agg #[u1, u2], .int .i64 (doE (mb, qs) (2, qq, 0, [], [], 0, 0))]) ∧ OwnM (fun k => k < w.heap.size) w' w.heap.size u1 u2 (doC (mb, qs) (2, qq, 0, [], [], 0, 0))) ∧ Below w.heap.size w w') := Lib.hid (fun w hw => Do_any _ _ _ _ mb qs 2 qq 0 [] [] 0 0 w (HBX.out.stays hw).now.1 (HBX.out.stays hw).now.2 (IsInts.nil _) (IsInts.nil _) iq hin0 hin0 hin0)
          generalize doE (mb, qs) (2, qq, 0, [], [], 0, 0) = EE at *
          generalize doC (mb, qs) (2, qq, 0, [], [], 0, 0) = YY at *
          have HDO := HDO0
          have HLV := HLV0
          have HSS : Hid (∀ w', Below wr.heap.size wr w' → w'.cell? ⟨C, 0, none⟩ = some (.slice x1 mb.length q1') ∧ w'.cell? ⟨C, 1, none⟩ = some (.slice x2 PN q2')) := Lib.hid (fun w' h => ⟨below_cell h y0, below_cell h y1'⟩)
          have jJ : (j : Int) < (J : Int) := by omega
          clear HDO0 HLV0 hqq hz1
          go_upto_region 22 with fail
          clear y0 y1' q1x
          have hdr : Below wr.heap.size wr wr.drew := ((Since.refl wr).drew).below
          have hH := HSS.out _ hdr
          go_cut [17, 18] (fun s17 s18 wx => s18 = .int .i64 EE ∧ ∃ (g9 : Nat) (y1 : Option Addr) (e1 : Nat) (y2 : Option Addr) (e2 : Nat), s17 = .pointer (some ⟨g9, 0, none⟩) ∧ ∃ wz, wz = wx ∧ Since wr.heap.size wr wz ∧ wz.cell? ⟨g9, 0, none⟩ = some (.slice y1 YY.1.length e1) ∧ wz.cell? ⟨g9, 1, none⟩ = some (.slice y2 YY.2.length e2) ∧ BoxM (fun j => j = C) wz (.slice y1 YY.1.length e1) (.slice y2 YY.2.length e2) YY)
          case first =>
            refine wp_region_held_drew (S := fun w' => w'.cell? ⟨C, 0, none⟩ = some (.slice x1 mb.length q1') ∧ w'.cell? ⟨C, 1, none⟩ = some (.slice x2 PN q2')) (by kernel_rfl) hH (fun _ => ?_)
            refine wpAnyH_take (i := 0) (v := ?v0) rfl (by kernel_rfl) (by kernel_rfl) (by kernel_rfl) (fun _ _ _ h => h) (Or.inl ⟨by rfl, ?hy0⟩) (by assumption) ?r0
            case hy0 => (intro w hSw; (try dsimp only at hSw); go_simp <;> with_reducible rfl)
            simp only [Act.put, List.setIfInBounds_toArray, List.set_cons_zero, List.set_cons_succ]
            refine wpAnyH_take (i := 1) (v := ?v1) rfl (by kernel_rfl) (by kernel_rfl) (by kernel_rfl) (fun _ _ _ h => h) (Or.inl ⟨by rfl, ?hy1⟩) (by assumption) ?r1
            case hy1 => (intro w hSw; (try dsimp only at hSw); go_simp <;> with_reducible rfl)
            simp only [Act.put, List.setIfInBounds_toArray, List.set_cons_zero, List.set_cons_succ]
            refine wpAnyH_take (i := 2) (v := ?v2) rfl (by kernel_rfl) (by kernel_rfl) (by kernel_rfl) (fun _ _ _ h => h) (Or.inl ⟨by rfl, ?hy2⟩) (by assumption) ?r2
            case hy2 => (intro w hSw; (try dsimp only at hSw); go_simp <;> with_reducible rfl)
            simp only [Act.put, List.setIfInBounds_toArray, List.set_cons_zero, List.set_cons_succ]
            refine wpAnyH_take (i := 3) (v := ?v3) rfl (by kernel_rfl) (by kernel_rfl) (by kernel_rfl) (fun _ _ _ h => h) (Or.inl ⟨by rfl, ?hy3⟩) (by assumption) ?r3
            case hy3 => (intro w hSw; (try dsimp only at hSw); go_simp <;> with_reducible rfl)
            simp only [Act.put, List.setIfInBounds_toArray, List.set_cons_zero, List.set_cons_succ]
            refine wpAnyH_take (i := 4) (v := ?v4) rfl (by kernel_rfl) (by kernel_rfl) (by kernel_rfl) (fun _ _ _ h => h) (Or.inl ⟨by rfl, ?hy4⟩) (by assumption) ?r4
            case hy4 => (intro w hSw; (try dsimp only at hSw); go_simp <;> with_reducible rfl)
            simp only [Act.put, List.setIfInBounds_toArray, List.set_cons_zero, List.set_cons_succ]
            refine wpAnyH_ready (rs := [5, 11]) (by kernel_rfl) (by simp) ?_
            refine AllReadyH.cons (o := ?o5) ?ho5 (fun K' hK' => ?k5) (AllReadyH.cons (o := ?o11) ?ho11 (fun K' hK' => ?k11) AllReadyH.nil)
            case ho5 => (simp only [List.getElem?_toArray, List.getElem?_cons_succ, List.getElem?_cons_zero]; rfl)
            case ho11 => (simp only [List.getElem?_toArray, List.getElem?_cons_succ, List.getElem?_cons_zero]; rfl)
            case k5 =>
              go_simp
              go_at_call 19
              go_fit (hAT2.out _)
              rintro e w' ⟨rfl, rfl⟩
              try go_wp2_with fail
              refine hK'.out _ _ hH (fun _ => ?_)
              clear hK' K'
              refine wpAnyH_take (i := 6) (v := ?va6) rfl (by kernel_rfl) (by kernel_rfl) (by kernel_rfl) (fun _ _ _ h => h) (Or.inl ⟨by rfl, ?hya6⟩) (by exact hH) ?ra6
              case hya6 => (intro w hSw; (try dsimp only at hSw); go_simp <;> with_reducible rfl)
              simp only [Act.put, List.setIfInBounds_toArray, List.set_cons_zero, List.set_cons_succ]
              refine wpAnyH_ready (rs := [7, 11]) (by kernel_rfl) (by simp) ?_
              refine AllReadyH.cons (o := ?oa7) ?hoa7 (fun K' hK' => ?ka7) (AllReadyH.cons (o := ?oa11) ?hoa11 (fun K' hK' => ?ka11) AllReadyH.nil)
              case hoa7 => (simp only [List.getElem?_toArray, List.getElem?_cons_succ, List.getElem?_cons_zero]; rfl)
              case hoa11 => (simp only [List.getElem?_toArray, List.getElem?_cons_succ, List.getElem?_cons_zero]; rfl)
              case ka7 =>
                go_simp
                go_at_call 20
                go_fit (HDO.out _ hdr)
                rintro e w5 ⟨⟨u1, u2, rfl, ho5⟩, hb5⟩
                obtain ⟨y1, e1, rfl, _⟩ := ho5.vers.opened
                obtain ⟨y2, e2, rfl, _⟩ := ho5.peers.opened
                try go_wp2_with fail
                have S5 := (Since.refl wr).drew.step hb5
                refine hK'.out _ _ (HSS.out _ S5.below) (fun _ => ?_)
                clear hK' K'
                refine wpAnyH_take (i := 8) (v := ?va18) rfl (by kernel_rfl) (by kernel_rfl) (by kernel_rfl) (fun _ _ _ h => h) (Or.inl ⟨by rfl, ?hya18⟩) (by exact HSS.out _ S5.below) ?ra18
                case hya18 => (intro w hSw; (try dsimp only at hSw); go_simp <;> with_reducible rfl)
                simp only [Act.put, List.setIfInBounds_toArray, List.set_cons_zero, List.set_cons_succ]
                refine wpAnyH_take (i := 9) (v := ?va19) rfl (by kernel_rfl) (by kernel_rfl) (by kernel_rfl) (fun _ _ _ h => h) (Or.inl ⟨by rfl, ?hya19⟩) (by exact HSS.out _ S5.below) ?ra19
                case hya19 => (intro w hSw; (try dsimp only at hSw); go_simp <;> with_reducible rfl)
                simp only [Act.put, List.setIfInBounds_toArray, List.set_cons_zero, List.set_cons_succ]
                refine wpAnyH_take (i := 10) (v := ?va110) rfl (by kernel_rfl) (by kernel_rfl) (by kernel_rfl) (fun _ _ _ h => h) (Or.inl ⟨by rfl, ?hya110⟩) (by exact HSS.out _ S5.below) ?ra110
                case hya110 => (intro w hSw; (try dsimp only at hSw); go_simp <;> with_reducible rfl)
                simp only [Act.put, List.setIfInBounds_toArray, List.set_cons_zero, List.set_cons_succ]
                refine wpAnyH_ready (rs := [11]) (by kernel_rfl) (by simp) ?_
                refine AllReadyH.cons (o := ?oa111) ?hoa111 (fun K' hK' => ?ka111) AllReadyH.nil
                case hoa111 => (simp only [List.getElem?_toArray, List.getElem?_cons_succ, List.getElem?_cons_zero]; rfl)
                go_simp
                have BA := below_alloc w5 (.cells #[.slice none 0 0, .slice none 0 0] 35)
                have SA := S5.alloc (.cells #[.slice none 0 0, .slice none 0 0] 35)
                refine hK'.out _ _ (HSS.out _ SA.below) (fun _ => ?_)
                clear hK' K'
                clear BA SA
                have hY5 := ho5
                have BA := below_alloc w5 (.cells #[.slice y1 YY.1.length e1, .slice y2 YY.2.length e2] 35)
                have S9 := S5.alloc (.cells #[.slice y1 YY.1.length e1, .slice y2 YY.2.length e2] 35)
                have HY9 := BoxM.of (hY5.toT.stays BA) (D := fun j => j = C) (fun k hk => Or.inl (by rw [hk]; exact ⟨hBr, hBr⟩))
                have v0 : (w5.alloc (.cells #[.slice y1 YY.1.length e1, .slice y2 YY.2.length e2] 35)).cell? ⟨w5.heap.size, 0, none⟩ = some (.slice y1 YY.1.length e1) := by go_simp
                have v1 : (w5.alloc (.cells #[.slice y1 YY.1.length e1, .slice y2 YY.2.length e2] 35)).cell? ⟨w5.heap.size, 1, none⟩ = some (.slice y2 YY.2.length e2) := by go_simp
                clear hY5
                refine wpAnyH_ready (rs := [12]) (by kernel_rfl) (by simp) ?_
                refine AllReadyH.cons (o := ?oa312) ?hoa312 (fun K' hK' => ?ka312) AllReadyH.nil
                case hoa312 => (simp only [List.getElem?_toArray, List.getElem?_cons_succ, List.getElem?_cons_zero]; rfl)
                go_simp
                refine hK'.out _ _ (HSS.out _ S9.below) (fun _ => ?_)
                clear hK' K'
                refine wpAnyH_take (i := 13) (v := ?va313) rfl (by kernel_rfl) (by kernel_rfl) (by kernel_rfl) (fun _ _ _ h => h) (Or.inl ⟨by rfl, ?hya313⟩) (by exact HSS.out _ S9.below) ?ra313
                case hya313 => (intro w hSw; (try dsimp only at hSw); go_simp <;> with_reducible rfl)
                simp only [Act.put, List.setIfInBounds_toArray, List.set_cons_zero, List.set_cons_succ]
                refine wpAnyH_done (by kernel_rfl) ?_ _
                go_simp
                go_wp2_with fail
                go_meet
                exact ⟨rfl, _, _, _, _, _, rfl, _, rfl, S9, v0, v1, HY9⟩
              case ka11 =>
                go_simp
                have HWA := Lib.hid (((Since.refl wr).alloc (.cells #[.slice none 0 0, .slice none 0 0] 35)).drew)
                have r0 : ((wr.alloc (.cells #[.slice none 0 0, .slice none 0 0] 35)).drew).cell? ⟨wr.heap.size, 0, none⟩ = some (.slice none 0 0) := by go_simp
                have r1 : ((wr.alloc (.cells #[.slice none 0 0, .slice none 0 0] 35)).drew).cell? ⟨wr.heap.size, 1, none⟩ = some (.slice none 0 0) := by go_simp
                have r2 : ((wr.alloc (.cells #[.slice none 0 0, .slice none 0 0] 35)).drew).frozen? ⟨wr.heap.size, 0, none⟩ = false := by go_simp
                have r3 : ((wr.alloc (.cells #[.slice none 0 0, .slice none 0 0] 35)).drew).frozen? ⟨wr.heap.size, 1, none⟩ = false := by go_simp
                have hgwa : wr.heap.size < ((wr.alloc (.cells #[.slice none 0 0, .slice none 0 0] 35)).drew).heap.size := by simp
                have hBwa : C < ((wr.alloc (.cells #[.slice none 0 0, .slice none 0 0] 35)).drew).heap.size := Nat.lt_trans hBr hgwa
                refine hK'.out _ _ (HSS.out _ HWA.out.below) (fun _ => ?_)
                clear hK' K'
                generalize (wr.alloc (.cells #[.slice none 0 0, .slice none 0 0] 35)).drew = wa at *
                refine wpAnyH_ready (rs := [7]) (by kernel_rfl) (by simp) ?_
                refine AllReadyH.cons (o := ?oa27) ?hoa27 (fun K' hK' => ?ka27) AllReadyH.nil
                case hoa27 => (simp only [List.getElem?_toArray, List.getElem?_cons_succ, List.getElem?_cons_zero]; rfl)
                go_simp
                go_at_call 20
                go_fit (HDO.out _ HWA.out.below)
                rintro e w5 ⟨⟨u1, u2, rfl, ho5⟩, hb5⟩
                obtain ⟨y1, e1, rfl, _⟩ := ho5.vers.opened
                obtain ⟨y2, e2, rfl, _⟩ := ho5.peers.opened
                try go_wp2_with fail
                have S5 := HWA.out.step hb5
                refine hK'.out _ _ (HSS.out _ S5.below) (fun _ => ?_)
                clear hK' K'
                refine wpAnyH_take (i := 8) (v := ?va28) rfl (by kernel_rfl) (by kernel_rfl) (by kernel_rfl) (fun _ _ _ h => h) (Or.inl ⟨by rfl, ?hya28⟩) (by exact HSS.out _ S5.below) ?ra28
                case hya28 => (intro w hSw; (try dsimp only at hSw); go_simp <;> with_reducible rfl)
                simp only [Act.put, List.setIfInBounds_toArray, List.set_cons_zero, List.set_cons_succ]
                refine wpAnyH_take (i := 9) (v := ?va29) rfl (by kernel_rfl) (by kernel_rfl) (by kernel_rfl) (fun _ _ _ h => h) (Or.inl ⟨by rfl, ?hya29⟩) (by exact HSS.out _ S5.below) ?ra29
                case hya29 => (intro w hSw; (try dsimp only at hSw); go_simp <;> with_reducible rfl)
                simp only [Act.put, List.setIfInBounds_toArray, List.set_cons_zero, List.set_cons_succ]
                refine wpAnyH_take (i := 10) (v := ?va210) rfl (by kernel_rfl) (by kernel_rfl) (by kernel_rfl) (fun _ _ _ h => h) (Or.inl ⟨by rfl, ?hya210⟩) (by exact HSS.out _ S5.below) ?ra210
                case hya210 => (intro w hSw; (try dsimp only at hSw); go_simp <;> with_reducible rfl)
                simp only [Act.put, List.setIfInBounds_toArray, List.set_cons_zero, List.set_cons_succ]
                have HYX := Lib.hid (BoxM.of ho5.toT (D := fun j => j = C ∨ j = wr.heap.size) (fun k hk => Or.inl (hk.elim (fun e => by rw [e]; exact ⟨hBwa, hBwa⟩) (fun e => by rw [e]; exact ⟨hgwa, hgwa⟩))))
                have r0 := below_cell hb5 r0
                have r1 := below_cell hb5 r1
                have r2 := (hb5.frozen (p := ⟨wr.heap.size, 0, none⟩) hgwa).trans r2
                have r3 := (hb5.frozen (p := ⟨wr.heap.size, 1, none⟩) hgwa).trans r3
                clear ho5 hb5
                have hg9 : wr.heap.size ≤ wr.heap.size := Nat.le_refl _
                have S9 := (S5.setCell (a := ⟨wr.heap.size, 0, none⟩) hg9 (.slice y1 YY.1.length e1)).setCell (a := ⟨wr.heap.size, 1, none⟩) hg9 (.slice y2 YY.2.length e2)
                have hd9 : Dirty (fun j => j = wr.heap.size) w5 ((w5.setCell ⟨wr.heap.size, 0, none⟩ (.slice y1 YY.1.length e1)).setCell ⟨wr.heap.size, 1, none⟩ (.slice y2 YY.2.length e2)) := (Dirty.of_grown ((grown_setCell w5 ⟨wr.heap.size, 0, none⟩ (.slice y1 YY.1.length e1)).trans (grown_setCell _ ⟨wr.heap.size, 1, none⟩ (.slice y2 YY.2.length e2)))).mono fun j _ hj => by cases hj; rfl
                have HY9 := (HYX.out.later (hd9.mono fun _ _ h => Or.inr h)).fewer (D' := fun j => j = C) (fun _ h => Or.inl h)
                have v0 : ((w5.setCell ⟨wr.heap.size, 0, none⟩ (.slice y1 YY.1.length e1)).setCell ⟨wr.heap.size, 1, none⟩ (.slice y2 YY.2.length e2)).cell? ⟨wr.heap.size, 0, none⟩ = some (.slice y1 YY.1.length e1) := by go_simp
                have v1 : ((w5.setCell ⟨wr.heap.size, 0, none⟩ (.slice y1 YY.1.length e1)).setCell ⟨wr.heap.size, 1, none⟩ (.slice y2 YY.2.length e2)).cell? ⟨wr.heap.size, 1, none⟩ = some (.slice y2 YY.2.length e2) := by go_simp
                refine wpAnyH_ready (rs := [12]) (by kernel_rfl) (by simp) ?_
                refine AllReadyH.cons (o := ?oa2z12) ?hoa2z12 (fun K' hK' => ?ka2z12) AllReadyH.nil
                case hoa2z12 => (simp only [List.getElem?_toArray, List.getElem?_cons_succ, List.getElem?_cons_zero]; rfl)
                go_simp
                refine hK'.out _ _ (HSS.out _ S9.below) (fun _ => ?_)
                clear hK' K'
                refine wpAnyH_take (i := 13) (v := ?va2z13) rfl (by kernel_rfl) (by kernel_rfl) (by kernel_rfl) (fun _ _ _ h => h) (Or.inl ⟨by rfl, ?hya2z13⟩) (by exact HSS.out _ S9.below) ?ra2z13
                case hya2z13 => (intro w hSw; (try dsimp only at hSw); go_simp <;> with_reducible rfl)
                simp only [Act.put, List.setIfInBounds_toArray, List.set_cons_zero, List.set_cons_succ]
                refine wpAnyH_done (by kernel_rfl) ?_ _
                go_simp
                go_wp2_with fail
                go_meet
                exact ⟨rfl, _, _, _, _, _, rfl, _, rfl, S9, v0, v1, HY9⟩
            case k11 =>
              go_simp
              have HWA := Lib.hid (((Since.refl wr).alloc (.cells #[.slice none 0 0, .slice none 0 0] 35)).drew)
              have r0 : ((wr.alloc (.cells #[.slice none 0 0, .slice none 0 0] 35)).drew).cell? ⟨wr.heap.size, 0, none⟩ = some (.slice none 0 0) := by go_simp
              have r1 : ((wr.alloc (.cells #[.slice none 0 0, .slice none 0 0] 35)).drew).cell? ⟨wr.heap.size, 1, none⟩ = some (.slice none 0 0) := by go_simp
              have r2 : ((wr.alloc (.cells #[.slice none 0 0, .slice none 0 0] 35)).drew).frozen? ⟨wr.heap.size, 0, none⟩ = false := by go_simp
              have r3 : ((wr.alloc (.cells #[.slice none 0 0, .slice none 0 0] 35)).drew).frozen? ⟨wr.heap.size, 1, none⟩ = false := by go_simp
              have hgwa : wr.heap.size < ((wr.alloc (.cells #[.slice none 0 0, .slice none 0 0] 35)).drew).heap.size := by simp
              have hBwa : C < ((wr.alloc (.cells #[.slice none 0 0, .slice none 0 0] 35)).drew).heap.size := Nat.lt_trans hBr hgwa
              refine hK'.out _ _ (HSS.out _ HWA.out.below) (fun _ => ?_)
              clear hK' K'
              generalize (wr.alloc (.cells #[.slice none 0 0, .slice none 0 0] 35)).drew = wa at *
              refine wpAnyH_ready (rs := [5]) (by kernel_rfl) (by simp) ?_
              refine AllReadyH.cons (o := ?ob5) ?hob5 (fun K' hK' => ?kb5) AllReadyH.nil
              case hob5 => (simp only [List.getElem?_toArray, List.getElem?_cons_succ, List.getElem?_cons_zero]; rfl)
              go_simp
              go_at_call 19
              go_fit (hAT2.out _)
              rintro e w' ⟨rfl, rfl⟩
              try go_wp2_with fail
              refine hK'.out _ _ (HSS.out _ HWA.out.below) (fun _ => ?_)
              clear hK' K'
              refine wpAnyH_take (i := 6) (v := ?vb6) rfl (by kernel_rfl) (by kernel_rfl) (by kernel_rfl) (fun _ _ _ h => h) (Or.inl ⟨by rfl, ?hyb6⟩) (by exact HSS.out _ HWA.out.below) ?rb6
              case hyb6 => (intro w hSw; (try dsimp only at hSw); go_simp <;> with_reducible rfl)
              simp only [Act.put, List.setIfInBounds_toArray, List.set_cons_zero, List.set_cons_succ]
              refine wpAnyH_ready (rs := [7]) (by kernel_rfl) (by simp) ?_
              refine AllReadyH.cons (o := ?ob27) ?hob27 (fun K' hK' => ?kb27) AllReadyH.nil
              case hob27 => (simp only [List.getElem?_toArray, List.getElem?_cons_succ, List.getElem?_cons_zero]; rfl)
              go_simp
              go_at_call 20
              go_fit (HDO.out _ HWA.out.below)
              rintro e w5 ⟨⟨u1, u2, rfl, ho5⟩, hb5⟩
              obtain ⟨y1, e1, rfl, _⟩ := ho5.vers.opened
              obtain ⟨y2, e2, rfl, _⟩ := ho5.peers.opened
              try go_wp2_with fail
              have S5 := HWA.out.step hb5
              refine hK'.out _ _ (HSS.out _ S5.below) (fun _ => ?_)
              clear hK' K'
              refine wpAnyH_take (i := 8) (v := ?vb28) rfl (by kernel_rfl) (by kernel_rfl) (by kernel_rfl) (fun _ _ _ h => h) (Or.inl ⟨by rfl, ?hyb28⟩) (by exact HSS.out _ S5.below) ?rb28
              case hyb28 => (intro w hSw; (try dsimp only at hSw); go_simp <;> with_reducible rfl)
              simp only [Act.put, List.setIfInBounds_toArray, List.set_cons_zero, List.set_cons_succ]
              refine wpAnyH_take (i := 9) (v := ?vb29) rfl (by kernel_rfl) (by kernel_rfl) (by kernel_rfl) (fun _ _ _ h => h) (Or.inl ⟨by rfl, ?hyb29⟩) (by exact HSS.out _ S5.below) ?rb29
              case hyb29 => (intro w hSw; (try dsimp only at hSw); go_simp <;> with_reducible rfl)
              simp only [Act.put, List.setIfInBounds_toArray, List.set_cons_zero, List.set_cons_succ]
              refine wpAnyH_take (i := 10) (v := ?vb210) rfl (by kernel_rfl) (by kernel_rfl) (by kernel_rfl) (fun _ _ _ h => h) (Or.inl ⟨by rfl, ?hyb210⟩) (by exact HSS.out _ S5.below) ?rb210
              case hyb210 => (intro w hSw; (try dsimp only at hSw); go_simp <;> with_reducible rfl)
              simp only [Act.put, List.setIfInBounds_toArray, List.set_cons_zero, List.set_cons_succ]
              have HYX := Lib.hid (BoxM.of ho5.toT (D := fun j => j = C ∨ j = wr.heap.size) (fun k hk => Or.inl (hk.elim (fun e => by rw [e]; exact ⟨hBwa, hBwa⟩) (fun e => by rw [e]; exact ⟨hgwa, hgwa⟩))))
              have r0 := below_cell hb5 r0
              have r1 := below_cell hb5 r1
              have r2 := (hb5.frozen (p := ⟨wr.heap.size, 0, none⟩) hgwa).trans r2
              have r3 := (hb5.frozen (p := ⟨wr.heap.size, 1, none⟩) hgwa).trans r3
              clear ho5 hb5
              have hg9 : wr.heap.size ≤ wr.heap.size := Nat.le_refl _
              have S9 := (S5.setCell (a := ⟨wr.heap.size, 0, none⟩) hg9 (.slice y1 YY.1.length e1)).setCell (a := ⟨wr.heap.size, 1, none⟩) hg9 (.slice y2 YY.2.length e2)
              have hd9 : Dirty (fun j => j = wr.heap.size) w5 ((w5.setCell ⟨wr.heap.size, 0, none⟩ (.slice y1 YY.1.length e1)).setCell ⟨wr.heap.size, 1, none⟩ (.slice y2 YY.2.length e2)) := (Dirty.of_grown ((grown_setCell w5 ⟨wr.heap.size, 0, none⟩ (.slice y1 YY.1.length e1)).trans (grown_setCell _ ⟨wr.heap.size, 1, none⟩ (.slice y2 YY.2.length e2)))).mono fun j _ hj => by cases hj; rfl
              have HY9 := (HYX.out.later (hd9.mono fun _ _ h => Or.inr h)).fewer (D' := fun j => j = C) (fun _ h => Or.inl h)
              have v0 : ((w5.setCell ⟨wr.heap.size, 0, none⟩ (.slice y1 YY.1.length e1)).setCell ⟨wr.heap.size, 1, none⟩ (.slice y2 YY.2.length e2)).cell? ⟨wr.heap.size, 0, none⟩ = some (.slice y1 YY.1.length e1) := by go_simp
              have v1 : ((w5.setCell ⟨wr.heap.size, 0, none⟩ (.slice y1 YY.1.length e1)).setCell ⟨wr.heap.size, 1, none⟩ (.slice y2 YY.2.length e2)).cell? ⟨wr.heap.size, 1, none⟩ = some (.slice y2 YY.2.length e2) := by go_simp
              refine wpAnyH_ready (rs := [12]) (by kernel_rfl) (by simp) ?_
              refine AllReadyH.cons (o := ?ob2z12) ?hob2z12 (fun K' hK' => ?kb2z12) AllReadyH.nil
              case hob2z12 => (simp only [List.getElem?_toArray, List.getElem?_cons_succ, List.getElem?_cons_zero]; rfl)
              go_simp
              refine hK'.out _ _ (HSS.out _ S9.below) (fun _ => ?_)
              clear hK' K'
              refine wpAnyH_take (i := 13) (v := ?vb2z13) rfl (by kernel_rfl) (by kernel_rfl) (by kernel_rfl) (fun _ _ _ h => h) (Or.inl ⟨by rfl, ?hyb2z13⟩) (by exact HSS.out _ S9.below) ?rb2z13
              case hyb2z13 => (intro w hSw; (try dsimp only at hSw); go_simp <;> with_reducible rfl)
              simp only [Act.put, List.setIfInBounds_toArray, List.set_cons_zero, List.set_cons_succ]
              refine wpAnyH_done (by kernel_rfl) ?_ _
              go_simp
              go_wp2_with fail
              go_meet
              exact ⟨rfl, _, _, _, _, _, rfl, _, rfl, S9, v0, v1, HY9⟩
          case rest =>
            obtain ⟨rfl, g9, y1, e1, y2, e2, rfl, w6', rfl, S6', v0, v1, hby⟩ := hcut
            clear hH
            obtain ⟨y0, y1'⟩ := HSS.out _ S6'.below
            have hC5 : C < w6'.heap.size := Nat.lt_of_lt_of_le hBr S6'.2
            have HZ7 := Lib.hid (fun j => (S6'.below.frozen (p := ⟨C, j, none⟩) hBr).trans (HZ.out j))
            have U6 := hU.step S6'.below
            have HYB := Lib.hid hby
            have HX6 := Lib.hid (HBX.out.stays S6'.below)
            clear hby HDO
            by_cases hEE : EE = 0
            · subst hEE
              obtain ⟨qs', hqe, hql2, hqg, hqs⟩ := HLV.out rfl
              have hql' : qs'.length = PN := hql2.trans hql
              have zz0 := HZ7.out 0
              have zz1 := HZ7.out 1
              have HQY := Lib.hid hqe
              clear hql2 hqe
              have S9 := (U6.setCell (a := ⟨C, 0, none⟩) hC2 (.slice y1 YY.1.length e1)).setCell (a := ⟨C, 1, none⟩) hC2 (.slice y2 YY.2.length e2)
              have hd9 : Dirty (fun j => j = C) w6' ((w6'.setCell ⟨C, 0, none⟩ (.slice y1 YY.1.length e1)).setCell ⟨C, 1, none⟩ (.slice y2 YY.2.length e2)) := (Dirty.of_grown ((grown_setCell w6' ⟨C, 0, none⟩ (.slice y1 YY.1.length e1)).trans (grown_setCell _ ⟨C, 1, none⟩ (.slice y2 YY.2.length e2)))).mono fun j _ hj => by cases hj; rfl
              have HY9 := Lib.hid (HYB.out.later hd9)
              have hs9 : C < ((w6'.setCell ⟨C, 0, none⟩ (.slice y1 YY.1.length e1)).setCell ⟨C, 1, none⟩ (.slice y2 YY.2.length e2)).heap.size := by simpa using hC5
              have u0 : ((w6'.setCell ⟨C, 0, none⟩ (.slice y1 YY.1.length e1)).setCell ⟨C, 1, none⟩ (.slice y2 YY.2.length e2)).cell? ⟨C, 0, none⟩ = some (.slice y1 YY.1.length e1) := by go_simp
              have u1 : ((w6'.setCell ⟨C, 0, none⟩ (.slice y1 YY.1.length e1)).setCell ⟨C, 1, none⟩ (.slice y2 YY.2.length e2)).cell? ⟨C, 1, none⟩ = some (.slice y2 YY.2.length e2) := by go_simp
              have u2 : ∀ j, ((w6'.setCell ⟨C, 0, none⟩ (.slice y1 YY.1.length e1)).setCell ⟨C, 1, none⟩ (.slice y2 YY.2.length e2)).frozen? ⟨C, j, none⟩ = false := fun j => by rw [World.frozen?_setCell, World.frozen?_setCell]; exact HZ7.out j
              have HU := Lib.hid (And.intro u0 (And.intro u1 u2))
              clear u2
              go_upto_region 25 with fail
              clear u0 u1
              generalize (w6'.setCell ⟨C, 0, none⟩ (.slice y1 YY.1.length e1)).setCell ⟨C, 1, none⟩ (.slice y2 YY.2.length e2) = w9' at *
              have hqe := HQY.out
              clear HQY
              subst hqe
              go_wp2_with fail
              go_roundw
              case rel => exact ⟨j + 1, qs', _, _, _, _, by omega, by go_num, S9, hs9, by have h := HY9.out; simp only [hql'] at h; exact h, by have h := HU.out; simp only [hql'] at h; exact h, hqg, hql', by push_cast; omega⟩
              case measure => simp [intOf]; omega
            · have hEn : (EE == 0) = false := by simpa using hEE
              clear v0 v1 HYB
              have HC6 := Lib.hid (And.intro y0 y1')
              clear y0 y1'
              go_wp2_with fail
              go_roundw
              case rel => exact ⟨j + 1, qs, _, _, _, _, by omega, by go_num, U6, hC5, HX6.out, ⟨HC6.out.1, HC6.out.2, HZ7.out⟩, hGq, hql, by push_cast; omega⟩
              case measure => simp [intOf]; omega
        · obtain rfl : J = j := by omega
          obtain ⟨_, hR⟩ := hGq.rest HGET.out
          have hR2 : restE (mb, qs) (nn : Int) = 0 ∧ restB (mb, qs) (nn : Int) = D ∧ restW (mb, qs) (nn : Int) = [] := by
            rcases hR with ⟨h, _⟩ | ⟨_, h⟩
            · omega
            · exact h
          have HR2 := Lib.hid hR2
          clear hR hR2
          have hS2 := T2.step hU.below
          obtain ⟨g, off, rfl, cs, _, hcs, vd, rfl, hd⟩ := (HSR.out wr hU).at HGET.out
          obtain ⟨ad, cd, rfl, _⟩ := hd.opened
          have k0 : wr.cell? ⟨g, off + nn, none⟩ = some (.slice ad D.length cd) := by simpa using hcs 0 _ rfl
          have HD : Hid (∀ w', Since wr.heap.size wr w' → w'.cell? ⟨g, off + nn, none⟩ = some (.slice ad D.length cd) ∧ IsInts w' (.slice ad D.length cd) D) := Lib.hid (fun w' q => ⟨below_cell q.below k0, hd.stays q.below⟩)
          obtain ⟨hv, hp⟩ := HBX.out.now
          clear hcs hd k0
          go_upto_region 27 with (go_at_call 17; go_fit (Restore_any _ mb _ qs (nn : Int) wr hv hp); rintro e w12 ⟨⟨y1, y2, rfl, hi1, hi2⟩, hb12⟩; obtain ⟨aa, ca, rfl, _⟩ := hi1.opened; obtain ⟨ab, cb, rfl, _⟩ := hi2.opened)
          have U12 := hU.step hb12
          rw [HR2.out.2.1] at hi1 ⊢
          rw [HR2.out.2.2] at hi2 ⊢
          rw [HR2.out.1]
          obtain ⟨k0, hd⟩ := HD.out w12 ((Since.refl wr).step hb12)
          have E8 : Hid (eqInts D D = true) := Lib.hid (by simp [eqInts])
          have hl0 : ([] : List Int).length = 0 := rfl
          rw [hl0] at *
          have hnl' : (nn : Int) < (SV.length : Int) := by omega
          have hn0' : (0 : Int) ≤ (nn : Int) := by omega
          clear hv hp y0 y1' hb12
          go_wp2_with (go_at_call 18; go_fit (Equal_ints _ _ D D w12 hi1 hd); rintro e w13 ⟨rfl, hb13⟩; rw [E8.out])
          go_ret
          exact ⟨rfl, (S1.step (T2.step (U12.step hb13).below).below).below⟩
    · go_wp2_with fail
      go_ret
      exact ⟨rfl, (S1.step (T2.step U9.below).below).below⟩
  · have hne : (E != 0) = true := by simpa using hE
    go_upto_region 4 with (go_at_call 13; go_fit (told_any w2); rintro e w3 ⟨rfl, hb3⟩)
    go_wp2_with (go_at_call 13; go_fit (told_any w3); rintro e w4 ⟨rfl, hb4⟩)
    go_ret
    exact ⟨rfl, (S1.step ((T2.step hb3).step hb4).below).below⟩
end Go.Proofs.YtnidbghgadnjeaaGreat
