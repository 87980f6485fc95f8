/-
  A script in two runs does what it does in one. (Printed by wip/tools/mkparts.py; what a closed fact answers is given as a contract.)
-/
import Derived.Test.YtnidbghgadnjeaaGreatRun
import Derived.Test.YtnidbghgadnjeaaGreatRunLaw
import Derived.Test.YtnidbghgadnjeaaGreatConcatE
import Derived.Test.YtnidbghgadnjeaaGreatEqErrs
import Derived.Test.YtnidbghgadnjeaaGreatReadHap
import Derived.Test.YtnidbghgadnjeaaGreatSames
import Derived.Test.YtnidbghgadnjeaaGreatVotes
namespace Go.Proofs.YtnidbghgadnjeaaGreat
open Go.RowKit

theorem runS_len (m : Me) (l : List Hp) : (runS m l).length ≤ l.length := by
  unfold runS
  split
  · have := runL_len l (m, [])
    simp at this
    omega
  · simp
set_option linter.unusedSimpArgs false in
set_option maxRecDepth 100000 in
set_option maxHeartbeats 8000000 in
theorem WorldParts_walk (hdn : ∀ W, Calls Tryz.prog 21 #[] W fun e w' => e = .returned (.bool true) ∧ Below W.heap.size W w') (vm : Value) (m : Me) (vl : Value) (l : List Hp) (vk : Value) (k : Int) (W : World) (hm : IsMesh W vm m) (hl : IsHaps W vl l) (hk : IsInt vk k) :
    Calls Tryz.prog 5 #[vm, vl, vk] W fun e w' => e = .returned (.bool true) ∧ Below W.heap.size W w' := by
  obtain ⟨vb, u, rfl, hb, hu⟩ := hm
  obtain ⟨rfl, hk0, hk1⟩ := hk
  obtain ⟨b, ps⟩ := m
  simp only at hb hu
  obtain ⟨a, c, rfl, hcb, ⟨hbm, hbc, _⟩, _⟩ := hb.opened
  obtain ⟨a', c', rfl, hcu, ⟨hum, huc, _⟩, _⟩ := hu.opened
  obtain ⟨al, cl, rfl, hcl, ⟨hlm, hlc, hln⟩, _⟩ := hl.opened
  have HT := Lib.hid hdn
  clear hdn
  have S0 := (Since.refl W).alloc (.cells #[.slice a b.length c, .slice a' ps.length c'] 35)
  have hb0 := hb.stays RVer.stays S0.below
  have hu0 := hu.stays RPeer.stays S0.below
  have hl0 := hl.stays RHap.stays S0.below
  have c0 : (W.alloc (.cells #[.slice a b.length c, .slice a' ps.length c'] 35)).cell? ⟨W.heap.size, 0, none⟩ = some (.slice a b.length c) := by go_simp
  have c1 : (W.alloc (.cells #[.slice a b.length c, .slice a' ps.length c'] 35)).cell? ⟨W.heap.size, 1, none⟩ = some (.slice a' ps.length c') := by go_simp
  clear hb hu hl
  go_enter Tryz.func5, Tryz.ntmps5
  go_upto_region 1 with fail
  generalize W.alloc (.cells #[.slice a b.length c, .slice a' ps.length c'] 35) = w0 at *
  obtain ⟨B, hB⟩ : ∃ B, B = W.heap.size := ⟨_, rfl⟩
  rw [← hB] at c0 c1 ⊢
  clear hB
  have HF : Hid (∀ w', Below w0.heap.size w0 w' → w'.cell? ⟨B, 0, none⟩ = some (.slice a b.length c) ∧ w'.cell? ⟨B, 1, none⟩ = some (.slice a' ps.length c') ∧ IsVers w' (.slice a b.length c) b ∧ IsPeers w' (.slice a' ps.length c') ps ∧ IsHaps w' (.slice al l.length cl) l) := Lib.hid (fun w' q => ⟨below_cell q c0, below_cell q c1, hb0.stays RVer.stays q, hu0.stays RPeer.stays q, hl0.stays RHap.stays q⟩)
  have HRN := Lib.hid (Run_any _ _ _ b ps l w0 hb0 hu0 hl0)
  have hPT : Hid (runE (b, ps) l = 0 → ∀ kk, runE (b, ps) (l.take kk) = 0 ∧ runE (runM (b, ps) (l.take kk)) (l.drop kk) = 0 ∧ runM (runM (b, ps) (l.take kk)) (l.drop kk) = runM (b, ps) l ∧ runS (b, ps) (l.take kk) ++ runS (runM (b, ps) (l.take kk)) (l.drop kk) = runS (b, ps) l) := Lib.hid (fun h kk => run_parts h kk)
  have hL100 : Hid (runE (b, ps) l = 0 → l.length ≤ 100) := Lib.hid (fun h => (runE_ok h).2)
  clear hb0 hu0 hl0
  generalize runE (b, ps) l = E at *
  generalize runM (b, ps) l = M at *
  generalize runS (b, ps) l = SD at *
  go_upto_region 2 with (go_at_call 15; go_fit HRN.out; rintro e w1 ⟨⟨u1, u2, us, rfl, hq⟩, hb1⟩; obtain ⟨hv1, hp1, hs1⟩ := hq w1 (Dirty.refl _ _); obtain ⟨x1, e1, rfl, _⟩ := hv1.opened; obtain ⟨x2, e2, rfl, _⟩ := hp1.opened; obtain ⟨us1, e3, rfl, _⟩ := hs1.opened)
  clear c0 c1 HRN
  have BX := below_alloc w1 (.cells #[.slice x1 M.1.length e1, .slice x2 M.2.length e2] 35)
  have S2 := (S0.step hb1).alloc (.cells #[.slice x1 M.1.length e1, .slice x2 M.2.length e2] 35)
  have T2 := ((Since.refl w0).step hb1).alloc (.cells #[.slice x1 M.1.length e1, .slice x2 M.2.length e2] 35)
  have z0 : (w1.alloc (.cells #[.slice x1 M.1.length e1, .slice x2 M.2.length e2] 35)).cell? ⟨w1.heap.size, 0, none⟩ = some (.slice x1 M.1.length e1) := by go_simp
  have z1 : (w1.alloc (.cells #[.slice x1 M.1.length e1, .slice x2 M.2.length e2] 35)).cell? ⟨w1.heap.size, 1, none⟩ = some (.slice x2 M.2.length e2) := by go_simp
  obtain ⟨hv2, hp2, hs2⟩ := hq _ (Dirty.old BX _)
  clear hq hv1 hp1 hs1 hb1 BX
  generalize w1.alloc (.cells #[.slice x1 M.1.length e1, .slice x2 M.2.length e2] 35) = w2 at *
  obtain ⟨B7, hB7⟩ : ∃ B7, B7 = w1.heap.size := ⟨_, rfl⟩
  rw [← hB7] at z0 z1 ⊢
  clear hB7
  by_cases hE0 : E = 0
  · have hl100 := hL100.out hE0
    have HPA := Lib.hid (hPT.out hE0)
    subst hE0
    have HX : Hid (∀ w', Below w2.heap.size w2 w' → w'.cell? ⟨B7, 0, none⟩ = some (.slice x1 M.1.length e1) ∧ w'.cell? ⟨B7, 1, none⟩ = some (.slice x2 M.2.length e2) ∧ IsVers w' (.slice x1 M.1.length e1) M.1 ∧ IsPeers w' (.slice x2 M.2.length e2) M.2 ∧ IsInts w' (.slice us1 SD.length e3) SD) := Lib.hid (fun w' q => ⟨below_cell q z0, below_cell q z1, hv2.stays RVer.stays q, hp2.stays RPeer.stays q, hs2.stays q⟩)
    clear hPT hL100 z0 z1 hv2 hp2 hs2
    go_upto_region 4 with (go_at_call 21; go_fit (HT.out w2); rintro e w4 ⟨rfl, hb4⟩)
    obtain ⟨hk2, hk3⟩ := modV_bd k (show (1 : Int) ≤ (l.length : Int) + 1 by omega)
    obtain ⟨kk, hkk⟩ := Int.eq_ofNat_of_zero_le hk2
    have hAT := Lib.hid (at_any k ((l.length : Int) + 1) w4 hk0 hk1 (by omega) (by omega))
    have HKK := Lib.hid hkk
    have hkl : kk ≤ l.length := by omega
    have hkI : (kk : Int) ≤ (l.length : Int) := by omega
    have hkc : (kk : Int) ≤ (cl : Int) := by omega
    clear hk2 hk3 hkk
    go_upto_region 5 with (go_at_call 19; go_fit hAT.out; rintro e w' ⟨rfl, rfl⟩; rw [HKK.out])
    have HPT := Lib.hid (HPA.out kk)
    have h24 : ∀ w', Below w4.heap.size w4 w' → Below w2.heap.size w2 w' := fun w' q => hb4.trans (q.mono hb4.size)
    have HF4 : Hid (∀ w', Below w4.heap.size w4 w' → w'.cell? ⟨B, 0, none⟩ = some (.slice a b.length c) ∧ w'.cell? ⟨B, 1, none⟩ = some (.slice a' ps.length c') ∧ IsVers w' (.slice a b.length c) b ∧ IsPeers w' (.slice a' ps.length c') ps ∧ IsHaps w' (.slice al l.length cl) l) := Lib.hid (fun w' q => HF.out w' (T2.below.trans ((h24 w' q).mono T2.2)))
    clear HF HPA
    have S4 := S2.step hb4
    clear hb4
    by_cases hl0 : l = []
    · subst hl0
      obtain rfl : kk = 0 := by simpa using hkl
      cases al with
      | none =>
        obtain rfl : cl = 0 := hln rfl
        clear hln
        have HRN0 := Lib.hid (fun w' (q : Below w4.heap.size w4 w') => Run_any (.slice a b.length c) (.slice a' ps.length c') (.slice none 0 0) b ps (List.take 0 ([] : List Hp)) w' ((HF4.out w' q).2.2.1) ((HF4.out w' q).2.2.2.1) (IsRow.nil _))
        rw [HPT.out.1] at HRN0
        generalize hY : runM (b, ps) (List.take 0 ([] : List Hp)) = Y at *
        generalize hSA : runS (b, ps) (List.take 0 ([] : List Hp)) = SA at *
        generalize hZ : runM Y (List.drop 0 ([] : List Hp)) = Z at *
        generalize hSB : runS Y (List.drop 0 ([] : List Hp)) = SB at *
        have HRN : Hid (∀ w', Below w4.heap.size w4 w' → Calls Tryz.prog 15 #[.agg #[.slice a b.length c, .slice a' ps.length c'], .slice none 0 0] w' fun e w'' => (∃ u1 u2 us, e = .returned (.tuple #[.agg #[u1, u2], us, .int .i64 0]) ∧ (∀ w3, Dirty (fun j => j < w'.heap.size) w'' w3 → IsVers w3 u1 Y.1 ∧ IsPeers w3 u2 Y.2 ∧ IsInts w3 us SA)) ∧ Below w'.heap.size w' w'') := HRN0
        clear HRN0
        have HSS : Hid (∀ w', Below w4.heap.size w4 w' → w'.cell? ⟨B, 0, none⟩ = some (.slice a b.length c) ∧ w'.cell? ⟨B, 1, none⟩ = some (.slice a' ps.length c')) := Lib.hid (fun w' q => ⟨(HF4.out w' q).1, (HF4.out w' q).2.1⟩)
        have hdr : Below w4.heap.size w4 w4.drew := ((Since.refl w4).drew).below
        have hH := HSS.out _ hdr
        go_upto_region 5 with fail
        go_cut [9, 10, 11] (fun s9 sX sY wx => s9 = .int .i64 0 ∧ ∃ (g5 : Nat) (y1 : Option Addr) (l1 e1 : Nat) (y2 : Option Addr) (l2 e2 : Nat) (ua : Option Addr) (ul uc : Nat), sX = .pointer (some ⟨g5, 0, none⟩) ∧ sY = .slice ua ul uc ∧ ∃ wz, wz = wx ∧ Since w4.heap.size w4 wz ∧ wz.cell? ⟨g5, 0, none⟩ = some (.slice y1 l1 e1) ∧ wz.cell? ⟨g5, 1, none⟩ = some (.slice y2 l2 e2) ∧ IsVers wz (.slice y1 l1 e1) Y.1 ∧ IsPeers wz (.slice y2 l2 e2) Y.2 ∧ IsInts wz (.slice ua ul uc) SA)
        case first =>
          refine wp_region_held_drew (S := fun w' => w'.cell? ⟨B, 0, none⟩ = some (.slice a b.length c) ∧ w'.cell? ⟨B, 1, none⟩ = some (.slice a' ps.length c')) (by kernel_rfl) hH (fun _ => ?_)
          refine wpAnyH_take (i := 0) (v := ?vpc10) rfl (by kernel_rfl) (by kernel_rfl) (by kernel_rfl) (fun _ _ _ h => h) (Or.inl ⟨by rfl, ?hypc10⟩) (by assumption) ?rpc10
          case hypc10 => (intro w hSw; (try dsimp only at hSw); go_simp <;> with_reducible rfl)
          simp only [Act.put, List.setIfInBounds_toArray, List.set_cons_zero, List.set_cons_succ]
          refine wpAnyH_take (i := 1) (v := ?vpc11) rfl (by kernel_rfl) (by kernel_rfl) (by kernel_rfl) (fun _ _ _ h => h) (Or.inl ⟨by rfl, ?hypc11⟩) (by assumption) ?rpc11
          case hypc11 => (intro w hSw; (try dsimp only at hSw); go_simp <;> with_reducible rfl)
          simp only [Act.put, List.setIfInBounds_toArray, List.set_cons_zero, List.set_cons_succ]
          refine wpAnyH_take (i := 2) (v := ?vpc12) rfl (by kernel_rfl) (by kernel_rfl) (by kernel_rfl) (fun _ _ _ h => h) (Or.inl ⟨by rfl, ?hypc12⟩) (by assumption) ?rpc12
          case hypc12 => (intro w hSw; (try dsimp only at hSw); go_simp <;> with_reducible rfl)
          simp only [Act.put, List.setIfInBounds_toArray, List.set_cons_zero, List.set_cons_succ]
          refine wpAnyH_take (i := 3) (v := ?vpc13) rfl (by kernel_rfl) (by kernel_rfl) (by kernel_rfl) (fun _ _ _ h => h) (Or.inl ⟨by rfl, ?hypc13⟩) (by assumption) ?rpc13
          case hypc13 => (intro w hSw; (try dsimp only at hSw); go_simp <;> with_reducible rfl)
          simp only [Act.put, List.setIfInBounds_toArray, List.set_cons_zero, List.set_cons_succ]
          refine wpAnyH_ready (rs := [4, 9]) (by kernel_rfl) (by simp) ?_
          refine AllReadyH.cons (o := ?opc14) ?hopc14 (fun K' hK' => ?kpc14) (AllReadyH.cons (o := ?opc19) ?hopc19 (fun K' hK' => ?kpc19) AllReadyH.nil)
          case hopc14 => (simp only [List.getElem?_toArray, List.getElem?_cons_succ, List.getElem?_cons_zero]; rfl)
          case hopc19 => (simp only [List.getElem?_toArray, List.getElem?_cons_succ, List.getElem?_cons_zero]; rfl)
          case kpc14 =>
            go_simp
            go_at_call 15
            go_fit (HRN.out _ hdr)
            rintro e w5 ⟨⟨u1, u2, us, rfl, hq⟩, hb5⟩
            obtain ⟨hv5, hp5, hs5⟩ := hq w5 (Dirty.refl _ _)
            obtain ⟨y1, e1, rfl, _⟩ := hv5.opened
            obtain ⟨y2, e2, rfl, _⟩ := hp5.opened
            obtain ⟨ua, uc, rfl, _⟩ := hs5.opened
            clear hv5 hp5 hs5
            try go_wp2_with fail
            have S5 := (Since.refl w4).drew.step hb5
            refine hK'.out _ _ (HSS.out _ S5.below) (fun _ => ?_)
            clear hK' K'
            refine wpAnyH_take (i := 5) (v := ?vpc1a5) rfl (by kernel_rfl) (by kernel_rfl) (by kernel_rfl) (fun _ _ _ h => h) (Or.inl ⟨by rfl, ?hypc1a5⟩) (by exact HSS.out _ S5.below) ?rpc1a5
            case hypc1a5 => (intro w hSw; (try dsimp only at hSw); go_simp <;> with_reducible rfl)
            simp only [Act.put, List.setIfInBounds_toArray, List.set_cons_zero, List.set_cons_succ]
            refine wpAnyH_take (i := 6) (v := ?vpc1a6) rfl (by kernel_rfl) (by kernel_rfl) (by kernel_rfl) (fun _ _ _ h => h) (Or.inl ⟨by rfl, ?hypc1a6⟩) (by exact HSS.out _ S5.below) ?rpc1a6
            case hypc1a6 => (intro w hSw; (try dsimp only at hSw); go_simp <;> with_reducible rfl)
            simp only [Act.put, List.setIfInBounds_toArray, List.set_cons_zero, List.set_cons_succ]
            refine wpAnyH_take (i := 7) (v := ?vpc1a7) rfl (by kernel_rfl) (by kernel_rfl) (by kernel_rfl) (fun _ _ _ h => h) (Or.inl ⟨by rfl, ?hypc1a7⟩) (by exact HSS.out _ S5.below) ?rpc1a7
            case hypc1a7 => (intro w hSw; (try dsimp only at hSw); go_simp <;> with_reducible rfl)
            simp only [Act.put, List.setIfInBounds_toArray, List.set_cons_zero, List.set_cons_succ]
            refine wpAnyH_take (i := 8) (v := ?vpc1a8) rfl (by kernel_rfl) (by kernel_rfl) (by kernel_rfl) (fun _ _ _ h => h) (Or.inl ⟨by rfl, ?hypc1a8⟩) (by exact HSS.out _ S5.below) ?rpc1a8
            case hypc1a8 => (intro w hSw; (try dsimp only at hSw); go_simp <;> with_reducible rfl)
            simp only [Act.put, List.setIfInBounds_toArray, List.set_cons_zero, List.set_cons_succ]
            refine wpAnyH_ready (rs := [9]) (by kernel_rfl) (by simp) ?_
            refine AllReadyH.cons (o := ?opc1a9) ?hopc1a9 (fun K' hK' => ?kpc1a9) AllReadyH.nil
            case hopc1a9 => (simp only [List.getElem?_toArray, List.getElem?_cons_succ, List.getElem?_cons_zero]; rfl)
            go_simp
            have SA9 := S5.alloc (.cells #[.slice none 0 0, .slice none 0 0] 35)
            refine hK'.out _ _ (HSS.out _ SA9.below) (fun _ => ?_)
            clear hK' K'
            clear SA9
            have S9 := S5.alloc (.cells #[.slice y1 Y.1.length e1, .slice y2 Y.2.length e2] 35)
            have v0 : (w5.alloc (.cells #[.slice y1 Y.1.length e1, .slice y2 Y.2.length e2] 35)).cell? ⟨w5.heap.size, 0, none⟩ = some (.slice y1 Y.1.length e1) := by go_simp
            have v1 : (w5.alloc (.cells #[.slice y1 Y.1.length e1, .slice y2 Y.2.length e2] 35)).cell? ⟨w5.heap.size, 1, none⟩ = some (.slice y2 Y.2.length e2) := by go_simp
            obtain ⟨r1, r2, r3⟩ := hq _ (Dirty.old (below_alloc w5 (.cells #[.slice y1 Y.1.length e1, .slice y2 Y.2.length e2] 35)) _)
            refine wpAnyH_ready (rs := [10]) (by kernel_rfl) (by simp) ?_
            refine AllReadyH.cons (o := ?opc1a10) ?hopc1a10 (fun K' hK' => ?kpc1a10) AllReadyH.nil
            case hopc1a10 => (simp only [List.getElem?_toArray, List.getElem?_cons_succ, List.getElem?_cons_zero]; rfl)
            go_simp
            refine hK'.out _ _ (HSS.out _ S9.below) (fun _ => ?_)
            clear hK' K'
            refine wpAnyH_take (i := 11) (v := ?vpc1a11) rfl (by kernel_rfl) (by kernel_rfl) (by kernel_rfl) (fun _ _ _ h => h) (Or.inl ⟨by rfl, ?hypc1a11⟩) (by exact HSS.out _ S9.below) ?rpc1a11
            case hypc1a11 => (intro w hSw; (try dsimp only at hSw); go_simp <;> with_reducible rfl)
            simp only [Act.put, List.setIfInBounds_toArray, List.set_cons_zero, List.set_cons_succ]
            refine wpAnyH_take (i := 12) (v := ?vpc1a12) rfl (by kernel_rfl) (by kernel_rfl) (by kernel_rfl) (fun _ _ _ h => h) (Or.inl ⟨by rfl, ?hypc1a12⟩) (by exact HSS.out _ S9.below) ?rpc1a12
            case hypc1a12 => (intro w hSw; (try dsimp only at hSw); go_simp <;> with_reducible rfl)
            simp only [Act.put, List.setIfInBounds_toArray, List.set_cons_zero, List.set_cons_succ]
            refine wpAnyH_done (by kernel_rfl) ?_ _
            go_simp
            go_wp2_with fail
            go_meet
            exact ⟨rfl, _, _, _, _, _, _, _, _, _, _, rfl, rfl, _, rfl, S9, v0, v1, r1, r2, r3⟩
          case kpc19 =>
            go_simp
            have HWA := Lib.hid (((Since.refl w4).alloc (.cells #[.slice none 0 0, .slice none 0 0] 35)).drew)
            have q0 : ((w4.alloc (.cells #[.slice none 0 0, .slice none 0 0] 35)).drew).cell? ⟨w4.heap.size, 0, none⟩ = some (.slice none 0 0) := by go_simp
            have q1 : ((w4.alloc (.cells #[.slice none 0 0, .slice none 0 0] 35)).drew).cell? ⟨w4.heap.size, 1, none⟩ = some (.slice none 0 0) := by go_simp
            have q2 : ((w4.alloc (.cells #[.slice none 0 0, .slice none 0 0] 35)).drew).frozen? ⟨w4.heap.size, 0, none⟩ = false := by go_simp
            have q3 : ((w4.alloc (.cells #[.slice none 0 0, .slice none 0 0] 35)).drew).frozen? ⟨w4.heap.size, 1, none⟩ = false := by go_simp
            have hgwa : w4.heap.size < ((w4.alloc (.cells #[.slice none 0 0, .slice none 0 0] 35)).drew).heap.size := by simp
            refine hK'.out _ _ (HSS.out _ HWA.out.below) (fun _ => ?_)
            clear hK' K'
            generalize (w4.alloc (.cells #[.slice none 0 0, .slice none 0 0] 35)).drew = wa at *
            refine wpAnyH_ready (rs := [4]) (by kernel_rfl) (by simp) ?_
            refine AllReadyH.cons (o := ?opc1b4) ?hopc1b4 (fun K' hK' => ?kpc1b4) AllReadyH.nil
            case hopc1b4 => (simp only [List.getElem?_toArray, List.getElem?_cons_succ, List.getElem?_cons_zero]; rfl)
            go_simp
            go_at_call 15
            go_fit (HRN.out _ HWA.out.below)
            rintro e w5 ⟨⟨u1, u2, us, rfl, hq⟩, hb5⟩
            obtain ⟨hv5, hp5, hs5⟩ := hq w5 (Dirty.refl _ _)
            obtain ⟨y1, e1, rfl, _⟩ := hv5.opened
            obtain ⟨y2, e2, rfl, _⟩ := hp5.opened
            obtain ⟨ua, uc, rfl, _⟩ := hs5.opened
            clear hv5 hp5 hs5
            try go_wp2_with fail
            have S5 := HWA.out.step hb5
            refine hK'.out _ _ (HSS.out _ S5.below) (fun _ => ?_)
            clear hK' K'
            refine wpAnyH_take (i := 5) (v := ?vpc1b5) rfl (by kernel_rfl) (by kernel_rfl) (by kernel_rfl) (fun _ _ _ h => h) (Or.inl ⟨by rfl, ?hypc1b5⟩) (by exact HSS.out _ S5.below) ?rpc1b5
            case hypc1b5 => (intro w hSw; (try dsimp only at hSw); go_simp <;> with_reducible rfl)
            simp only [Act.put, List.setIfInBounds_toArray, List.set_cons_zero, List.set_cons_succ]
            refine wpAnyH_take (i := 6) (v := ?vpc1b6) rfl (by kernel_rfl) (by kernel_rfl) (by kernel_rfl) (fun _ _ _ h => h) (Or.inl ⟨by rfl, ?hypc1b6⟩) (by exact HSS.out _ S5.below) ?rpc1b6
            case hypc1b6 => (intro w hSw; (try dsimp only at hSw); go_simp <;> with_reducible rfl)
            simp only [Act.put, List.setIfInBounds_toArray, List.set_cons_zero, List.set_cons_succ]
            refine wpAnyH_take (i := 7) (v := ?vpc1b7) rfl (by kernel_rfl) (by kernel_rfl) (by kernel_rfl) (fun _ _ _ h => h) (Or.inl ⟨by rfl, ?hypc1b7⟩) (by exact HSS.out _ S5.below) ?rpc1b7
            case hypc1b7 => (intro w hSw; (try dsimp only at hSw); go_simp <;> with_reducible rfl)
            simp only [Act.put, List.setIfInBounds_toArray, List.set_cons_zero, List.set_cons_succ]
            refine wpAnyH_take (i := 8) (v := ?vpc1b8) rfl (by kernel_rfl) (by kernel_rfl) (by kernel_rfl) (fun _ _ _ h => h) (Or.inl ⟨by rfl, ?hypc1b8⟩) (by exact HSS.out _ S5.below) ?rpc1b8
            case hypc1b8 => (intro w hSw; (try dsimp only at hSw); go_simp <;> with_reducible rfl)
            simp only [Act.put, List.setIfInBounds_toArray, List.set_cons_zero, List.set_cons_succ]
            have q0 := below_cell hb5 q0
            have q1 := below_cell hb5 q1
            have q2 := (hb5.frozen (p := ⟨w4.heap.size, 0, none⟩) hgwa).trans q2
            have q3 := (hb5.frozen (p := ⟨w4.heap.size, 1, none⟩) hgwa).trans q3
            have S9 := (S5.setCell (a := ⟨w4.heap.size, 0, none⟩) (Nat.le_refl _) (.slice y1 Y.1.length e1)).setCell (a := ⟨w4.heap.size, 1, none⟩) (Nat.le_refl _) (.slice y2 Y.2.length e2)
            have hd9 : Dirty (fun j => j = w4.heap.size) w5 ((w5.setCell ⟨w4.heap.size, 0, none⟩ (.slice y1 Y.1.length e1)).setCell ⟨w4.heap.size, 1, none⟩ (.slice y2 Y.2.length e2)) := (Dirty.of_grown ((grown_setCell w5 ⟨w4.heap.size, 0, none⟩ (.slice y1 Y.1.length e1)).trans (grown_setCell _ ⟨w4.heap.size, 1, none⟩ (.slice y2 Y.2.length e2)))).mono fun j _ hj => by cases hj; rfl
            obtain ⟨r1, r2, r3⟩ := hq _ (hd9.mono fun j _ hj => by rw [hj]; exact hgwa)
            have v0 : ((w5.setCell ⟨w4.heap.size, 0, none⟩ (.slice y1 Y.1.length e1)).setCell ⟨w4.heap.size, 1, none⟩ (.slice y2 Y.2.length e2)).cell? ⟨w4.heap.size, 0, none⟩ = some (.slice y1 Y.1.length e1) := by go_simp
            have v1 : ((w5.setCell ⟨w4.heap.size, 0, none⟩ (.slice y1 Y.1.length e1)).setCell ⟨w4.heap.size, 1, none⟩ (.slice y2 Y.2.length e2)).cell? ⟨w4.heap.size, 1, none⟩ = some (.slice y2 Y.2.length e2) := by go_simp
            refine wpAnyH_ready (rs := [10]) (by kernel_rfl) (by simp) ?_
            refine AllReadyH.cons (o := ?opc1b10) ?hopc1b10 (fun K' hK' => ?kpc1b10) AllReadyH.nil
            case hopc1b10 => (simp only [List.getElem?_toArray, List.getElem?_cons_succ, List.getElem?_cons_zero]; rfl)
            go_simp
            refine hK'.out _ _ (HSS.out _ S9.below) (fun _ => ?_)
            clear hK' K'
            refine wpAnyH_take (i := 11) (v := ?vpc1b11) rfl (by kernel_rfl) (by kernel_rfl) (by kernel_rfl) (fun _ _ _ h => h) (Or.inl ⟨by rfl, ?hypc1b11⟩) (by exact HSS.out _ S9.below) ?rpc1b11
            case hypc1b11 => (intro w hSw; (try dsimp only at hSw); go_simp <;> with_reducible rfl)
            simp only [Act.put, List.setIfInBounds_toArray, List.set_cons_zero, List.set_cons_succ]
            refine wpAnyH_take (i := 12) (v := ?vpc1b12) rfl (by kernel_rfl) (by kernel_rfl) (by kernel_rfl) (fun _ _ _ h => h) (Or.inl ⟨by rfl, ?hypc1b12⟩) (by exact HSS.out _ S9.below) ?rpc1b12
            case hypc1b12 => (intro w hSw; (try dsimp only at hSw); go_simp <;> with_reducible rfl)
            simp only [Act.put, List.setIfInBounds_toArray, List.set_cons_zero, List.set_cons_succ]
            refine wpAnyH_done (by kernel_rfl) ?_ _
            go_simp
            go_wp2_with fail
            go_meet
            exact ⟨rfl, _, _, _, _, _, _, _, _, _, _, rfl, rfl, _, rfl, S9, v0, v1, r1, r2, r3⟩
        case rest =>
          obtain ⟨rfl, g5, y1, l1, e1, y2, l2, e2, ua, ul, uc, rfl, rfl, w6, rfl, T6, v0, v1, r1, r2, r3⟩ := hcut
          clear hH
          have HF6 : Hid (∀ w', Below w6.heap.size w6 w' → w'.cell? ⟨g5, 0, none⟩ = some (.slice y1 l1 e1) ∧ w'.cell? ⟨g5, 1, none⟩ = some (.slice y2 l2 e2) ∧ IsVers w' (.slice y1 l1 e1) Y.1 ∧ IsPeers w' (.slice y2 l2 e2) Y.2 ∧ IsInts w' (.slice ua ul uc) SA) := Lib.hid (fun w' q => ⟨below_cell q v0, below_cell q v1, r1.stays RVer.stays q, r2.stays RPeer.stays q, r3.stays q⟩)
          have h46 : ∀ w', Below w6.heap.size w6 w' → Below w4.heap.size w4 w' := fun w' q => T6.below.trans (q.mono T6.2)
          have HRN1 := Lib.hid (fun w' (q : Below w6.heap.size w6 w') => Run_any (.slice y1 l1 e1) (.slice y2 l2 e2) (.slice none 0 0) Y.1 Y.2 (List.drop 0 ([] : List Hp)) w' ((HF6.out w' q).2.2.1) ((HF6.out w' q).2.2.2.1) (IsRow.nil _))
          rw [show runE (Y.1, Y.2) (List.drop 0 ([] : List Hp)) = 0 from HPT.out.2.1, show runM (Y.1, Y.2) (List.drop 0 ([] : List Hp)) = Z from hZ, show runS (Y.1, Y.2) (List.drop 0 ([] : List Hp)) = SB from hSB] at HRN1
          have HRN6 : Hid (∀ w', Below w6.heap.size w6 w' → Calls Tryz.prog 15 #[.agg #[.slice y1 l1 e1, .slice y2 l2 e2], .slice none 0 0] w' fun e w'' => (∃ u1 u2 us, e = .returned (.tuple #[.agg #[u1, u2], us, .int .i64 0]) ∧ (∀ w3, Dirty (fun j => j < w'.heap.size) w'' w3 → IsVers w3 u1 Z.1 ∧ IsPeers w3 u2 Z.2 ∧ IsInts w3 us SB)) ∧ Below w'.heap.size w' w'') := HRN1
          have HSS6 : Hid (∀ w', Below w6.heap.size w6 w' → w'.cell? ⟨g5, 0, none⟩ = some (.slice y1 l1 e1) ∧ w'.cell? ⟨g5, 1, none⟩ = some (.slice y2 l2 e2)) := Lib.hid (fun w' q => ⟨(HF6.out w' q).1, (HF6.out w' q).2.1⟩)
          clear HRN1 v0 v1 r1 r2 r3
          have hdr : Below w6.heap.size w6 w6.drew := ((Since.refl w6).drew).below
          have hH6 := HSS6.out _ hdr
          go_upto_region 6 with fail
          go_cut [12, 13, 14] (fun sX sY s14 wx => s14 = .int .i64 0 ∧ ∃ (g5 : Nat) (y1 : Option Addr) (l1 e1 : Nat) (y2 : Option Addr) (l2 e2 : Nat) (ua : Option Addr) (ul uc : Nat), sX = .pointer (some ⟨g5, 0, none⟩) ∧ sY = .slice ua ul uc ∧ ∃ wz, wz = wx ∧ Since w6.heap.size w6 wz ∧ wz.cell? ⟨g5, 0, none⟩ = some (.slice y1 l1 e1) ∧ wz.cell? ⟨g5, 1, none⟩ = some (.slice y2 l2 e2) ∧ IsVers wz (.slice y1 l1 e1) Z.1 ∧ IsPeers wz (.slice y2 l2 e2) Z.2 ∧ IsInts wz (.slice ua ul uc) SB)
          case first =>
            refine wp_region_held_drew (S := fun w' => w'.cell? ⟨g5, 0, none⟩ = some (.slice y1 l1 e1) ∧ w'.cell? ⟨g5, 1, none⟩ = some (.slice y2 l2 e2)) (by kernel_rfl) hH6 (fun _ => ?_)
            refine wpAnyH_take (i := 0) (v := ?vsc10) rfl (by kernel_rfl) (by kernel_rfl) (by kernel_rfl) (fun _ _ _ h => h) (Or.inl ⟨by rfl, ?hysc10⟩) (by assumption) ?rsc10
            case hysc10 => (intro w hSw; (try dsimp only at hSw); go_simp <;> with_reducible rfl)
            simp only [Act.put, List.setIfInBounds_toArray, List.set_cons_zero, List.set_cons_succ]
            refine wpAnyH_take (i := 1) (v := ?vsc11) rfl (by kernel_rfl) (by kernel_rfl) (by kernel_rfl) (fun _ _ _ h => h) (Or.inl ⟨by rfl, ?hysc11⟩) (by assumption) ?rsc11
            case hysc11 => (intro w hSw; (try dsimp only at hSw); go_simp <;> with_reducible rfl)
            simp only [Act.put, List.setIfInBounds_toArray, List.set_cons_zero, List.set_cons_succ]
            refine wpAnyH_take (i := 2) (v := ?vsc12) rfl (by kernel_rfl) (by kernel_rfl) (by kernel_rfl) (fun _ _ _ h => h) (Or.inl ⟨by rfl, ?hysc12⟩) (by assumption) ?rsc12
            case hysc12 => (intro w hSw; (try dsimp only at hSw); go_simp <;> with_reducible rfl)
            simp only [Act.put, List.setIfInBounds_toArray, List.set_cons_zero, List.set_cons_succ]
            refine wpAnyH_take (i := 3) (v := ?vsc13) rfl (by kernel_rfl) (by kernel_rfl) (by kernel_rfl) (fun _ _ _ h => h) (Or.inl ⟨by rfl, ?hysc13⟩) (by assumption) ?rsc13
            case hysc13 => (intro w hSw; (try dsimp only at hSw); go_simp <;> with_reducible rfl)
            simp only [Act.put, List.setIfInBounds_toArray, List.set_cons_zero, List.set_cons_succ]
            refine wpAnyH_ready (rs := [4, 9]) (by kernel_rfl) (by simp) ?_
            refine AllReadyH.cons (o := ?osc14) ?hosc14 (fun K' hK' => ?ksc14) (AllReadyH.cons (o := ?osc19) ?hosc19 (fun K' hK' => ?ksc19) AllReadyH.nil)
            case hosc14 => (simp only [List.getElem?_toArray, List.getElem?_cons_succ, List.getElem?_cons_zero]; rfl)
            case hosc19 => (simp only [List.getElem?_toArray, List.getElem?_cons_succ, List.getElem?_cons_zero]; rfl)
            case ksc14 =>
              go_simp
              go_at_call 15
              go_fit (HRN6.out _ hdr)
              rintro e w5 ⟨⟨u1, u2, us, rfl, hq⟩, hb5⟩
              obtain ⟨hv5, hp5, hs5⟩ := hq w5 (Dirty.refl _ _)
              obtain ⟨y1, e1, rfl, _⟩ := hv5.opened
              obtain ⟨y2, e2, rfl, _⟩ := hp5.opened
              obtain ⟨ua, uc, rfl, _⟩ := hs5.opened
              clear hv5 hp5 hs5
              try go_wp2_with fail
              have S5 := (Since.refl w6).drew.step hb5
              refine hK'.out _ _ (HSS6.out _ S5.below) (fun _ => ?_)
              clear hK' K'
              refine wpAnyH_take (i := 5) (v := ?vsc1a5) rfl (by kernel_rfl) (by kernel_rfl) (by kernel_rfl) (fun _ _ _ h => h) (Or.inl ⟨by rfl, ?hysc1a5⟩) (by exact HSS6.out _ S5.below) ?rsc1a5
              case hysc1a5 => (intro w hSw; (try dsimp only at hSw); go_simp <;> with_reducible rfl)
              simp only [Act.put, List.setIfInBounds_toArray, List.set_cons_zero, List.set_cons_succ]
              refine wpAnyH_take (i := 6) (v := ?vsc1a6) rfl (by kernel_rfl) (by kernel_rfl) (by kernel_rfl) (fun _ _ _ h => h) (Or.inl ⟨by rfl, ?hysc1a6⟩) (by exact HSS6.out _ S5.below) ?rsc1a6
              case hysc1a6 => (intro w hSw; (try dsimp only at hSw); go_simp <;> with_reducible rfl)
              simp only [Act.put, List.setIfInBounds_toArray, List.set_cons_zero, List.set_cons_succ]
              refine wpAnyH_take (i := 7) (v := ?vsc1a7) rfl (by kernel_rfl) (by kernel_rfl) (by kernel_rfl) (fun _ _ _ h => h) (Or.inl ⟨by rfl, ?hysc1a7⟩) (by exact HSS6.out _ S5.below) ?rsc1a7
              case hysc1a7 => (intro w hSw; (try dsimp only at hSw); go_simp <;> with_reducible rfl)
              simp only [Act.put, List.setIfInBounds_toArray, List.set_cons_zero, List.set_cons_succ]
              refine wpAnyH_take (i := 8) (v := ?vsc1a8) rfl (by kernel_rfl) (by kernel_rfl) (by kernel_rfl) (fun _ _ _ h => h) (Or.inl ⟨by rfl, ?hysc1a8⟩) (by exact HSS6.out _ S5.below) ?rsc1a8
              case hysc1a8 => (intro w hSw; (try dsimp only at hSw); go_simp <;> with_reducible rfl)
              simp only [Act.put, List.setIfInBounds_toArray, List.set_cons_zero, List.set_cons_succ]
              refine wpAnyH_ready (rs := [9]) (by kernel_rfl) (by simp) ?_
              refine AllReadyH.cons (o := ?osc1a9) ?hosc1a9 (fun K' hK' => ?ksc1a9) AllReadyH.nil
              case hosc1a9 => (simp only [List.getElem?_toArray, List.getElem?_cons_succ, List.getElem?_cons_zero]; rfl)
              go_simp
              have SA9 := S5.alloc (.cells #[.slice none 0 0, .slice none 0 0] 35)
              refine hK'.out _ _ (HSS6.out _ SA9.below) (fun _ => ?_)
              clear hK' K'
              clear SA9
              have S9 := S5.alloc (.cells #[.slice y1 Z.1.length e1, .slice y2 Z.2.length e2] 35)
              have v0 : (w5.alloc (.cells #[.slice y1 Z.1.length e1, .slice y2 Z.2.length e2] 35)).cell? ⟨w5.heap.size, 0, none⟩ = some (.slice y1 Z.1.length e1) := by go_simp
              have v1 : (w5.alloc (.cells #[.slice y1 Z.1.length e1, .slice y2 Z.2.length e2] 35)).cell? ⟨w5.heap.size, 1, none⟩ = some (.slice y2 Z.2.length e2) := by go_simp
              obtain ⟨r1, r2, r3⟩ := hq _ (Dirty.old (below_alloc w5 (.cells #[.slice y1 Z.1.length e1, .slice y2 Z.2.length e2] 35)) _)
              refine wpAnyH_ready (rs := [10]) (by kernel_rfl) (by simp) ?_
              refine AllReadyH.cons (o := ?osc1a10) ?hosc1a10 (fun K' hK' => ?ksc1a10) AllReadyH.nil
              case hosc1a10 => (simp only [List.getElem?_toArray, List.getElem?_cons_succ, List.getElem?_cons_zero]; rfl)
              go_simp
              refine hK'.out _ _ (HSS6.out _ S9.below) (fun _ => ?_)
              clear hK' K'
              refine wpAnyH_take (i := 11) (v := ?vsc1a11) rfl (by kernel_rfl) (by kernel_rfl) (by kernel_rfl) (fun _ _ _ h => h) (Or.inl ⟨by rfl, ?hysc1a11⟩) (by exact HSS6.out _ S9.below) ?rsc1a11
              case hysc1a11 => (intro w hSw; (try dsimp only at hSw); go_simp <;> with_reducible rfl)
              simp only [Act.put, List.setIfInBounds_toArray, List.set_cons_zero, List.set_cons_succ]
              refine wpAnyH_take (i := 12) (v := ?vsc1a12) rfl (by kernel_rfl) (by kernel_rfl) (by kernel_rfl) (fun _ _ _ h => h) (Or.inl ⟨by rfl, ?hysc1a12⟩) (by exact HSS6.out _ S9.below) ?rsc1a12
              case hysc1a12 => (intro w hSw; (try dsimp only at hSw); go_simp <;> with_reducible rfl)
              simp only [Act.put, List.setIfInBounds_toArray, List.set_cons_zero, List.set_cons_succ]
              refine wpAnyH_done (by kernel_rfl) ?_ _
              go_simp
              go_wp2_with fail
              go_meet
              exact ⟨rfl, _, _, _, _, _, _, _, _, _, _, rfl, rfl, _, rfl, S9, v0, v1, r1, r2, r3⟩
            case ksc19 =>
              go_simp
              have HWA := Lib.hid (((Since.refl w6).alloc (.cells #[.slice none 0 0, .slice none 0 0] 35)).drew)
              have q0 : ((w6.alloc (.cells #[.slice none 0 0, .slice none 0 0] 35)).drew).cell? ⟨w6.heap.size, 0, none⟩ = some (.slice none 0 0) := by go_simp
              have q1 : ((w6.alloc (.cells #[.slice none 0 0, .slice none 0 0] 35)).drew).cell? ⟨w6.heap.size, 1, none⟩ = some (.slice none 0 0) := by go_simp
              have q2 : ((w6.alloc (.cells #[.slice none 0 0, .slice none 0 0] 35)).drew).frozen? ⟨w6.heap.size, 0, none⟩ = false := by go_simp
              have q3 : ((w6.alloc (.cells #[.slice none 0 0, .slice none 0 0] 35)).drew).frozen? ⟨w6.heap.size, 1, none⟩ = false := by go_simp
              have hgwa : w6.heap.size < ((w6.alloc (.cells #[.slice none 0 0, .slice none 0 0] 35)).drew).heap.size := by simp
              refine hK'.out _ _ (HSS6.out _ HWA.out.below) (fun _ => ?_)
              clear hK' K'
              generalize (w6.alloc (.cells #[.slice none 0 0, .slice none 0 0] 35)).drew = wa at *
              refine wpAnyH_ready (rs := [4]) (by kernel_rfl) (by simp) ?_
              refine AllReadyH.cons (o := ?osc1b4) ?hosc1b4 (fun K' hK' => ?ksc1b4) AllReadyH.nil
              case hosc1b4 => (simp only [List.getElem?_toArray, List.getElem?_cons_succ, List.getElem?_cons_zero]; rfl)
              go_simp
              go_at_call 15
              go_fit (HRN6.out _ HWA.out.below)
              rintro e w5 ⟨⟨u1, u2, us, rfl, hq⟩, hb5⟩
              obtain ⟨hv5, hp5, hs5⟩ := hq w5 (Dirty.refl _ _)
              obtain ⟨y1, e1, rfl, _⟩ := hv5.opened
              obtain ⟨y2, e2, rfl, _⟩ := hp5.opened
              obtain ⟨ua, uc, rfl, _⟩ := hs5.opened
              clear hv5 hp5 hs5
              try go_wp2_with fail
              have S5 := HWA.out.step hb5
              refine hK'.out _ _ (HSS6.out _ S5.below) (fun _ => ?_)
              clear hK' K'
              refine wpAnyH_take (i := 5) (v := ?vsc1b5) rfl (by kernel_rfl) (by kernel_rfl) (by kernel_rfl) (fun _ _ _ h => h) (Or.inl ⟨by rfl, ?hysc1b5⟩) (by exact HSS6.out _ S5.below) ?rsc1b5
              case hysc1b5 => (intro w hSw; (try dsimp only at hSw); go_simp <;> with_reducible rfl)
              simp only [Act.put, List.setIfInBounds_toArray, List.set_cons_zero, List.set_cons_succ]
              refine wpAnyH_take (i := 6) (v := ?vsc1b6) rfl (by kernel_rfl) (by kernel_rfl) (by kernel_rfl) (fun _ _ _ h => h) (Or.inl ⟨by rfl, ?hysc1b6⟩) (by exact HSS6.out _ S5.below) ?rsc1b6
              case hysc1b6 => (intro w hSw; (try dsimp only at hSw); go_simp <;> with_reducible rfl)
              simp only [Act.put, List.setIfInBounds_toArray, List.set_cons_zero, List.set_cons_succ]
              refine wpAnyH_take (i := 7) (v := ?vsc1b7) rfl (by kernel_rfl) (by kernel_rfl) (by kernel_rfl) (fun _ _ _ h => h) (Or.inl ⟨by rfl, ?hysc1b7⟩) (by exact HSS6.out _ S5.below) ?rsc1b7
              case hysc1b7 => (intro w hSw; (try dsimp only at hSw); go_simp <;> with_reducible rfl)
              simp only [Act.put, List.setIfInBounds_toArray, List.set_cons_zero, List.set_cons_succ]
              refine wpAnyH_take (i := 8) (v := ?vsc1b8) rfl (by kernel_rfl) (by kernel_rfl) (by kernel_rfl) (fun _ _ _ h => h) (Or.inl ⟨by rfl, ?hysc1b8⟩) (by exact HSS6.out _ S5.below) ?rsc1b8
              case hysc1b8 => (intro w hSw; (try dsimp only at hSw); go_simp <;> with_reducible rfl)
              simp only [Act.put, List.setIfInBounds_toArray, List.set_cons_zero, List.set_cons_succ]
              have q0 := below_cell hb5 q0
              have q1 := below_cell hb5 q1
              have q2 := (hb5.frozen (p := ⟨w6.heap.size, 0, none⟩) hgwa).trans q2
              have q3 := (hb5.frozen (p := ⟨w6.heap.size, 1, none⟩) hgwa).trans q3
              have S9 := (S5.setCell (a := ⟨w6.heap.size, 0, none⟩) (Nat.le_refl _) (.slice y1 Z.1.length e1)).setCell (a := ⟨w6.heap.size, 1, none⟩) (Nat.le_refl _) (.slice y2 Z.2.length e2)
              have hd9 : Dirty (fun j => j = w6.heap.size) w5 ((w5.setCell ⟨w6.heap.size, 0, none⟩ (.slice y1 Z.1.length e1)).setCell ⟨w6.heap.size, 1, none⟩ (.slice y2 Z.2.length e2)) := (Dirty.of_grown ((grown_setCell w5 ⟨w6.heap.size, 0, none⟩ (.slice y1 Z.1.length e1)).trans (grown_setCell _ ⟨w6.heap.size, 1, none⟩ (.slice y2 Z.2.length e2)))).mono fun j _ hj => by cases hj; rfl
              obtain ⟨r1, r2, r3⟩ := hq _ (hd9.mono fun j _ hj => by rw [hj]; exact hgwa)
              have v0 : ((w5.setCell ⟨w6.heap.size, 0, none⟩ (.slice y1 Z.1.length e1)).setCell ⟨w6.heap.size, 1, none⟩ (.slice y2 Z.2.length e2)).cell? ⟨w6.heap.size, 0, none⟩ = some (.slice y1 Z.1.length e1) := by go_simp
              have v1 : ((w5.setCell ⟨w6.heap.size, 0, none⟩ (.slice y1 Z.1.length e1)).setCell ⟨w6.heap.size, 1, none⟩ (.slice y2 Z.2.length e2)).cell? ⟨w6.heap.size, 1, none⟩ = some (.slice y2 Z.2.length e2) := by go_simp
              refine wpAnyH_ready (rs := [10]) (by kernel_rfl) (by simp) ?_
              refine AllReadyH.cons (o := ?osc1b10) ?hosc1b10 (fun K' hK' => ?ksc1b10) AllReadyH.nil
              case hosc1b10 => (simp only [List.getElem?_toArray, List.getElem?_cons_succ, List.getElem?_cons_zero]; rfl)
              go_simp
              refine hK'.out _ _ (HSS6.out _ S9.below) (fun _ => ?_)
              clear hK' K'
              refine wpAnyH_take (i := 11) (v := ?vsc1b11) rfl (by kernel_rfl) (by kernel_rfl) (by kernel_rfl) (fun _ _ _ h => h) (Or.inl ⟨by rfl, ?hysc1b11⟩) (by exact HSS6.out _ S9.below) ?rsc1b11
              case hysc1b11 => (intro w hSw; (try dsimp only at hSw); go_simp <;> with_reducible rfl)
              simp only [Act.put, List.setIfInBounds_toArray, List.set_cons_zero, List.set_cons_succ]
              refine wpAnyH_take (i := 12) (v := ?vsc1b12) rfl (by kernel_rfl) (by kernel_rfl) (by kernel_rfl) (fun _ _ _ h => h) (Or.inl ⟨by rfl, ?hysc1b12⟩) (by exact HSS6.out _ S9.below) ?rsc1b12
              case hysc1b12 => (intro w hSw; (try dsimp only at hSw); go_simp <;> with_reducible rfl)
              simp only [Act.put, List.setIfInBounds_toArray, List.set_cons_zero, List.set_cons_succ]
              refine wpAnyH_done (by kernel_rfl) ?_ _
              go_simp
              go_wp2_with fail
              go_meet
              exact ⟨rfl, _, _, _, _, _, _, _, _, _, _, rfl, rfl, _, rfl, S9, v0, v1, r1, r2, r3⟩
          case rest =>
            obtain ⟨rfl, g6, z1, m1, f1, z2, m2, f2, ub, ulb, ucb, rfl, rfl, w8, rfl, T8, v0, v1, r1, r2, r3⟩ := hcut
            clear hH6
            obtain ⟨x0, x1, hxv, hxp, hxs⟩ := HX.out w8 (h24 w8 (h46 w8 T8.below))
            obtain ⟨_, _, _, _, hya⟩ := HF6.out w8 T8.below
            go_upto_region 7 with fail
            have HZM := Lib.hid (show meEq M Z = true by rw [HPT.out.2.2.1]; exact meEq_self _)
            have HSD := Lib.hid (show eqInts SD (SA ++ SB) = true by rw [HPT.out.2.2.2]; simp [eqInts])
            have hlen : SA.length + SB.length ≤ 1000000 := by rw [← hSA, ← hSB]; have h1 : (runS (b, ps) (List.take 0 ([] : List Hp))).length ≤ 100 := Nat.le_trans (runS_len _ _) (by first | (simp; omega) | simp); have h2 : (runS Y (List.drop 0 ([] : List Hp))).length ≤ 100 := Nat.le_trans (runS_len _ _) (by first | (simp; omega) | simp); omega
            have HSM := Lib.hid (Same_mesh _ _ _ _ M Z w8 hxv hxp r1 r2)
            have hs8 := r3
            obtain ⟨ka, _, ek, _, ⟨_, _, _⟩, _⟩ := hya.opened
            obtain rfl : ul = SA.length := by simp only [Value.slice.injEq] at ek; exact ek.2.1
            obtain ⟨kb, _, ek2, _, ⟨_, _, _⟩, _⟩ := hs8.opened
            obtain rfl : ulb = SB.length := by simp only [Value.slice.injEq] at ek2; exact ek2.2.1
            clear ek ek2 r1 r2 r3 hxv hxp
            go_wp2_with (first
              | (go_at_call 22; go_fit HSM.out; rintro e w9 ⟨rfl, hb9⟩; rw [HZM.out]; have HCC := Lib.hid (Concat_errs w9.heap.size _ _ SA SB (w9.alloc (.cells #[.slice ua SA.length uc, .slice ub SB.length ucb] 38)) (by go_simp) (by go_simp) ((hya.stays hb9).stays (below_alloc _ _)) ((hs8.stays hb9).stays (below_alloc _ _)) hlen))
              | (go_at_call 24; go_fit HCC.out; rintro e w10 ⟨⟨v10, rfl, ho10⟩, hb10⟩; have HEE := Lib.hid (Equal_errs _ _ SD (SA ++ SB) w10 (((hxs.stays hb9).stays (below_alloc _ _)).stays hb10) ho10.isInts))
              | (go_at_call 23; go_fit HEE.out; rintro e w11 ⟨rfl, hb11⟩; rw [HSD.out]))
            go_ret
            exact ⟨rfl, (((((S4.step ((T6.step T8.below).below)).step hb9).alloc (.cells #[.slice ua SA.length uc, .slice ub SB.length ucb] 38)).step hb10).step hb11).below⟩
      | some ad =>
        clear hln
        have hnl : ∀ w c9, c9 ≤ 9223372036854775807 → IsHaps w (.slice (some ad) 0 c9) [] := fun w c9 h => ⟨some ad, c9, rfl, by simp, ⟨by simp, h, fun e => by cases e⟩, fun i x hx => by simp at hx⟩
        by_cases hc0 : cl = 0
        · subst hc0
          have HRN0 := Lib.hid (fun w' (q : Below w4.heap.size w4 w') => Run_any (.slice a b.length c) (.slice a' ps.length c') (.slice (some ad) 0 0) b ps (List.take 0 ([] : List Hp)) w' ((HF4.out w' q).2.2.1) ((HF4.out w' q).2.2.2.1) (hnl _ _ (by omega)))
          rw [HPT.out.1] at HRN0
          generalize hY : runM (b, ps) (List.take 0 ([] : List Hp)) = Y at *
          generalize hSA : runS (b, ps) (List.take 0 ([] : List Hp)) = SA at *
          generalize hZ : runM Y (List.drop 0 ([] : List Hp)) = Z at *
          generalize hSB : runS Y (List.drop 0 ([] : List Hp)) = SB at *
          have HRN : Hid (∀ w', Below w4.heap.size w4 w' → Calls Tryz.prog 15 #[.agg #[.slice a b.length c, .slice a' ps.length c'], .slice (some ad) 0 0] w' fun e w'' => (∃ u1 u2 us, e = .returned (.tuple #[.agg #[u1, u2], us, .int .i64 0]) ∧ (∀ w3, Dirty (fun j => j < w'.heap.size) w'' w3 → IsVers w3 u1 Y.1 ∧ IsPeers w3 u2 Y.2 ∧ IsInts w3 us SA)) ∧ Below w'.heap.size w' w'') := HRN0
          clear HRN0
          have HSS : Hid (∀ w', Below w4.heap.size w4 w' → w'.cell? ⟨B, 0, none⟩ = some (.slice a b.length c) ∧ w'.cell? ⟨B, 1, none⟩ = some (.slice a' ps.length c')) := Lib.hid (fun w' q => ⟨(HF4.out w' q).1, (HF4.out w' q).2.1⟩)
          have hdr : Below w4.heap.size w4 w4.drew := ((Since.refl w4).drew).below
          have hH := HSS.out _ hdr
          go_upto_region 5 with fail
          go_cut [9, 10, 11] (fun s9 sX sY wx => s9 = .int .i64 0 ∧ ∃ (g5 : Nat) (y1 : Option Addr) (l1 e1 : Nat) (y2 : Option Addr) (l2 e2 : Nat) (ua : Option Addr) (ul uc : Nat), sX = .pointer (some ⟨g5, 0, none⟩) ∧ sY = .slice ua ul uc ∧ ∃ wz, wz = wx ∧ Since w4.heap.size w4 wz ∧ wz.cell? ⟨g5, 0, none⟩ = some (.slice y1 l1 e1) ∧ wz.cell? ⟨g5, 1, none⟩ = some (.slice y2 l2 e2) ∧ IsVers wz (.slice y1 l1 e1) Y.1 ∧ IsPeers wz (.slice y2 l2 e2) Y.2 ∧ IsInts wz (.slice ua ul uc) SA)
          case first =>
            refine wp_region_held_drew (S := fun w' => w'.cell? ⟨B, 0, none⟩ = some (.slice a b.length c) ∧ w'.cell? ⟨B, 1, none⟩ = some (.slice a' ps.length c')) (by kernel_rfl) hH (fun _ => ?_)
            refine wpAnyH_take (i := 0) (v := ?vpc20) rfl (by kernel_rfl) (by kernel_rfl) (by kernel_rfl) (fun _ _ _ h => h) (Or.inl ⟨by rfl, ?hypc20⟩) (by assumption) ?rpc20
            case hypc20 => (intro w hSw; (try dsimp only at hSw); go_simp <;> with_reducible rfl)
            simp only [Act.put, List.setIfInBounds_toArray, List.set_cons_zero, List.set_cons_succ]
            refine wpAnyH_take (i := 1) (v := ?vpc21) rfl (by kernel_rfl) (by kernel_rfl) (by kernel_rfl) (fun _ _ _ h => h) (Or.inl ⟨by rfl, ?hypc21⟩) (by assumption) ?rpc21
            case hypc21 => (intro w hSw; (try dsimp only at hSw); go_simp <;> with_reducible rfl)
            simp only [Act.put, List.setIfInBounds_toArray, List.set_cons_zero, List.set_cons_succ]
            refine wpAnyH_take (i := 2) (v := ?vpc22) rfl (by kernel_rfl) (by kernel_rfl) (by kernel_rfl) (fun _ _ _ h => h) (Or.inl ⟨by rfl, ?hypc22⟩) (by assumption) ?rpc22
            case hypc22 => (intro w hSw; (try dsimp only at hSw); go_simp <;> with_reducible rfl)
            simp only [Act.put, List.setIfInBounds_toArray, List.set_cons_zero, List.set_cons_succ]
            refine wpAnyH_take (i := 3) (v := ?vpc23) rfl (by kernel_rfl) (by kernel_rfl) (by kernel_rfl) (fun _ _ _ h => h) (Or.inl ⟨by rfl, ?hypc23⟩) (by assumption) ?rpc23
            case hypc23 => (intro w hSw; (try dsimp only at hSw); go_simp <;> with_reducible rfl)
            simp only [Act.put, List.setIfInBounds_toArray, List.set_cons_zero, List.set_cons_succ]
            refine wpAnyH_ready (rs := [4, 9]) (by kernel_rfl) (by simp) ?_
            refine AllReadyH.cons (o := ?opc24) ?hopc24 (fun K' hK' => ?kpc24) (AllReadyH.cons (o := ?opc29) ?hopc29 (fun K' hK' => ?kpc29) AllReadyH.nil)
            case hopc24 => (simp only [List.getElem?_toArray, List.getElem?_cons_succ, List.getElem?_cons_zero]; rfl)
            case hopc29 => (simp only [List.getElem?_toArray, List.getElem?_cons_succ, List.getElem?_cons_zero]; rfl)
            case kpc24 =>
              go_simp
              go_at_call 15
              go_fit (HRN.out _ hdr)
              rintro e w5 ⟨⟨u1, u2, us, rfl, hq⟩, hb5⟩
              obtain ⟨hv5, hp5, hs5⟩ := hq w5 (Dirty.refl _ _)
              obtain ⟨y1, e1, rfl, _⟩ := hv5.opened
              obtain ⟨y2, e2, rfl, _⟩ := hp5.opened
              obtain ⟨ua, uc, rfl, _⟩ := hs5.opened
              clear hv5 hp5 hs5
              try go_wp2_with fail
              have S5 := (Since.refl w4).drew.step hb5
              refine hK'.out _ _ (HSS.out _ S5.below) (fun _ => ?_)
              clear hK' K'
              refine wpAnyH_take (i := 5) (v := ?vpc2a5) rfl (by kernel_rfl) (by kernel_rfl) (by kernel_rfl) (fun _ _ _ h => h) (Or.inl ⟨by rfl, ?hypc2a5⟩) (by exact HSS.out _ S5.below) ?rpc2a5
              case hypc2a5 => (intro w hSw; (try dsimp only at hSw); go_simp <;> with_reducible rfl)
              simp only [Act.put, List.setIfInBounds_toArray, List.set_cons_zero, List.set_cons_succ]
              refine wpAnyH_take (i := 6) (v := ?vpc2a6) rfl (by kernel_rfl) (by kernel_rfl) (by kernel_rfl) (fun _ _ _ h => h) (Or.inl ⟨by rfl, ?hypc2a6⟩) (by exact HSS.out _ S5.below) ?rpc2a6
              case hypc2a6 => (intro w hSw; (try dsimp only at hSw); go_simp <;> with_reducible rfl)
              simp only [Act.put, List.setIfInBounds_toArray, List.set_cons_zero, List.set_cons_succ]
              refine wpAnyH_take (i := 7) (v := ?vpc2a7) rfl (by kernel_rfl) (by kernel_rfl) (by kernel_rfl) (fun _ _ _ h => h) (Or.inl ⟨by rfl, ?hypc2a7⟩) (by exact HSS.out _ S5.below) ?rpc2a7
              case hypc2a7 => (intro w hSw; (try dsimp only at hSw); go_simp <;> with_reducible rfl)
              simp only [Act.put, List.setIfInBounds_toArray, List.set_cons_zero, List.set_cons_succ]
              refine wpAnyH_take (i := 8) (v := ?vpc2a8) rfl (by kernel_rfl) (by kernel_rfl) (by kernel_rfl) (fun _ _ _ h => h) (Or.inl ⟨by rfl, ?hypc2a8⟩) (by exact HSS.out _ S5.below) ?rpc2a8
              case hypc2a8 => (intro w hSw; (try dsimp only at hSw); go_simp <;> with_reducible rfl)
              simp only [Act.put, List.setIfInBounds_toArray, List.set_cons_zero, List.set_cons_succ]
              refine wpAnyH_ready (rs := [9]) (by kernel_rfl) (by simp) ?_
              refine AllReadyH.cons (o := ?opc2a9) ?hopc2a9 (fun K' hK' => ?kpc2a9) AllReadyH.nil
              case hopc2a9 => (simp only [List.getElem?_toArray, List.getElem?_cons_succ, List.getElem?_cons_zero]; rfl)
              go_simp
              have SA9 := S5.alloc (.cells #[.slice none 0 0, .slice none 0 0] 35)
              refine hK'.out _ _ (HSS.out _ SA9.below) (fun _ => ?_)
              clear hK' K'
              clear SA9
              have S9 := S5.alloc (.cells #[.slice y1 Y.1.length e1, .slice y2 Y.2.length e2] 35)
              have v0 : (w5.alloc (.cells #[.slice y1 Y.1.length e1, .slice y2 Y.2.length e2] 35)).cell? ⟨w5.heap.size, 0, none⟩ = some (.slice y1 Y.1.length e1) := by go_simp
              have v1 : (w5.alloc (.cells #[.slice y1 Y.1.length e1, .slice y2 Y.2.length e2] 35)).cell? ⟨w5.heap.size, 1, none⟩ = some (.slice y2 Y.2.length e2) := by go_simp
              obtain ⟨r1, r2, r3⟩ := hq _ (Dirty.old (below_alloc w5 (.cells #[.slice y1 Y.1.length e1, .slice y2 Y.2.length e2] 35)) _)
              refine wpAnyH_ready (rs := [10]) (by kernel_rfl) (by simp) ?_
              refine AllReadyH.cons (o := ?opc2a10) ?hopc2a10 (fun K' hK' => ?kpc2a10) AllReadyH.nil
              case hopc2a10 => (simp only [List.getElem?_toArray, List.getElem?_cons_succ, List.getElem?_cons_zero]; rfl)
              go_simp
              refine hK'.out _ _ (HSS.out _ S9.below) (fun _ => ?_)
              clear hK' K'
              refine wpAnyH_take (i := 11) (v := ?vpc2a11) rfl (by kernel_rfl) (by kernel_rfl) (by kernel_rfl) (fun _ _ _ h => h) (Or.inl ⟨by rfl, ?hypc2a11⟩) (by exact HSS.out _ S9.below) ?rpc2a11
              case hypc2a11 => (intro w hSw; (try dsimp only at hSw); go_simp <;> with_reducible rfl)
              simp only [Act.put, List.setIfInBounds_toArray, List.set_cons_zero, List.set_cons_succ]
              refine wpAnyH_take (i := 12) (v := ?vpc2a12) rfl (by kernel_rfl) (by kernel_rfl) (by kernel_rfl) (fun _ _ _ h => h) (Or.inl ⟨by rfl, ?hypc2a12⟩) (by exact HSS.out _ S9.below) ?rpc2a12
              case hypc2a12 => (intro w hSw; (try dsimp only at hSw); go_simp <;> with_reducible rfl)
              simp only [Act.put, List.setIfInBounds_toArray, List.set_cons_zero, List.set_cons_succ]
              refine wpAnyH_done (by kernel_rfl) ?_ _
              go_simp
              go_wp2_with fail
              go_meet
              exact ⟨rfl, _, _, _, _, _, _, _, _, _, _, rfl, rfl, _, rfl, S9, v0, v1, r1, r2, r3⟩
            case kpc29 =>
              go_simp
              have HWA := Lib.hid (((Since.refl w4).alloc (.cells #[.slice none 0 0, .slice none 0 0] 35)).drew)
              have q0 : ((w4.alloc (.cells #[.slice none 0 0, .slice none 0 0] 35)).drew).cell? ⟨w4.heap.size, 0, none⟩ = some (.slice none 0 0) := by go_simp
              have q1 : ((w4.alloc (.cells #[.slice none 0 0, .slice none 0 0] 35)).drew).cell? ⟨w4.heap.size, 1, none⟩ = some (.slice none 0 0) := by go_simp
              have q2 : ((w4.alloc (.cells #[.slice none 0 0, .slice none 0 0] 35)).drew).frozen? ⟨w4.heap.size, 0, none⟩ = false := by go_simp
              have q3 : ((w4.alloc (.cells #[.slice none 0 0, .slice none 0 0] 35)).drew).frozen? ⟨w4.heap.size, 1, none⟩ = false := by go_simp
              have hgwa : w4.heap.size < ((w4.alloc (.cells #[.slice none 0 0, .slice none 0 0] 35)).drew).heap.size := by simp
              refine hK'.out _ _ (HSS.out _ HWA.out.below) (fun _ => ?_)
              clear hK' K'
              generalize (w4.alloc (.cells #[.slice none 0 0, .slice none 0 0] 35)).drew = wa at *
              refine wpAnyH_ready (rs := [4]) (by kernel_rfl) (by simp) ?_
              refine AllReadyH.cons (o := ?opc2b4) ?hopc2b4 (fun K' hK' => ?kpc2b4) AllReadyH.nil
              case hopc2b4 => (simp only [List.getElem?_toArray, List.getElem?_cons_succ, List.getElem?_cons_zero]; rfl)
              go_simp
              go_at_call 15
              go_fit (HRN.out _ HWA.out.below)
              rintro e w5 ⟨⟨u1, u2, us, rfl, hq⟩, hb5⟩
              obtain ⟨hv5, hp5, hs5⟩ := hq w5 (Dirty.refl _ _)
              obtain ⟨y1, e1, rfl, _⟩ := hv5.opened
              obtain ⟨y2, e2, rfl, _⟩ := hp5.opened
              obtain ⟨ua, uc, rfl, _⟩ := hs5.opened
              clear hv5 hp5 hs5
              try go_wp2_with fail
              have S5 := HWA.out.step hb5
              refine hK'.out _ _ (HSS.out _ S5.below) (fun _ => ?_)
              clear hK' K'
              refine wpAnyH_take (i := 5) (v := ?vpc2b5) rfl (by kernel_rfl) (by kernel_rfl) (by kernel_rfl) (fun _ _ _ h => h) (Or.inl ⟨by rfl, ?hypc2b5⟩) (by exact HSS.out _ S5.below) ?rpc2b5
              case hypc2b5 => (intro w hSw; (try dsimp only at hSw); go_simp <;> with_reducible rfl)
              simp only [Act.put, List.setIfInBounds_toArray, List.set_cons_zero, List.set_cons_succ]
              refine wpAnyH_take (i := 6) (v := ?vpc2b6) rfl (by kernel_rfl) (by kernel_rfl) (by kernel_rfl) (fun _ _ _ h => h) (Or.inl ⟨by rfl, ?hypc2b6⟩) (by exact HSS.out _ S5.below) ?rpc2b6
              case hypc2b6 => (intro w hSw; (try dsimp only at hSw); go_simp <;> with_reducible rfl)
              simp only [Act.put, List.setIfInBounds_toArray, List.set_cons_zero, List.set_cons_succ]
              refine wpAnyH_take (i := 7) (v := ?vpc2b7) rfl (by kernel_rfl) (by kernel_rfl) (by kernel_rfl) (fun _ _ _ h => h) (Or.inl ⟨by rfl, ?hypc2b7⟩) (by exact HSS.out _ S5.below) ?rpc2b7
              case hypc2b7 => (intro w hSw; (try dsimp only at hSw); go_simp <;> with_reducible rfl)
              simp only [Act.put, List.setIfInBounds_toArray, List.set_cons_zero, List.set_cons_succ]
              refine wpAnyH_take (i := 8) (v := ?vpc2b8) rfl (by kernel_rfl) (by kernel_rfl) (by kernel_rfl) (fun _ _ _ h => h) (Or.inl ⟨by rfl, ?hypc2b8⟩) (by exact HSS.out _ S5.below) ?rpc2b8
              case hypc2b8 => (intro w hSw; (try dsimp only at hSw); go_simp <;> with_reducible rfl)
              simp only [Act.put, List.setIfInBounds_toArray, List.set_cons_zero, List.set_cons_succ]
              have q0 := below_cell hb5 q0
              have q1 := below_cell hb5 q1
              have q2 := (hb5.frozen (p := ⟨w4.heap.size, 0, none⟩) hgwa).trans q2
              have q3 := (hb5.frozen (p := ⟨w4.heap.size, 1, none⟩) hgwa).trans q3
              have S9 := (S5.setCell (a := ⟨w4.heap.size, 0, none⟩) (Nat.le_refl _) (.slice y1 Y.1.length e1)).setCell (a := ⟨w4.heap.size, 1, none⟩) (Nat.le_refl _) (.slice y2 Y.2.length e2)
              have hd9 : Dirty (fun j => j = w4.heap.size) w5 ((w5.setCell ⟨w4.heap.size, 0, none⟩ (.slice y1 Y.1.length e1)).setCell ⟨w4.heap.size, 1, none⟩ (.slice y2 Y.2.length e2)) := (Dirty.of_grown ((grown_setCell w5 ⟨w4.heap.size, 0, none⟩ (.slice y1 Y.1.length e1)).trans (grown_setCell _ ⟨w4.heap.size, 1, none⟩ (.slice y2 Y.2.length e2)))).mono fun j _ hj => by cases hj; rfl
              obtain ⟨r1, r2, r3⟩ := hq _ (hd9.mono fun j _ hj => by rw [hj]; exact hgwa)
              have v0 : ((w5.setCell ⟨w4.heap.size, 0, none⟩ (.slice y1 Y.1.length e1)).setCell ⟨w4.heap.size, 1, none⟩ (.slice y2 Y.2.length e2)).cell? ⟨w4.heap.size, 0, none⟩ = some (.slice y1 Y.1.length e1) := by go_simp
              have v1 : ((w5.setCell ⟨w4.heap.size, 0, none⟩ (.slice y1 Y.1.length e1)).setCell ⟨w4.heap.size, 1, none⟩ (.slice y2 Y.2.length e2)).cell? ⟨w4.heap.size, 1, none⟩ = some (.slice y2 Y.2.length e2) := by go_simp
              refine wpAnyH_ready (rs := [10]) (by kernel_rfl) (by simp) ?_
              refine AllReadyH.cons (o := ?opc2b10) ?hopc2b10 (fun K' hK' => ?kpc2b10) AllReadyH.nil
              case hopc2b10 => (simp only [List.getElem?_toArray, List.getElem?_cons_succ, List.getElem?_cons_zero]; rfl)
              go_simp
              refine hK'.out _ _ (HSS.out _ S9.below) (fun _ => ?_)
              clear hK' K'
              refine wpAnyH_take (i := 11) (v := ?vpc2b11) rfl (by kernel_rfl) (by kernel_rfl) (by kernel_rfl) (fun _ _ _ h => h) (Or.inl ⟨by rfl, ?hypc2b11⟩) (by exact HSS.out _ S9.below) ?rpc2b11
              case hypc2b11 => (intro w hSw; (try dsimp only at hSw); go_simp <;> with_reducible rfl)
              simp only [Act.put, List.setIfInBounds_toArray, List.set_cons_zero, List.set_cons_succ]
              refine wpAnyH_take (i := 12) (v := ?vpc2b12) rfl (by kernel_rfl) (by kernel_rfl) (by kernel_rfl) (fun _ _ _ h => h) (Or.inl ⟨by rfl, ?hypc2b12⟩) (by exact HSS.out _ S9.below) ?rpc2b12
              case hypc2b12 => (intro w hSw; (try dsimp only at hSw); go_simp <;> with_reducible rfl)
              simp only [Act.put, List.setIfInBounds_toArray, List.set_cons_zero, List.set_cons_succ]
              refine wpAnyH_done (by kernel_rfl) ?_ _
              go_simp
              go_wp2_with fail
              go_meet
              exact ⟨rfl, _, _, _, _, _, _, _, _, _, _, rfl, rfl, _, rfl, S9, v0, v1, r1, r2, r3⟩
          case rest =>
            obtain ⟨rfl, g5, y1, l1, e1, y2, l2, e2, ua, ul, uc, rfl, rfl, w6, rfl, T6, v0, v1, r1, r2, r3⟩ := hcut
            clear hH
            have HF6 : Hid (∀ w', Below w6.heap.size w6 w' → w'.cell? ⟨g5, 0, none⟩ = some (.slice y1 l1 e1) ∧ w'.cell? ⟨g5, 1, none⟩ = some (.slice y2 l2 e2) ∧ IsVers w' (.slice y1 l1 e1) Y.1 ∧ IsPeers w' (.slice y2 l2 e2) Y.2 ∧ IsInts w' (.slice ua ul uc) SA) := Lib.hid (fun w' q => ⟨below_cell q v0, below_cell q v1, r1.stays RVer.stays q, r2.stays RPeer.stays q, r3.stays q⟩)
            have h46 : ∀ w', Below w6.heap.size w6 w' → Below w4.heap.size w4 w' := fun w' q => T6.below.trans (q.mono T6.2)
            have HRN1 := Lib.hid (fun w' (q : Below w6.heap.size w6 w') => Run_any (.slice y1 l1 e1) (.slice y2 l2 e2) (.slice (some ad) 0 0) Y.1 Y.2 (List.drop 0 ([] : List Hp)) w' ((HF6.out w' q).2.2.1) ((HF6.out w' q).2.2.2.1) (hnl _ _ (by omega)))
            rw [show runE (Y.1, Y.2) (List.drop 0 ([] : List Hp)) = 0 from HPT.out.2.1, show runM (Y.1, Y.2) (List.drop 0 ([] : List Hp)) = Z from hZ, show runS (Y.1, Y.2) (List.drop 0 ([] : List Hp)) = SB from hSB] at HRN1
            have HRN6 : Hid (∀ w', Below w6.heap.size w6 w' → Calls Tryz.prog 15 #[.agg #[.slice y1 l1 e1, .slice y2 l2 e2], .slice (some ad) 0 0] w' fun e w'' => (∃ u1 u2 us, e = .returned (.tuple #[.agg #[u1, u2], us, .int .i64 0]) ∧ (∀ w3, Dirty (fun j => j < w'.heap.size) w'' w3 → IsVers w3 u1 Z.1 ∧ IsPeers w3 u2 Z.2 ∧ IsInts w3 us SB)) ∧ Below w'.heap.size w' w'') := HRN1
            have HSS6 : Hid (∀ w', Below w6.heap.size w6 w' → w'.cell? ⟨g5, 0, none⟩ = some (.slice y1 l1 e1) ∧ w'.cell? ⟨g5, 1, none⟩ = some (.slice y2 l2 e2)) := Lib.hid (fun w' q => ⟨(HF6.out w' q).1, (HF6.out w' q).2.1⟩)
            clear HRN1 v0 v1 r1 r2 r3
            have hdr : Below w6.heap.size w6 w6.drew := ((Since.refl w6).drew).below
            have hH6 := HSS6.out _ hdr
            go_upto_region 6 with fail
            go_cut [12, 13, 14] (fun sX sY s14 wx => s14 = .int .i64 0 ∧ ∃ (g5 : Nat) (y1 : Option Addr) (l1 e1 : Nat) (y2 : Option Addr) (l2 e2 : Nat) (ua : Option Addr) (ul uc : Nat), sX = .pointer (some ⟨g5, 0, none⟩) ∧ sY = .slice ua ul uc ∧ ∃ wz, wz = wx ∧ Since w6.heap.size w6 wz ∧ wz.cell? ⟨g5, 0, none⟩ = some (.slice y1 l1 e1) ∧ wz.cell? ⟨g5, 1, none⟩ = some (.slice y2 l2 e2) ∧ IsVers wz (.slice y1 l1 e1) Z.1 ∧ IsPeers wz (.slice y2 l2 e2) Z.2 ∧ IsInts wz (.slice ua ul uc) SB)
            case first =>
              refine wp_region_held_drew (S := fun w' => w'.cell? ⟨g5, 0, none⟩ = some (.slice y1 l1 e1) ∧ w'.cell? ⟨g5, 1, none⟩ = some (.slice y2 l2 e2)) (by kernel_rfl) hH6 (fun _ => ?_)
              refine wpAnyH_take (i := 0) (v := ?vsc20) rfl (by kernel_rfl) (by kernel_rfl) (by kernel_rfl) (fun _ _ _ h => h) (Or.inl ⟨by rfl, ?hysc20⟩) (by assumption) ?rsc20
              case hysc20 => (intro w hSw; (try dsimp only at hSw); go_simp <;> with_reducible rfl)
              simp only [Act.put, List.setIfInBounds_toArray, List.set_cons_zero, List.set_cons_succ]
              refine wpAnyH_take (i := 1) (v := ?vsc21) rfl (by kernel_rfl) (by kernel_rfl) (by kernel_rfl) (fun _ _ _ h => h) (Or.inl ⟨by rfl, ?hysc21⟩) (by assumption) ?rsc21
              case hysc21 => (intro w hSw; (try dsimp only at hSw); go_simp <;> with_reducible rfl)
              simp only [Act.put, List.setIfInBounds_toArray, List.set_cons_zero, List.set_cons_succ]
              refine wpAnyH_take (i := 2) (v := ?vsc22) rfl (by kernel_rfl) (by kernel_rfl) (by kernel_rfl) (fun _ _ _ h => h) (Or.inl ⟨by rfl, ?hysc22⟩) (by assumption) ?rsc22
              case hysc22 => (intro w hSw; (try dsimp only at hSw); go_simp <;> with_reducible rfl)
              simp only [Act.put, List.setIfInBounds_toArray, List.set_cons_zero, List.set_cons_succ]
              refine wpAnyH_take (i := 3) (v := ?vsc23) rfl (by kernel_rfl) (by kernel_rfl) (by kernel_rfl) (fun _ _ _ h => h) (Or.inl ⟨by rfl, ?hysc23⟩) (by assumption) ?rsc23
              case hysc23 => (intro w hSw; (try dsimp only at hSw); go_simp <;> with_reducible rfl)
              simp only [Act.put, List.setIfInBounds_toArray, List.set_cons_zero, List.set_cons_succ]
              refine wpAnyH_ready (rs := [4, 9]) (by kernel_rfl) (by simp) ?_
              refine AllReadyH.cons (o := ?osc24) ?hosc24 (fun K' hK' => ?ksc24) (AllReadyH.cons (o := ?osc29) ?hosc29 (fun K' hK' => ?ksc29) AllReadyH.nil)
              case hosc24 => (simp only [List.getElem?_toArray, List.getElem?_cons_succ, List.getElem?_cons_zero]; rfl)
              case hosc29 => (simp only [List.getElem?_toArray, List.getElem?_cons_succ, List.getElem?_cons_zero]; rfl)
              case ksc24 =>
                go_simp
                go_at_call 15
                go_fit (HRN6.out _ hdr)
                rintro e w5 ⟨⟨u1, u2, us, rfl, hq⟩, hb5⟩
                obtain ⟨hv5, hp5, hs5⟩ := hq w5 (Dirty.refl _ _)
                obtain ⟨y1, e1, rfl, _⟩ := hv5.opened
                obtain ⟨y2, e2, rfl, _⟩ := hp5.opened
                obtain ⟨ua, uc, rfl, _⟩ := hs5.opened
                clear hv5 hp5 hs5
                try go_wp2_with fail
                have S5 := (Since.refl w6).drew.step hb5
                refine hK'.out _ _ (HSS6.out _ S5.below) (fun _ => ?_)
                clear hK' K'
                refine wpAnyH_take (i := 5) (v := ?vsc2a5) rfl (by kernel_rfl) (by kernel_rfl) (by kernel_rfl) (fun _ _ _ h => h) (Or.inl ⟨by rfl, ?hysc2a5⟩) (by exact HSS6.out _ S5.below) ?rsc2a5
                case hysc2a5 => (intro w hSw; (try dsimp only at hSw); go_simp <;> with_reducible rfl)
                simp only [Act.put, List.setIfInBounds_toArray, List.set_cons_zero, List.set_cons_succ]
                refine wpAnyH_take (i := 6) (v := ?vsc2a6) rfl (by kernel_rfl) (by kernel_rfl) (by kernel_rfl) (fun _ _ _ h => h) (Or.inl ⟨by rfl, ?hysc2a6⟩) (by exact HSS6.out _ S5.below) ?rsc2a6
                case hysc2a6 => (intro w hSw; (try dsimp only at hSw); go_simp <;> with_reducible rfl)
                simp only [Act.put, List.setIfInBounds_toArray, List.set_cons_zero, List.set_cons_succ]
                refine wpAnyH_take (i := 7) (v := ?vsc2a7) rfl (by kernel_rfl) (by kernel_rfl) (by kernel_rfl) (fun _ _ _ h => h) (Or.inl ⟨by rfl, ?hysc2a7⟩) (by exact HSS6.out _ S5.below) ?rsc2a7
                case hysc2a7 => (intro w hSw; (try dsimp only at hSw); go_simp <;> with_reducible rfl)
                simp only [Act.put, List.setIfInBounds_toArray, List.set_cons_zero, List.set_cons_succ]
                refine wpAnyH_take (i := 8) (v := ?vsc2a8) rfl (by kernel_rfl) (by kernel_rfl) (by kernel_rfl) (fun _ _ _ h => h) (Or.inl ⟨by rfl, ?hysc2a8⟩) (by exact HSS6.out _ S5.below) ?rsc2a8
                case hysc2a8 => (intro w hSw; (try dsimp only at hSw); go_simp <;> with_reducible rfl)
                simp only [Act.put, List.setIfInBounds_toArray, List.set_cons_zero, List.set_cons_succ]
                refine wpAnyH_ready (rs := [9]) (by kernel_rfl) (by simp) ?_
                refine AllReadyH.cons (o := ?osc2a9) ?hosc2a9 (fun K' hK' => ?ksc2a9) AllReadyH.nil
                case hosc2a9 => (simp only [List.getElem?_toArray, List.getElem?_cons_succ, List.getElem?_cons_zero]; rfl)
                go_simp
                have SA9 := S5.alloc (.cells #[.slice none 0 0, .slice none 0 0] 35)
                refine hK'.out _ _ (HSS6.out _ SA9.below) (fun _ => ?_)
                clear hK' K'
                clear SA9
                have S9 := S5.alloc (.cells #[.slice y1 Z.1.length e1, .slice y2 Z.2.length e2] 35)
                have v0 : (w5.alloc (.cells #[.slice y1 Z.1.length e1, .slice y2 Z.2.length e2] 35)).cell? ⟨w5.heap.size, 0, none⟩ = some (.slice y1 Z.1.length e1) := by go_simp
                have v1 : (w5.alloc (.cells #[.slice y1 Z.1.length e1, .slice y2 Z.2.length e2] 35)).cell? ⟨w5.heap.size, 1, none⟩ = some (.slice y2 Z.2.length e2) := by go_simp
                obtain ⟨r1, r2, r3⟩ := hq _ (Dirty.old (below_alloc w5 (.cells #[.slice y1 Z.1.length e1, .slice y2 Z.2.length e2] 35)) _)
                refine wpAnyH_ready (rs := [10]) (by kernel_rfl) (by simp) ?_
                refine AllReadyH.cons (o := ?osc2a10) ?hosc2a10 (fun K' hK' => ?ksc2a10) AllReadyH.nil
                case hosc2a10 => (simp only [List.getElem?_toArray, List.getElem?_cons_succ, List.getElem?_cons_zero]; rfl)
                go_simp
                refine hK'.out _ _ (HSS6.out _ S9.below) (fun _ => ?_)
                clear hK' K'
                refine wpAnyH_take (i := 11) (v := ?vsc2a11) rfl (by kernel_rfl) (by kernel_rfl) (by kernel_rfl) (fun _ _ _ h => h) (Or.inl ⟨by rfl, ?hysc2a11⟩) (by exact HSS6.out _ S9.below) ?rsc2a11
                case hysc2a11 => (intro w hSw; (try dsimp only at hSw); go_simp <;> with_reducible rfl)
                simp only [Act.put, List.setIfInBounds_toArray, List.set_cons_zero, List.set_cons_succ]
                refine wpAnyH_take (i := 12) (v := ?vsc2a12) rfl (by kernel_rfl) (by kernel_rfl) (by kernel_rfl) (fun _ _ _ h => h) (Or.inl ⟨by rfl, ?hysc2a12⟩) (by exact HSS6.out _ S9.below) ?rsc2a12
                case hysc2a12 => (intro w hSw; (try dsimp only at hSw); go_simp <;> with_reducible rfl)
                simp only [Act.put, List.setIfInBounds_toArray, List.set_cons_zero, List.set_cons_succ]
                refine wpAnyH_done (by kernel_rfl) ?_ _
                go_simp
                go_wp2_with fail
                go_meet
                exact ⟨rfl, _, _, _, _, _, _, _, _, _, _, rfl, rfl, _, rfl, S9, v0, v1, r1, r2, r3⟩
              case ksc29 =>
                go_simp
                have HWA := Lib.hid (((Since.refl w6).alloc (.cells #[.slice none 0 0, .slice none 0 0] 35)).drew)
                have q0 : ((w6.alloc (.cells #[.slice none 0 0, .slice none 0 0] 35)).drew).cell? ⟨w6.heap.size, 0, none⟩ = some (.slice none 0 0) := by go_simp
                have q1 : ((w6.alloc (.cells #[.slice none 0 0, .slice none 0 0] 35)).drew).cell? ⟨w6.heap.size, 1, none⟩ = some (.slice none 0 0) := by go_simp
                have q2 : ((w6.alloc (.cells #[.slice none 0 0, .slice none 0 0] 35)).drew).frozen? ⟨w6.heap.size, 0, none⟩ = false := by go_simp
                have q3 : ((w6.alloc (.cells #[.slice none 0 0, .slice none 0 0] 35)).drew).frozen? ⟨w6.heap.size, 1, none⟩ = false := by go_simp
                have hgwa : w6.heap.size < ((w6.alloc (.cells #[.slice none 0 0, .slice none 0 0] 35)).drew).heap.size := by simp
                refine hK'.out _ _ (HSS6.out _ HWA.out.below) (fun _ => ?_)
                clear hK' K'
                generalize (w6.alloc (.cells #[.slice none 0 0, .slice none 0 0] 35)).drew = wa at *
                refine wpAnyH_ready (rs := [4]) (by kernel_rfl) (by simp) ?_
                refine AllReadyH.cons (o := ?osc2b4) ?hosc2b4 (fun K' hK' => ?ksc2b4) AllReadyH.nil
                case hosc2b4 => (simp only [List.getElem?_toArray, List.getElem?_cons_succ, List.getElem?_cons_zero]; rfl)
                go_simp
                go_at_call 15
                go_fit (HRN6.out _ HWA.out.below)
                rintro e w5 ⟨⟨u1, u2, us, rfl, hq⟩, hb5⟩
                obtain ⟨hv5, hp5, hs5⟩ := hq w5 (Dirty.refl _ _)
                obtain ⟨y1, e1, rfl, _⟩ := hv5.opened
                obtain ⟨y2, e2, rfl, _⟩ := hp5.opened
                obtain ⟨ua, uc, rfl, _⟩ := hs5.opened
                clear hv5 hp5 hs5
                try go_wp2_with fail
                have S5 := HWA.out.step hb5
                refine hK'.out _ _ (HSS6.out _ S5.below) (fun _ => ?_)
                clear hK' K'
                refine wpAnyH_take (i := 5) (v := ?vsc2b5) rfl (by kernel_rfl) (by kernel_rfl) (by kernel_rfl) (fun _ _ _ h => h) (Or.inl ⟨by rfl, ?hysc2b5⟩) (by exact HSS6.out _ S5.below) ?rsc2b5
                case hysc2b5 => (intro w hSw; (try dsimp only at hSw); go_simp <;> with_reducible rfl)
                simp only [Act.put, List.setIfInBounds_toArray, List.set_cons_zero, List.set_cons_succ]
                refine wpAnyH_take (i := 6) (v := ?vsc2b6) rfl (by kernel_rfl) (by kernel_rfl) (by kernel_rfl) (fun _ _ _ h => h) (Or.inl ⟨by rfl, ?hysc2b6⟩) (by exact HSS6.out _ S5.below) ?rsc2b6
                case hysc2b6 => (intro w hSw; (try dsimp only at hSw); go_simp <;> with_reducible rfl)
                simp only [Act.put, List.setIfInBounds_toArray, List.set_cons_zero, List.set_cons_succ]
                refine wpAnyH_take (i := 7) (v := ?vsc2b7) rfl (by kernel_rfl) (by kernel_rfl) (by kernel_rfl) (fun _ _ _ h => h) (Or.inl ⟨by rfl, ?hysc2b7⟩) (by exact HSS6.out _ S5.below) ?rsc2b7
                case hysc2b7 => (intro w hSw; (try dsimp only at hSw); go_simp <;> with_reducible rfl)
                simp only [Act.put, List.setIfInBounds_toArray, List.set_cons_zero, List.set_cons_succ]
                refine wpAnyH_take (i := 8) (v := ?vsc2b8) rfl (by kernel_rfl) (by kernel_rfl) (by kernel_rfl) (fun _ _ _ h => h) (Or.inl ⟨by rfl, ?hysc2b8⟩) (by exact HSS6.out _ S5.below) ?rsc2b8
                case hysc2b8 => (intro w hSw; (try dsimp only at hSw); go_simp <;> with_reducible rfl)
                simp only [Act.put, List.setIfInBounds_toArray, List.set_cons_zero, List.set_cons_succ]
                have q0 := below_cell hb5 q0
                have q1 := below_cell hb5 q1
                have q2 := (hb5.frozen (p := ⟨w6.heap.size, 0, none⟩) hgwa).trans q2
                have q3 := (hb5.frozen (p := ⟨w6.heap.size, 1, none⟩) hgwa).trans q3
                have S9 := (S5.setCell (a := ⟨w6.heap.size, 0, none⟩) (Nat.le_refl _) (.slice y1 Z.1.length e1)).setCell (a := ⟨w6.heap.size, 1, none⟩) (Nat.le_refl _) (.slice y2 Z.2.length e2)
                have hd9 : Dirty (fun j => j = w6.heap.size) w5 ((w5.setCell ⟨w6.heap.size, 0, none⟩ (.slice y1 Z.1.length e1)).setCell ⟨w6.heap.size, 1, none⟩ (.slice y2 Z.2.length e2)) := (Dirty.of_grown ((grown_setCell w5 ⟨w6.heap.size, 0, none⟩ (.slice y1 Z.1.length e1)).trans (grown_setCell _ ⟨w6.heap.size, 1, none⟩ (.slice y2 Z.2.length e2)))).mono fun j _ hj => by cases hj; rfl
                obtain ⟨r1, r2, r3⟩ := hq _ (hd9.mono fun j _ hj => by rw [hj]; exact hgwa)
                have v0 : ((w5.setCell ⟨w6.heap.size, 0, none⟩ (.slice y1 Z.1.length e1)).setCell ⟨w6.heap.size, 1, none⟩ (.slice y2 Z.2.length e2)).cell? ⟨w6.heap.size, 0, none⟩ = some (.slice y1 Z.1.length e1) := by go_simp
                have v1 : ((w5.setCell ⟨w6.heap.size, 0, none⟩ (.slice y1 Z.1.length e1)).setCell ⟨w6.heap.size, 1, none⟩ (.slice y2 Z.2.length e2)).cell? ⟨w6.heap.size, 1, none⟩ = some (.slice y2 Z.2.length e2) := by go_simp
                refine wpAnyH_ready (rs := [10]) (by kernel_rfl) (by simp) ?_
                refine AllReadyH.cons (o := ?osc2b10) ?hosc2b10 (fun K' hK' => ?ksc2b10) AllReadyH.nil
                case hosc2b10 => (simp only [List.getElem?_toArray, List.getElem?_cons_succ, List.getElem?_cons_zero]; rfl)
                go_simp
                refine hK'.out _ _ (HSS6.out _ S9.below) (fun _ => ?_)
                clear hK' K'
                refine wpAnyH_take (i := 11) (v := ?vsc2b11) rfl (by kernel_rfl) (by kernel_rfl) (by kernel_rfl) (fun _ _ _ h => h) (Or.inl ⟨by rfl, ?hysc2b11⟩) (by exact HSS6.out _ S9.below) ?rsc2b11
                case hysc2b11 => (intro w hSw; (try dsimp only at hSw); go_simp <;> with_reducible rfl)
                simp only [Act.put, List.setIfInBounds_toArray, List.set_cons_zero, List.set_cons_succ]
                refine wpAnyH_take (i := 12) (v := ?vsc2b12) rfl (by kernel_rfl) (by kernel_rfl) (by kernel_rfl) (fun _ _ _ h => h) (Or.inl ⟨by rfl, ?hysc2b12⟩) (by exact HSS6.out _ S9.below) ?rsc2b12
                case hysc2b12 => (intro w hSw; (try dsimp only at hSw); go_simp <;> with_reducible rfl)
                simp only [Act.put, List.setIfInBounds_toArray, List.set_cons_zero, List.set_cons_succ]
                refine wpAnyH_done (by kernel_rfl) ?_ _
                go_simp
                go_wp2_with fail
                go_meet
                exact ⟨rfl, _, _, _, _, _, _, _, _, _, _, rfl, rfl, _, rfl, S9, v0, v1, r1, r2, r3⟩
            case rest =>
              obtain ⟨rfl, g6, z1, m1, f1, z2, m2, f2, ub, ulb, ucb, rfl, rfl, w8, rfl, T8, v0, v1, r1, r2, r3⟩ := hcut
              clear hH6
              obtain ⟨x0, x1, hxv, hxp, hxs⟩ := HX.out w8 (h24 w8 (h46 w8 T8.below))
              obtain ⟨_, _, _, _, hya⟩ := HF6.out w8 T8.below
              go_upto_region 7 with fail
              have HZM := Lib.hid (show meEq M Z = true by rw [HPT.out.2.2.1]; exact meEq_self _)
              have HSD := Lib.hid (show eqInts SD (SA ++ SB) = true by rw [HPT.out.2.2.2]; simp [eqInts])
              have hlen : SA.length + SB.length ≤ 1000000 := by rw [← hSA, ← hSB]; have h1 : (runS (b, ps) (List.take 0 ([] : List Hp))).length ≤ 100 := Nat.le_trans (runS_len _ _) (by first | (simp; omega) | simp); have h2 : (runS Y (List.drop 0 ([] : List Hp))).length ≤ 100 := Nat.le_trans (runS_len _ _) (by first | (simp; omega) | simp); omega
              have HSM := Lib.hid (Same_mesh _ _ _ _ M Z w8 hxv hxp r1 r2)
              have hs8 := r3
              obtain ⟨ka, _, ek, _, ⟨_, _, _⟩, _⟩ := hya.opened
              obtain rfl : ul = SA.length := by simp only [Value.slice.injEq] at ek; exact ek.2.1
              obtain ⟨kb, _, ek2, _, ⟨_, _, _⟩, _⟩ := hs8.opened
              obtain rfl : ulb = SB.length := by simp only [Value.slice.injEq] at ek2; exact ek2.2.1
              clear ek ek2 r1 r2 r3 hxv hxp
              go_wp2_with (first
                | (go_at_call 22; go_fit HSM.out; rintro e w9 ⟨rfl, hb9⟩; rw [HZM.out]; have HCC := Lib.hid (Concat_errs w9.heap.size _ _ SA SB (w9.alloc (.cells #[.slice ua SA.length uc, .slice ub SB.length ucb] 38)) (by go_simp) (by go_simp) ((hya.stays hb9).stays (below_alloc _ _)) ((hs8.stays hb9).stays (below_alloc _ _)) hlen))
                | (go_at_call 24; go_fit HCC.out; rintro e w10 ⟨⟨v10, rfl, ho10⟩, hb10⟩; have HEE := Lib.hid (Equal_errs _ _ SD (SA ++ SB) w10 (((hxs.stays hb9).stays (below_alloc _ _)).stays hb10) ho10.isInts))
                | (go_at_call 23; go_fit HEE.out; rintro e w11 ⟨rfl, hb11⟩; rw [HSD.out]))
              go_ret
              exact ⟨rfl, (((((S4.step ((T6.step T8.below).below)).step hb9).alloc (.cells #[.slice ua SA.length uc, .slice ub SB.length ucb] 38)).step hb10).step hb11).below⟩
        · have hcp : (0 : Int) < (cl : Int) := by omega
          have HRN0 := Lib.hid (fun w' (q : Below w4.heap.size w4 w') => Run_any (.slice a b.length c) (.slice a' ps.length c') (.slice (some ad) 0 cl) b ps (List.take 0 ([] : List Hp)) w' ((HF4.out w' q).2.2.1) ((HF4.out w' q).2.2.2.1) (hnl _ _ (by omega)))
          rw [HPT.out.1] at HRN0
          generalize hY : runM (b, ps) (List.take 0 ([] : List Hp)) = Y at *
          generalize hSA : runS (b, ps) (List.take 0 ([] : List Hp)) = SA at *
          generalize hZ : runM Y (List.drop 0 ([] : List Hp)) = Z at *
          generalize hSB : runS Y (List.drop 0 ([] : List Hp)) = SB at *
          have HRN : Hid (∀ w', Below w4.heap.size w4 w' → Calls Tryz.prog 15 #[.agg #[.slice a b.length c, .slice a' ps.length c'], .slice (some ad) 0 cl] w' fun e w'' => (∃ u1 u2 us, e = .returned (.tuple #[.agg #[u1, u2], us, .int .i64 0]) ∧ (∀ w3, Dirty (fun j => j < w'.heap.size) w'' w3 → IsVers w3 u1 Y.1 ∧ IsPeers w3 u2 Y.2 ∧ IsInts w3 us SA)) ∧ Below w'.heap.size w' w'') := HRN0
          clear HRN0
          have HSS : Hid (∀ w', Below w4.heap.size w4 w' → w'.cell? ⟨B, 0, none⟩ = some (.slice a b.length c) ∧ w'.cell? ⟨B, 1, none⟩ = some (.slice a' ps.length c')) := Lib.hid (fun w' q => ⟨(HF4.out w' q).1, (HF4.out w' q).2.1⟩)
          have hdr : Below w4.heap.size w4 w4.drew := ((Since.refl w4).drew).below
          have hH := HSS.out _ hdr
          go_upto_region 5 with fail
          go_cut [9, 10, 11] (fun s9 sX sY wx => s9 = .int .i64 0 ∧ ∃ (g5 : Nat) (y1 : Option Addr) (l1 e1 : Nat) (y2 : Option Addr) (l2 e2 : Nat) (ua : Option Addr) (ul uc : Nat), sX = .pointer (some ⟨g5, 0, none⟩) ∧ sY = .slice ua ul uc ∧ ∃ wz, wz = wx ∧ Since w4.heap.size w4 wz ∧ wz.cell? ⟨g5, 0, none⟩ = some (.slice y1 l1 e1) ∧ wz.cell? ⟨g5, 1, none⟩ = some (.slice y2 l2 e2) ∧ IsVers wz (.slice y1 l1 e1) Y.1 ∧ IsPeers wz (.slice y2 l2 e2) Y.2 ∧ IsInts wz (.slice ua ul uc) SA)
          case first =>
            refine wp_region_held_drew (S := fun w' => w'.cell? ⟨B, 0, none⟩ = some (.slice a b.length c) ∧ w'.cell? ⟨B, 1, none⟩ = some (.slice a' ps.length c')) (by kernel_rfl) hH (fun _ => ?_)
            refine wpAnyH_take (i := 0) (v := ?vpc30) rfl (by kernel_rfl) (by kernel_rfl) (by kernel_rfl) (fun _ _ _ h => h) (Or.inl ⟨by rfl, ?hypc30⟩) (by assumption) ?rpc30
            case hypc30 => (intro w hSw; (try dsimp only at hSw); go_simp <;> with_reducible rfl)
            simp only [Act.put, List.setIfInBounds_toArray, List.set_cons_zero, List.set_cons_succ]
            refine wpAnyH_take (i := 1) (v := ?vpc31) rfl (by kernel_rfl) (by kernel_rfl) (by kernel_rfl) (fun _ _ _ h => h) (Or.inl ⟨by rfl, ?hypc31⟩) (by assumption) ?rpc31
            case hypc31 => (intro w hSw; (try dsimp only at hSw); go_simp <;> with_reducible rfl)
            simp only [Act.put, List.setIfInBounds_toArray, List.set_cons_zero, List.set_cons_succ]
            refine wpAnyH_take (i := 2) (v := ?vpc32) rfl (by kernel_rfl) (by kernel_rfl) (by kernel_rfl) (fun _ _ _ h => h) (Or.inl ⟨by rfl, ?hypc32⟩) (by assumption) ?rpc32
            case hypc32 => (intro w hSw; (try dsimp only at hSw); go_simp <;> with_reducible rfl)
            simp only [Act.put, List.setIfInBounds_toArray, List.set_cons_zero, List.set_cons_succ]
            refine wpAnyH_take (i := 3) (v := ?vpc33) rfl (by kernel_rfl) (by kernel_rfl) (by kernel_rfl) (fun _ _ _ h => h) (Or.inl ⟨by rfl, ?hypc33⟩) (by assumption) ?rpc33
            case hypc33 => (intro w hSw; (try dsimp only at hSw); go_simp <;> with_reducible rfl)
            simp only [Act.put, List.setIfInBounds_toArray, List.set_cons_zero, List.set_cons_succ]
            refine wpAnyH_ready (rs := [4, 9]) (by kernel_rfl) (by simp) ?_
            refine AllReadyH.cons (o := ?opc34) ?hopc34 (fun K' hK' => ?kpc34) (AllReadyH.cons (o := ?opc39) ?hopc39 (fun K' hK' => ?kpc39) AllReadyH.nil)
            case hopc34 => (simp only [List.getElem?_toArray, List.getElem?_cons_succ, List.getElem?_cons_zero]; rfl)
            case hopc39 => (simp only [List.getElem?_toArray, List.getElem?_cons_succ, List.getElem?_cons_zero]; rfl)
            case kpc34 =>
              go_simp
              go_at_call 15
              go_fit (HRN.out _ hdr)
              rintro e w5 ⟨⟨u1, u2, us, rfl, hq⟩, hb5⟩
              obtain ⟨hv5, hp5, hs5⟩ := hq w5 (Dirty.refl _ _)
              obtain ⟨y1, e1, rfl, _⟩ := hv5.opened
              obtain ⟨y2, e2, rfl, _⟩ := hp5.opened
              obtain ⟨ua, uc, rfl, _⟩ := hs5.opened
              clear hv5 hp5 hs5
              try go_wp2_with fail
              have S5 := (Since.refl w4).drew.step hb5
              refine hK'.out _ _ (HSS.out _ S5.below) (fun _ => ?_)
              clear hK' K'
              refine wpAnyH_take (i := 5) (v := ?vpc3a5) rfl (by kernel_rfl) (by kernel_rfl) (by kernel_rfl) (fun _ _ _ h => h) (Or.inl ⟨by rfl, ?hypc3a5⟩) (by exact HSS.out _ S5.below) ?rpc3a5
              case hypc3a5 => (intro w hSw; (try dsimp only at hSw); go_simp <;> with_reducible rfl)
              simp only [Act.put, List.setIfInBounds_toArray, List.set_cons_zero, List.set_cons_succ]
              refine wpAnyH_take (i := 6) (v := ?vpc3a6) rfl (by kernel_rfl) (by kernel_rfl) (by kernel_rfl) (fun _ _ _ h => h) (Or.inl ⟨by rfl, ?hypc3a6⟩) (by exact HSS.out _ S5.below) ?rpc3a6
              case hypc3a6 => (intro w hSw; (try dsimp only at hSw); go_simp <;> with_reducible rfl)
              simp only [Act.put, List.setIfInBounds_toArray, List.set_cons_zero, List.set_cons_succ]
              refine wpAnyH_take (i := 7) (v := ?vpc3a7) rfl (by kernel_rfl) (by kernel_rfl) (by kernel_rfl) (fun _ _ _ h => h) (Or.inl ⟨by rfl, ?hypc3a7⟩) (by exact HSS.out _ S5.below) ?rpc3a7
              case hypc3a7 => (intro w hSw; (try dsimp only at hSw); go_simp <;> with_reducible rfl)
              simp only [Act.put, List.setIfInBounds_toArray, List.set_cons_zero, List.set_cons_succ]
              refine wpAnyH_take (i := 8) (v := ?vpc3a8) rfl (by kernel_rfl) (by kernel_rfl) (by kernel_rfl) (fun _ _ _ h => h) (Or.inl ⟨by rfl, ?hypc3a8⟩) (by exact HSS.out _ S5.below) ?rpc3a8
              case hypc3a8 => (intro w hSw; (try dsimp only at hSw); go_simp <;> with_reducible rfl)
              simp only [Act.put, List.setIfInBounds_toArray, List.set_cons_zero, List.set_cons_succ]
              refine wpAnyH_ready (rs := [9]) (by kernel_rfl) (by simp) ?_
              refine AllReadyH.cons (o := ?opc3a9) ?hopc3a9 (fun K' hK' => ?kpc3a9) AllReadyH.nil
              case hopc3a9 => (simp only [List.getElem?_toArray, List.getElem?_cons_succ, List.getElem?_cons_zero]; rfl)
              go_simp
              have SA9 := S5.alloc (.cells #[.slice none 0 0, .slice none 0 0] 35)
              refine hK'.out _ _ (HSS.out _ SA9.below) (fun _ => ?_)
              clear hK' K'
              clear SA9
              have S9 := S5.alloc (.cells #[.slice y1 Y.1.length e1, .slice y2 Y.2.length e2] 35)
              have v0 : (w5.alloc (.cells #[.slice y1 Y.1.length e1, .slice y2 Y.2.length e2] 35)).cell? ⟨w5.heap.size, 0, none⟩ = some (.slice y1 Y.1.length e1) := by go_simp
              have v1 : (w5.alloc (.cells #[.slice y1 Y.1.length e1, .slice y2 Y.2.length e2] 35)).cell? ⟨w5.heap.size, 1, none⟩ = some (.slice y2 Y.2.length e2) := by go_simp
              obtain ⟨r1, r2, r3⟩ := hq _ (Dirty.old (below_alloc w5 (.cells #[.slice y1 Y.1.length e1, .slice y2 Y.2.length e2] 35)) _)
              refine wpAnyH_ready (rs := [10]) (by kernel_rfl) (by simp) ?_
              refine AllReadyH.cons (o := ?opc3a10) ?hopc3a10 (fun K' hK' => ?kpc3a10) AllReadyH.nil
              case hopc3a10 => (simp only [List.getElem?_toArray, List.getElem?_cons_succ, List.getElem?_cons_zero]; rfl)
              go_simp
              refine hK'.out _ _ (HSS.out _ S9.below) (fun _ => ?_)
              clear hK' K'
              refine wpAnyH_take (i := 11) (v := ?vpc3a11) rfl (by kernel_rfl) (by kernel_rfl) (by kernel_rfl) (fun _ _ _ h => h) (Or.inl ⟨by rfl, ?hypc3a11⟩) (by exact HSS.out _ S9.below) ?rpc3a11
              case hypc3a11 => (intro w hSw; (try dsimp only at hSw); go_simp <;> with_reducible rfl)
              simp only [Act.put, List.setIfInBounds_toArray, List.set_cons_zero, List.set_cons_succ]
              refine wpAnyH_take (i := 12) (v := ?vpc3a12) rfl (by kernel_rfl) (by kernel_rfl) (by kernel_rfl) (fun _ _ _ h => h) (Or.inl ⟨by rfl, ?hypc3a12⟩) (by exact HSS.out _ S9.below) ?rpc3a12
              case hypc3a12 => (intro w hSw; (try dsimp only at hSw); go_simp <;> with_reducible rfl)
              simp only [Act.put, List.setIfInBounds_toArray, List.set_cons_zero, List.set_cons_succ]
              refine wpAnyH_done (by kernel_rfl) ?_ _
              go_simp
              go_wp2_with fail
              go_meet
              exact ⟨rfl, _, _, _, _, _, _, _, _, _, _, rfl, rfl, _, rfl, S9, v0, v1, r1, r2, r3⟩
            case kpc39 =>
              go_simp
              have HWA := Lib.hid (((Since.refl w4).alloc (.cells #[.slice none 0 0, .slice none 0 0] 35)).drew)
              have q0 : ((w4.alloc (.cells #[.slice none 0 0, .slice none 0 0] 35)).drew).cell? ⟨w4.heap.size, 0, none⟩ = some (.slice none 0 0) := by go_simp
              have q1 : ((w4.alloc (.cells #[.slice none 0 0, .slice none 0 0] 35)).drew).cell? ⟨w4.heap.size, 1, none⟩ = some (.slice none 0 0) := by go_simp
              have q2 : ((w4.alloc (.cells #[.slice none 0 0, .slice none 0 0] 35)).drew).frozen? ⟨w4.heap.size, 0, none⟩ = false := by go_simp
              have q3 : ((w4.alloc (.cells #[.slice none 0 0, .slice none 0 0] 35)).drew).frozen? ⟨w4.heap.size, 1, none⟩ = false := by go_simp
              have hgwa : w4.heap.size < ((w4.alloc (.cells #[.slice none 0 0, .slice none 0 0] 35)).drew).heap.size := by simp
              refine hK'.out _ _ (HSS.out _ HWA.out.below) (fun _ => ?_)
              clear hK' K'
              generalize (w4.alloc (.cells #[.slice none 0 0, .slice none 0 0] 35)).drew = wa at *
              refine wpAnyH_ready (rs := [4]) (by kernel_rfl) (by simp) ?_
              refine AllReadyH.cons (o := ?opc3b4) ?hopc3b4 (fun K' hK' => ?kpc3b4) AllReadyH.nil
              case hopc3b4 => (simp only [List.getElem?_toArray, List.getElem?_cons_succ, List.getElem?_cons_zero]; rfl)
              go_simp
              go_at_call 15
              go_fit (HRN.out _ HWA.out.below)
              rintro e w5 ⟨⟨u1, u2, us, rfl, hq⟩, hb5⟩
              obtain ⟨hv5, hp5, hs5⟩ := hq w5 (Dirty.refl _ _)
              obtain ⟨y1, e1, rfl, _⟩ := hv5.opened
              obtain ⟨y2, e2, rfl, _⟩ := hp5.opened
              obtain ⟨ua, uc, rfl, _⟩ := hs5.opened
              clear hv5 hp5 hs5
              try go_wp2_with fail
              have S5 := HWA.out.step hb5
              refine hK'.out _ _ (HSS.out _ S5.below) (fun _ => ?_)
              clear hK' K'
              refine wpAnyH_take (i := 5) (v := ?vpc3b5) rfl (by kernel_rfl) (by kernel_rfl) (by kernel_rfl) (fun _ _ _ h => h) (Or.inl ⟨by rfl, ?hypc3b5⟩) (by exact HSS.out _ S5.below) ?rpc3b5
              case hypc3b5 => (intro w hSw; (try dsimp only at hSw); go_simp <;> with_reducible rfl)
              simp only [Act.put, List.setIfInBounds_toArray, List.set_cons_zero, List.set_cons_succ]
              refine wpAnyH_take (i := 6) (v := ?vpc3b6) rfl (by kernel_rfl) (by kernel_rfl) (by kernel_rfl) (fun _ _ _ h => h) (Or.inl ⟨by rfl, ?hypc3b6⟩) (by exact HSS.out _ S5.below) ?rpc3b6
              case hypc3b6 => (intro w hSw; (try dsimp only at hSw); go_simp <;> with_reducible rfl)
              simp only [Act.put, List.setIfInBounds_toArray, List.set_cons_zero, List.set_cons_succ]
              refine wpAnyH_take (i := 7) (v := ?vpc3b7) rfl (by kernel_rfl) (by kernel_rfl) (by kernel_rfl) (fun _ _ _ h => h) (Or.inl ⟨by rfl, ?hypc3b7⟩) (by exact HSS.out _ S5.below) ?rpc3b7
              case hypc3b7 => (intro w hSw; (try dsimp only at hSw); go_simp <;> with_reducible rfl)
              simp only [Act.put, List.setIfInBounds_toArray, List.set_cons_zero, List.set_cons_succ]
              refine wpAnyH_take (i := 8) (v := ?vpc3b8) rfl (by kernel_rfl) (by kernel_rfl) (by kernel_rfl) (fun _ _ _ h => h) (Or.inl ⟨by rfl, ?hypc3b8⟩) (by exact HSS.out _ S5.below) ?rpc3b8
              case hypc3b8 => (intro w hSw; (try dsimp only at hSw); go_simp <;> with_reducible rfl)
              simp only [Act.put, List.setIfInBounds_toArray, List.set_cons_zero, List.set_cons_succ]
              have q0 := below_cell hb5 q0
              have q1 := below_cell hb5 q1
              have q2 := (hb5.frozen (p := ⟨w4.heap.size, 0, none⟩) hgwa).trans q2
              have q3 := (hb5.frozen (p := ⟨w4.heap.size, 1, none⟩) hgwa).trans q3
              have S9 := (S5.setCell (a := ⟨w4.heap.size, 0, none⟩) (Nat.le_refl _) (.slice y1 Y.1.length e1)).setCell (a := ⟨w4.heap.size, 1, none⟩) (Nat.le_refl _) (.slice y2 Y.2.length e2)
              have hd9 : Dirty (fun j => j = w4.heap.size) w5 ((w5.setCell ⟨w4.heap.size, 0, none⟩ (.slice y1 Y.1.length e1)).setCell ⟨w4.heap.size, 1, none⟩ (.slice y2 Y.2.length e2)) := (Dirty.of_grown ((grown_setCell w5 ⟨w4.heap.size, 0, none⟩ (.slice y1 Y.1.length e1)).trans (grown_setCell _ ⟨w4.heap.size, 1, none⟩ (.slice y2 Y.2.length e2)))).mono fun j _ hj => by cases hj; rfl
              obtain ⟨r1, r2, r3⟩ := hq _ (hd9.mono fun j _ hj => by rw [hj]; exact hgwa)
              have v0 : ((w5.setCell ⟨w4.heap.size, 0, none⟩ (.slice y1 Y.1.length e1)).setCell ⟨w4.heap.size, 1, none⟩ (.slice y2 Y.2.length e2)).cell? ⟨w4.heap.size, 0, none⟩ = some (.slice y1 Y.1.length e1) := by go_simp
              have v1 : ((w5.setCell ⟨w4.heap.size, 0, none⟩ (.slice y1 Y.1.length e1)).setCell ⟨w4.heap.size, 1, none⟩ (.slice y2 Y.2.length e2)).cell? ⟨w4.heap.size, 1, none⟩ = some (.slice y2 Y.2.length e2) := by go_simp
              refine wpAnyH_ready (rs := [10]) (by kernel_rfl) (by simp) ?_
              refine AllReadyH.cons (o := ?opc3b10) ?hopc3b10 (fun K' hK' => ?kpc3b10) AllReadyH.nil
              case hopc3b10 => (simp only [List.getElem?_toArray, List.getElem?_cons_succ, List.getElem?_cons_zero]; rfl)
              go_simp
              refine hK'.out _ _ (HSS.out _ S9.below) (fun _ => ?_)
              clear hK' K'
              refine wpAnyH_take (i := 11) (v := ?vpc3b11) rfl (by kernel_rfl) (by kernel_rfl) (by kernel_rfl) (fun _ _ _ h => h) (Or.inl ⟨by rfl, ?hypc3b11⟩) (by exact HSS.out _ S9.below) ?rpc3b11
              case hypc3b11 => (intro w hSw; (try dsimp only at hSw); go_simp <;> with_reducible rfl)
              simp only [Act.put, List.setIfInBounds_toArray, List.set_cons_zero, List.set_cons_succ]
              refine wpAnyH_take (i := 12) (v := ?vpc3b12) rfl (by kernel_rfl) (by kernel_rfl) (by kernel_rfl) (fun _ _ _ h => h) (Or.inl ⟨by rfl, ?hypc3b12⟩) (by exact HSS.out _ S9.below) ?rpc3b12
              case hypc3b12 => (intro w hSw; (try dsimp only at hSw); go_simp <;> with_reducible rfl)
              simp only [Act.put, List.setIfInBounds_toArray, List.set_cons_zero, List.set_cons_succ]
              refine wpAnyH_done (by kernel_rfl) ?_ _
              go_simp
              go_wp2_with fail
              go_meet
              exact ⟨rfl, _, _, _, _, _, _, _, _, _, _, rfl, rfl, _, rfl, S9, v0, v1, r1, r2, r3⟩
          case rest =>
            obtain ⟨rfl, g5, y1, l1, e1, y2, l2, e2, ua, ul, uc, rfl, rfl, w6, rfl, T6, v0, v1, r1, r2, r3⟩ := hcut
            clear hH
            have HF6 : Hid (∀ w', Below w6.heap.size w6 w' → w'.cell? ⟨g5, 0, none⟩ = some (.slice y1 l1 e1) ∧ w'.cell? ⟨g5, 1, none⟩ = some (.slice y2 l2 e2) ∧ IsVers w' (.slice y1 l1 e1) Y.1 ∧ IsPeers w' (.slice y2 l2 e2) Y.2 ∧ IsInts w' (.slice ua ul uc) SA) := Lib.hid (fun w' q => ⟨below_cell q v0, below_cell q v1, r1.stays RVer.stays q, r2.stays RPeer.stays q, r3.stays q⟩)
            have h46 : ∀ w', Below w6.heap.size w6 w' → Below w4.heap.size w4 w' := fun w' q => T6.below.trans (q.mono T6.2)
            have HRN1 := Lib.hid (fun w' (q : Below w6.heap.size w6 w') => Run_any (.slice y1 l1 e1) (.slice y2 l2 e2) (.slice (some ad) 0 cl) Y.1 Y.2 (List.drop 0 ([] : List Hp)) w' ((HF6.out w' q).2.2.1) ((HF6.out w' q).2.2.2.1) (hnl _ _ (by omega)))
            rw [show runE (Y.1, Y.2) (List.drop 0 ([] : List Hp)) = 0 from HPT.out.2.1, show runM (Y.1, Y.2) (List.drop 0 ([] : List Hp)) = Z from hZ, show runS (Y.1, Y.2) (List.drop 0 ([] : List Hp)) = SB from hSB] at HRN1
            have HRN6 : Hid (∀ w', Below w6.heap.size w6 w' → Calls Tryz.prog 15 #[.agg #[.slice y1 l1 e1, .slice y2 l2 e2], .slice (some ad) 0 cl] w' fun e w'' => (∃ u1 u2 us, e = .returned (.tuple #[.agg #[u1, u2], us, .int .i64 0]) ∧ (∀ w3, Dirty (fun j => j < w'.heap.size) w'' w3 → IsVers w3 u1 Z.1 ∧ IsPeers w3 u2 Z.2 ∧ IsInts w3 us SB)) ∧ Below w'.heap.size w' w'') := HRN1
            have HSS6 : Hid (∀ w', Below w6.heap.size w6 w' → w'.cell? ⟨g5, 0, none⟩ = some (.slice y1 l1 e1) ∧ w'.cell? ⟨g5, 1, none⟩ = some (.slice y2 l2 e2)) := Lib.hid (fun w' q => ⟨(HF6.out w' q).1, (HF6.out w' q).2.1⟩)
            clear HRN1 v0 v1 r1 r2 r3
            have hdr : Below w6.heap.size w6 w6.drew := ((Since.refl w6).drew).below
            have hH6 := HSS6.out _ hdr
            go_upto_region 6 with fail
            go_cut [12, 13, 14] (fun sX sY s14 wx => s14 = .int .i64 0 ∧ ∃ (g5 : Nat) (y1 : Option Addr) (l1 e1 : Nat) (y2 : Option Addr) (l2 e2 : Nat) (ua : Option Addr) (ul uc : Nat), sX = .pointer (some ⟨g5, 0, none⟩) ∧ sY = .slice ua ul uc ∧ ∃ wz, wz = wx ∧ Since w6.heap.size w6 wz ∧ wz.cell? ⟨g5, 0, none⟩ = some (.slice y1 l1 e1) ∧ wz.cell? ⟨g5, 1, none⟩ = some (.slice y2 l2 e2) ∧ IsVers wz (.slice y1 l1 e1) Z.1 ∧ IsPeers wz (.slice y2 l2 e2) Z.2 ∧ IsInts wz (.slice ua ul uc) SB)
            case first =>
              refine wp_region_held_drew (S := fun w' => w'.cell? ⟨g5, 0, none⟩ = some (.slice y1 l1 e1) ∧ w'.cell? ⟨g5, 1, none⟩ = some (.slice y2 l2 e2)) (by kernel_rfl) hH6 (fun _ => ?_)
              refine wpAnyH_take (i := 0) (v := ?vsc30) rfl (by kernel_rfl) (by kernel_rfl) (by kernel_rfl) (fun _ _ _ h => h) (Or.inl ⟨by rfl, ?hysc30⟩) (by assumption) ?rsc30
              case hysc30 => (intro w hSw; (try dsimp only at hSw); go_simp <;> with_reducible rfl)
              simp only [Act.put, List.setIfInBounds_toArray, List.set_cons_zero, List.set_cons_succ]
              refine wpAnyH_take (i := 1) (v := ?vsc31) rfl (by kernel_rfl) (by kernel_rfl) (by kernel_rfl) (fun _ _ _ h => h) (Or.inl ⟨by rfl, ?hysc31⟩) (by assumption) ?rsc31
              case hysc31 => (intro w hSw; (try dsimp only at hSw); go_simp <;> with_reducible rfl)
              simp only [Act.put, List.setIfInBounds_toArray, List.set_cons_zero, List.set_cons_succ]
              refine wpAnyH_take (i := 2) (v := ?vsc32) rfl (by kernel_rfl) (by kernel_rfl) (by kernel_rfl) (fun _ _ _ h => h) (Or.inl ⟨by rfl, ?hysc32⟩) (by assumption) ?rsc32
              case hysc32 => (intro w hSw; (try dsimp only at hSw); go_simp <;> with_reducible rfl)
              simp only [Act.put, List.setIfInBounds_toArray, List.set_cons_zero, List.set_cons_succ]
              refine wpAnyH_take (i := 3) (v := ?vsc33) rfl (by kernel_rfl) (by kernel_rfl) (by kernel_rfl) (fun _ _ _ h => h) (Or.inl ⟨by rfl, ?hysc33⟩) (by assumption) ?rsc33
              case hysc33 => (intro w hSw; (try dsimp only at hSw); go_simp <;> with_reducible rfl)
              simp only [Act.put, List.setIfInBounds_toArray, List.set_cons_zero, List.set_cons_succ]
              refine wpAnyH_ready (rs := [4, 9]) (by kernel_rfl) (by simp) ?_
              refine AllReadyH.cons (o := ?osc34) ?hosc34 (fun K' hK' => ?ksc34) (AllReadyH.cons (o := ?osc39) ?hosc39 (fun K' hK' => ?ksc39) AllReadyH.nil)
              case hosc34 => (simp only [List.getElem?_toArray, List.getElem?_cons_succ, List.getElem?_cons_zero]; rfl)
              case hosc39 => (simp only [List.getElem?_toArray, List.getElem?_cons_succ, List.getElem?_cons_zero]; rfl)
              case ksc34 =>
                go_simp
                go_at_call 15
                go_fit (HRN6.out _ hdr)
                rintro e w5 ⟨⟨u1, u2, us, rfl, hq⟩, hb5⟩
                obtain ⟨hv5, hp5, hs5⟩ := hq w5 (Dirty.refl _ _)
                obtain ⟨y1, e1, rfl, _⟩ := hv5.opened
                obtain ⟨y2, e2, rfl, _⟩ := hp5.opened
                obtain ⟨ua, uc, rfl, _⟩ := hs5.opened
                clear hv5 hp5 hs5
                try go_wp2_with fail
                have S5 := (Since.refl w6).drew.step hb5
                refine hK'.out _ _ (HSS6.out _ S5.below) (fun _ => ?_)
                clear hK' K'
                refine wpAnyH_take (i := 5) (v := ?vsc3a5) rfl (by kernel_rfl) (by kernel_rfl) (by kernel_rfl) (fun _ _ _ h => h) (Or.inl ⟨by rfl, ?hysc3a5⟩) (by exact HSS6.out _ S5.below) ?rsc3a5
                case hysc3a5 => (intro w hSw; (try dsimp only at hSw); go_simp <;> with_reducible rfl)
                simp only [Act.put, List.setIfInBounds_toArray, List.set_cons_zero, List.set_cons_succ]
                refine wpAnyH_take (i := 6) (v := ?vsc3a6) rfl (by kernel_rfl) (by kernel_rfl) (by kernel_rfl) (fun _ _ _ h => h) (Or.inl ⟨by rfl, ?hysc3a6⟩) (by exact HSS6.out _ S5.below) ?rsc3a6
                case hysc3a6 => (intro w hSw; (try dsimp only at hSw); go_simp <;> with_reducible rfl)
                simp only [Act.put, List.setIfInBounds_toArray, List.set_cons_zero, List.set_cons_succ]
                refine wpAnyH_take (i := 7) (v := ?vsc3a7) rfl (by kernel_rfl) (by kernel_rfl) (by kernel_rfl) (fun _ _ _ h => h) (Or.inl ⟨by rfl, ?hysc3a7⟩) (by exact HSS6.out _ S5.below) ?rsc3a7
                case hysc3a7 => (intro w hSw; (try dsimp only at hSw); go_simp <;> with_reducible rfl)
                simp only [Act.put, List.setIfInBounds_toArray, List.set_cons_zero, List.set_cons_succ]
                refine wpAnyH_take (i := 8) (v := ?vsc3a8) rfl (by kernel_rfl) (by kernel_rfl) (by kernel_rfl) (fun _ _ _ h => h) (Or.inl ⟨by rfl, ?hysc3a8⟩) (by exact HSS6.out _ S5.below) ?rsc3a8
                case hysc3a8 => (intro w hSw; (try dsimp only at hSw); go_simp <;> with_reducible rfl)
                simp only [Act.put, List.setIfInBounds_toArray, List.set_cons_zero, List.set_cons_succ]
                refine wpAnyH_ready (rs := [9]) (by kernel_rfl) (by simp) ?_
                refine AllReadyH.cons (o := ?osc3a9) ?hosc3a9 (fun K' hK' => ?ksc3a9) AllReadyH.nil
                case hosc3a9 => (simp only [List.getElem?_toArray, List.getElem?_cons_succ, List.getElem?_cons_zero]; rfl)
                go_simp
                have SA9 := S5.alloc (.cells #[.slice none 0 0, .slice none 0 0] 35)
                refine hK'.out _ _ (HSS6.out _ SA9.below) (fun _ => ?_)
                clear hK' K'
                clear SA9
                have S9 := S5.alloc (.cells #[.slice y1 Z.1.length e1, .slice y2 Z.2.length e2] 35)
                have v0 : (w5.alloc (.cells #[.slice y1 Z.1.length e1, .slice y2 Z.2.length e2] 35)).cell? ⟨w5.heap.size, 0, none⟩ = some (.slice y1 Z.1.length e1) := by go_simp
                have v1 : (w5.alloc (.cells #[.slice y1 Z.1.length e1, .slice y2 Z.2.length e2] 35)).cell? ⟨w5.heap.size, 1, none⟩ = some (.slice y2 Z.2.length e2) := by go_simp
                obtain ⟨r1, r2, r3⟩ := hq _ (Dirty.old (below_alloc w5 (.cells #[.slice y1 Z.1.length e1, .slice y2 Z.2.length e2] 35)) _)
                refine wpAnyH_ready (rs := [10]) (by kernel_rfl) (by simp) ?_
                refine AllReadyH.cons (o := ?osc3a10) ?hosc3a10 (fun K' hK' => ?ksc3a10) AllReadyH.nil
                case hosc3a10 => (simp only [List.getElem?_toArray, List.getElem?_cons_succ, List.getElem?_cons_zero]; rfl)
                go_simp
                refine hK'.out _ _ (HSS6.out _ S9.below) (fun _ => ?_)
                clear hK' K'
                refine wpAnyH_take (i := 11) (v := ?vsc3a11) rfl (by kernel_rfl) (by kernel_rfl) (by kernel_rfl) (fun _ _ _ h => h) (Or.inl ⟨by rfl, ?hysc3a11⟩) (by exact HSS6.out _ S9.below) ?rsc3a11
                case hysc3a11 => (intro w hSw; (try dsimp only at hSw); go_simp <;> with_reducible rfl)
                simp only [Act.put, List.setIfInBounds_toArray, List.set_cons_zero, List.set_cons_succ]
                refine wpAnyH_take (i := 12) (v := ?vsc3a12) rfl (by kernel_rfl) (by kernel_rfl) (by kernel_rfl) (fun _ _ _ h => h) (Or.inl ⟨by rfl, ?hysc3a12⟩) (by exact HSS6.out _ S9.below) ?rsc3a12
                case hysc3a12 => (intro w hSw; (try dsimp only at hSw); go_simp <;> with_reducible rfl)
                simp only [Act.put, List.setIfInBounds_toArray, List.set_cons_zero, List.set_cons_succ]
                refine wpAnyH_done (by kernel_rfl) ?_ _
                go_simp
                go_wp2_with fail
                go_meet
                exact ⟨rfl, _, _, _, _, _, _, _, _, _, _, rfl, rfl, _, rfl, S9, v0, v1, r1, r2, r3⟩
              case ksc39 =>
                go_simp
                have HWA := Lib.hid (((Since.refl w6).alloc (.cells #[.slice none 0 0, .slice none 0 0] 35)).drew)
                have q0 : ((w6.alloc (.cells #[.slice none 0 0, .slice none 0 0] 35)).drew).cell? ⟨w6.heap.size, 0, none⟩ = some (.slice none 0 0) := by go_simp
                have q1 : ((w6.alloc (.cells #[.slice none 0 0, .slice none 0 0] 35)).drew).cell? ⟨w6.heap.size, 1, none⟩ = some (.slice none 0 0) := by go_simp
                have q2 : ((w6.alloc (.cells #[.slice none 0 0, .slice none 0 0] 35)).drew).frozen? ⟨w6.heap.size, 0, none⟩ = false := by go_simp
                have q3 : ((w6.alloc (.cells #[.slice none 0 0, .slice none 0 0] 35)).drew).frozen? ⟨w6.heap.size, 1, none⟩ = false := by go_simp
                have hgwa : w6.heap.size < ((w6.alloc (.cells #[.slice none 0 0, .slice none 0 0] 35)).drew).heap.size := by simp
                refine hK'.out _ _ (HSS6.out _ HWA.out.below) (fun _ => ?_)
                clear hK' K'
                generalize (w6.alloc (.cells #[.slice none 0 0, .slice none 0 0] 35)).drew = wa at *
                refine wpAnyH_ready (rs := [4]) (by kernel_rfl) (by simp) ?_
                refine AllReadyH.cons (o := ?osc3b4) ?hosc3b4 (fun K' hK' => ?ksc3b4) AllReadyH.nil
                case hosc3b4 => (simp only [List.getElem?_toArray, List.getElem?_cons_succ, List.getElem?_cons_zero]; rfl)
                go_simp
                go_at_call 15
                go_fit (HRN6.out _ HWA.out.below)
                rintro e w5 ⟨⟨u1, u2, us, rfl, hq⟩, hb5⟩
                obtain ⟨hv5, hp5, hs5⟩ := hq w5 (Dirty.refl _ _)
                obtain ⟨y1, e1, rfl, _⟩ := hv5.opened
                obtain ⟨y2, e2, rfl, _⟩ := hp5.opened
                obtain ⟨ua, uc, rfl, _⟩ := hs5.opened
                clear hv5 hp5 hs5
                try go_wp2_with fail
                have S5 := HWA.out.step hb5
                refine hK'.out _ _ (HSS6.out _ S5.below) (fun _ => ?_)
                clear hK' K'
                refine wpAnyH_take (i := 5) (v := ?vsc3b5) rfl (by kernel_rfl) (by kernel_rfl) (by kernel_rfl) (fun _ _ _ h => h) (Or.inl ⟨by rfl, ?hysc3b5⟩) (by exact HSS6.out _ S5.below) ?rsc3b5
                case hysc3b5 => (intro w hSw; (try dsimp only at hSw); go_simp <;> with_reducible rfl)
                simp only [Act.put, List.setIfInBounds_toArray, List.set_cons_zero, List.set_cons_succ]
                refine wpAnyH_take (i := 6) (v := ?vsc3b6) rfl (by kernel_rfl) (by kernel_rfl) (by kernel_rfl) (fun _ _ _ h => h) (Or.inl ⟨by rfl, ?hysc3b6⟩) (by exact HSS6.out _ S5.below) ?rsc3b6
                case hysc3b6 => (intro w hSw; (try dsimp only at hSw); go_simp <;> with_reducible rfl)
                simp only [Act.put, List.setIfInBounds_toArray, List.set_cons_zero, List.set_cons_succ]
                refine wpAnyH_take (i := 7) (v := ?vsc3b7) rfl (by kernel_rfl) (by kernel_rfl) (by kernel_rfl) (fun _ _ _ h => h) (Or.inl ⟨by rfl, ?hysc3b7⟩) (by exact HSS6.out _ S5.below) ?rsc3b7
                case hysc3b7 => (intro w hSw; (try dsimp only at hSw); go_simp <;> with_reducible rfl)
                simp only [Act.put, List.setIfInBounds_toArray, List.set_cons_zero, List.set_cons_succ]
                refine wpAnyH_take (i := 8) (v := ?vsc3b8) rfl (by kernel_rfl) (by kernel_rfl) (by kernel_rfl) (fun _ _ _ h => h) (Or.inl ⟨by rfl, ?hysc3b8⟩) (by exact HSS6.out _ S5.below) ?rsc3b8
                case hysc3b8 => (intro w hSw; (try dsimp only at hSw); go_simp <;> with_reducible rfl)
                simp only [Act.put, List.setIfInBounds_toArray, List.set_cons_zero, List.set_cons_succ]
                have q0 := below_cell hb5 q0
                have q1 := below_cell hb5 q1
                have q2 := (hb5.frozen (p := ⟨w6.heap.size, 0, none⟩) hgwa).trans q2
                have q3 := (hb5.frozen (p := ⟨w6.heap.size, 1, none⟩) hgwa).trans q3
                have S9 := (S5.setCell (a := ⟨w6.heap.size, 0, none⟩) (Nat.le_refl _) (.slice y1 Z.1.length e1)).setCell (a := ⟨w6.heap.size, 1, none⟩) (Nat.le_refl _) (.slice y2 Z.2.length e2)
                have hd9 : Dirty (fun j => j = w6.heap.size) w5 ((w5.setCell ⟨w6.heap.size, 0, none⟩ (.slice y1 Z.1.length e1)).setCell ⟨w6.heap.size, 1, none⟩ (.slice y2 Z.2.length e2)) := (Dirty.of_grown ((grown_setCell w5 ⟨w6.heap.size, 0, none⟩ (.slice y1 Z.1.length e1)).trans (grown_setCell _ ⟨w6.heap.size, 1, none⟩ (.slice y2 Z.2.length e2)))).mono fun j _ hj => by cases hj; rfl
                obtain ⟨r1, r2, r3⟩ := hq _ (hd9.mono fun j _ hj => by rw [hj]; exact hgwa)
                have v0 : ((w5.setCell ⟨w6.heap.size, 0, none⟩ (.slice y1 Z.1.length e1)).setCell ⟨w6.heap.size, 1, none⟩ (.slice y2 Z.2.length e2)).cell? ⟨w6.heap.size, 0, none⟩ = some (.slice y1 Z.1.length e1) := by go_simp
                have v1 : ((w5.setCell ⟨w6.heap.size, 0, none⟩ (.slice y1 Z.1.length e1)).setCell ⟨w6.heap.size, 1, none⟩ (.slice y2 Z.2.length e2)).cell? ⟨w6.heap.size, 1, none⟩ = some (.slice y2 Z.2.length e2) := by go_simp
                refine wpAnyH_ready (rs := [10]) (by kernel_rfl) (by simp) ?_
                refine AllReadyH.cons (o := ?osc3b10) ?hosc3b10 (fun K' hK' => ?ksc3b10) AllReadyH.nil
                case hosc3b10 => (simp only [List.getElem?_toArray, List.getElem?_cons_succ, List.getElem?_cons_zero]; rfl)
                go_simp
                refine hK'.out _ _ (HSS6.out _ S9.below) (fun _ => ?_)
                clear hK' K'
                refine wpAnyH_take (i := 11) (v := ?vsc3b11) rfl (by kernel_rfl) (by kernel_rfl) (by kernel_rfl) (fun _ _ _ h => h) (Or.inl ⟨by rfl, ?hysc3b11⟩) (by exact HSS6.out _ S9.below) ?rsc3b11
                case hysc3b11 => (intro w hSw; (try dsimp only at hSw); go_simp <;> with_reducible rfl)
                simp only [Act.put, List.setIfInBounds_toArray, List.set_cons_zero, List.set_cons_succ]
                refine wpAnyH_take (i := 12) (v := ?vsc3b12) rfl (by kernel_rfl) (by kernel_rfl) (by kernel_rfl) (fun _ _ _ h => h) (Or.inl ⟨by rfl, ?hysc3b12⟩) (by exact HSS6.out _ S9.below) ?rsc3b12
                case hysc3b12 => (intro w hSw; (try dsimp only at hSw); go_simp <;> with_reducible rfl)
                simp only [Act.put, List.setIfInBounds_toArray, List.set_cons_zero, List.set_cons_succ]
                refine wpAnyH_done (by kernel_rfl) ?_ _
                go_simp
                go_wp2_with fail
                go_meet
                exact ⟨rfl, _, _, _, _, _, _, _, _, _, _, rfl, rfl, _, rfl, S9, v0, v1, r1, r2, r3⟩
            case rest =>
              obtain ⟨rfl, g6, z1, m1, f1, z2, m2, f2, ub, ulb, ucb, rfl, rfl, w8, rfl, T8, v0, v1, r1, r2, r3⟩ := hcut
              clear hH6
              obtain ⟨x0, x1, hxv, hxp, hxs⟩ := HX.out w8 (h24 w8 (h46 w8 T8.below))
              obtain ⟨_, _, _, _, hya⟩ := HF6.out w8 T8.below
              go_upto_region 7 with fail
              have HZM := Lib.hid (show meEq M Z = true by rw [HPT.out.2.2.1]; exact meEq_self _)
              have HSD := Lib.hid (show eqInts SD (SA ++ SB) = true by rw [HPT.out.2.2.2]; simp [eqInts])
              have hlen : SA.length + SB.length ≤ 1000000 := by rw [← hSA, ← hSB]; have h1 : (runS (b, ps) (List.take 0 ([] : List Hp))).length ≤ 100 := Nat.le_trans (runS_len _ _) (by first | (simp; omega) | simp); have h2 : (runS Y (List.drop 0 ([] : List Hp))).length ≤ 100 := Nat.le_trans (runS_len _ _) (by first | (simp; omega) | simp); omega
              have HSM := Lib.hid (Same_mesh _ _ _ _ M Z w8 hxv hxp r1 r2)
              have hs8 := r3
              obtain ⟨ka, _, ek, _, ⟨_, _, _⟩, _⟩ := hya.opened
              obtain rfl : ul = SA.length := by simp only [Value.slice.injEq] at ek; exact ek.2.1
              obtain ⟨kb, _, ek2, _, ⟨_, _, _⟩, _⟩ := hs8.opened
              obtain rfl : ulb = SB.length := by simp only [Value.slice.injEq] at ek2; exact ek2.2.1
              clear ek ek2 r1 r2 r3 hxv hxp
              go_wp2_with (first
                | (go_at_call 22; go_fit HSM.out; rintro e w9 ⟨rfl, hb9⟩; rw [HZM.out]; have HCC := Lib.hid (Concat_errs w9.heap.size _ _ SA SB (w9.alloc (.cells #[.slice ua SA.length uc, .slice ub SB.length ucb] 38)) (by go_simp) (by go_simp) ((hya.stays hb9).stays (below_alloc _ _)) ((hs8.stays hb9).stays (below_alloc _ _)) hlen))
                | (go_at_call 24; go_fit HCC.out; rintro e w10 ⟨⟨v10, rfl, ho10⟩, hb10⟩; have HEE := Lib.hid (Equal_errs _ _ SD (SA ++ SB) w10 (((hxs.stays hb9).stays (below_alloc _ _)).stays hb10) ho10.isInts))
                | (go_at_call 23; go_fit HEE.out; rintro e w11 ⟨rfl, hb11⟩; rw [HSD.out]))
              go_ret
              exact ⟨rfl, (((((S4.step ((T6.step T8.below).below)).step hb9).alloc (.cells #[.slice ua SA.length uc, .slice ub SB.length ucb] 38)).step hb10).step hb11).below⟩
    · cases al with
      | none =>
        exfalso
        obtain ⟨x, hx⟩ : ∃ x, l[0]? = some x := ⟨_, List.getElem?_eq_getElem (List.length_pos_iff.2 hl0)⟩
        obtain ⟨g0, o0, e, _⟩ := (HF4.out w4 (Below.refl _ _)).2.2.2.2.at hx
        cases e
      | some ad =>
        obtain ⟨g0, o0, he0⟩ : ∃ g0 o0, ad = ⟨g0, o0, none⟩ := by
          obtain ⟨x, hx⟩ : ∃ x, l[0]? = some x := ⟨_, List.getElem?_eq_getElem (List.length_pos_iff.2 hl0)⟩
          obtain ⟨g0, o0, e, _⟩ := (HF4.out w4 (Below.refl _ _)).2.2.2.2.at hx
          exact ⟨g0, o0, Option.some.inj e⟩
        subst he0
        clear hln hl0
        by_cases hkc2 : kk < cl
        · have hkcI : (kk : Int) < (cl : Int) := by omega
          have hkne : ¬ (cl = kk) := by omega
          have HRN0 := Lib.hid (fun w' (q : Below w4.heap.size w4 w') => Run_any (.slice a b.length c) (.slice a' ps.length c') (.slice (some ⟨g0, o0, none⟩) kk cl) b ps (l.take kk) w' ((HF4.out w' q).2.2.1) ((HF4.out w' q).2.2.2.1) ((HF4.out w' q).2.2.2.2.take kk hkl))
          rw [HPT.out.1] at HRN0
          generalize hY : runM (b, ps) (l.take kk) = Y at *
          generalize hSA : runS (b, ps) (l.take kk) = SA at *
          generalize hZ : runM Y (l.drop kk) = Z at *
          generalize hSB : runS Y (l.drop kk) = SB at *
          have HRN : Hid (∀ w', Below w4.heap.size w4 w' → Calls Tryz.prog 15 #[.agg #[.slice a b.length c, .slice a' ps.length c'], .slice (some ⟨g0, o0, none⟩) kk cl] w' fun e w'' => (∃ u1 u2 us, e = .returned (.tuple #[.agg #[u1, u2], us, .int .i64 0]) ∧ (∀ w3, Dirty (fun j => j < w'.heap.size) w'' w3 → IsVers w3 u1 Y.1 ∧ IsPeers w3 u2 Y.2 ∧ IsInts w3 us SA)) ∧ Below w'.heap.size w' w'') := HRN0
          clear HRN0
          have HSS : Hid (∀ w', Below w4.heap.size w4 w' → w'.cell? ⟨B, 0, none⟩ = some (.slice a b.length c) ∧ w'.cell? ⟨B, 1, none⟩ = some (.slice a' ps.length c')) := Lib.hid (fun w' q => ⟨(HF4.out w' q).1, (HF4.out w' q).2.1⟩)
          have hdr : Below w4.heap.size w4 w4.drew := ((Since.refl w4).drew).below
          have hH := HSS.out _ hdr
          go_upto_region 5 with fail
          go_cut [9, 10, 11] (fun s9 sX sY wx => s9 = .int .i64 0 ∧ ∃ (g5 : Nat) (y1 : Option Addr) (l1 e1 : Nat) (y2 : Option Addr) (l2 e2 : Nat) (ua : Option Addr) (ul uc : Nat), sX = .pointer (some ⟨g5, 0, none⟩) ∧ sY = .slice ua ul uc ∧ ∃ wz, wz = wx ∧ Since w4.heap.size w4 wz ∧ wz.cell? ⟨g5, 0, none⟩ = some (.slice y1 l1 e1) ∧ wz.cell? ⟨g5, 1, none⟩ = some (.slice y2 l2 e2) ∧ IsVers wz (.slice y1 l1 e1) Y.1 ∧ IsPeers wz (.slice y2 l2 e2) Y.2 ∧ IsInts wz (.slice ua ul uc) SA)
          case first =>
            refine wp_region_held_drew (S := fun w' => w'.cell? ⟨B, 0, none⟩ = some (.slice a b.length c) ∧ w'.cell? ⟨B, 1, none⟩ = some (.slice a' ps.length c')) (by kernel_rfl) hH (fun _ => ?_)
            refine wpAnyH_take (i := 0) (v := ?vpc40) rfl (by kernel_rfl) (by kernel_rfl) (by kernel_rfl) (fun _ _ _ h => h) (Or.inl ⟨by rfl, ?hypc40⟩) (by assumption) ?rpc40
            case hypc40 => (intro w hSw; (try dsimp only at hSw); go_simp <;> with_reducible rfl)
            simp only [Act.put, List.setIfInBounds_toArray, List.set_cons_zero, List.set_cons_succ]
            refine wpAnyH_take (i := 1) (v := ?vpc41) rfl (by kernel_rfl) (by kernel_rfl) (by kernel_rfl) (fun _ _ _ h => h) (Or.inl ⟨by rfl, ?hypc41⟩) (by assumption) ?rpc41
            case hypc41 => (intro w hSw; (try dsimp only at hSw); go_simp <;> with_reducible rfl)
            simp only [Act.put, List.setIfInBounds_toArray, List.set_cons_zero, List.set_cons_succ]
            refine wpAnyH_take (i := 2) (v := ?vpc42) rfl (by kernel_rfl) (by kernel_rfl) (by kernel_rfl) (fun _ _ _ h => h) (Or.inl ⟨by rfl, ?hypc42⟩) (by assumption) ?rpc42
            case hypc42 => (intro w hSw; (try dsimp only at hSw); go_simp <;> with_reducible rfl)
            simp only [Act.put, List.setIfInBounds_toArray, List.set_cons_zero, List.set_cons_succ]
            refine wpAnyH_take (i := 3) (v := ?vpc43) rfl (by kernel_rfl) (by kernel_rfl) (by kernel_rfl) (fun _ _ _ h => h) (Or.inl ⟨by rfl, ?hypc43⟩) (by assumption) ?rpc43
            case hypc43 => (intro w hSw; (try dsimp only at hSw); go_simp <;> with_reducible rfl)
            simp only [Act.put, List.setIfInBounds_toArray, List.set_cons_zero, List.set_cons_succ]
            refine wpAnyH_ready (rs := [4, 9]) (by kernel_rfl) (by simp) ?_
            refine AllReadyH.cons (o := ?opc44) ?hopc44 (fun K' hK' => ?kpc44) (AllReadyH.cons (o := ?opc49) ?hopc49 (fun K' hK' => ?kpc49) AllReadyH.nil)
            case hopc44 => (simp only [List.getElem?_toArray, List.getElem?_cons_succ, List.getElem?_cons_zero]; rfl)
            case hopc49 => (simp only [List.getElem?_toArray, List.getElem?_cons_succ, List.getElem?_cons_zero]; rfl)
            case kpc44 =>
              go_simp
              go_at_call 15
              go_fit (HRN.out _ hdr)
              rintro e w5 ⟨⟨u1, u2, us, rfl, hq⟩, hb5⟩
              obtain ⟨hv5, hp5, hs5⟩ := hq w5 (Dirty.refl _ _)
              obtain ⟨y1, e1, rfl, _⟩ := hv5.opened
              obtain ⟨y2, e2, rfl, _⟩ := hp5.opened
              obtain ⟨ua, uc, rfl, _⟩ := hs5.opened
              clear hv5 hp5 hs5
              try go_wp2_with fail
              have S5 := (Since.refl w4).drew.step hb5
              refine hK'.out _ _ (HSS.out _ S5.below) (fun _ => ?_)
              clear hK' K'
              refine wpAnyH_take (i := 5) (v := ?vpc4a5) rfl (by kernel_rfl) (by kernel_rfl) (by kernel_rfl) (fun _ _ _ h => h) (Or.inl ⟨by rfl, ?hypc4a5⟩) (by exact HSS.out _ S5.below) ?rpc4a5
              case hypc4a5 => (intro w hSw; (try dsimp only at hSw); go_simp <;> with_reducible rfl)
              simp only [Act.put, List.setIfInBounds_toArray, List.set_cons_zero, List.set_cons_succ]
              refine wpAnyH_take (i := 6) (v := ?vpc4a6) rfl (by kernel_rfl) (by kernel_rfl) (by kernel_rfl) (fun _ _ _ h => h) (Or.inl ⟨by rfl, ?hypc4a6⟩) (by exact HSS.out _ S5.below) ?rpc4a6
              case hypc4a6 => (intro w hSw; (try dsimp only at hSw); go_simp <;> with_reducible rfl)
              simp only [Act.put, List.setIfInBounds_toArray, List.set_cons_zero, List.set_cons_succ]
              refine wpAnyH_take (i := 7) (v := ?vpc4a7) rfl (by kernel_rfl) (by kernel_rfl) (by kernel_rfl) (fun _ _ _ h => h) (Or.inl ⟨by rfl, ?hypc4a7⟩) (by exact HSS.out _ S5.below) ?rpc4a7
              case hypc4a7 => (intro w hSw; (try dsimp only at hSw); go_simp <;> with_reducible rfl)
              simp only [Act.put, List.setIfInBounds_toArray, List.set_cons_zero, List.set_cons_succ]
              refine wpAnyH_take (i := 8) (v := ?vpc4a8) rfl (by kernel_rfl) (by kernel_rfl) (by kernel_rfl) (fun _ _ _ h => h) (Or.inl ⟨by rfl, ?hypc4a8⟩) (by exact HSS.out _ S5.below) ?rpc4a8
              case hypc4a8 => (intro w hSw; (try dsimp only at hSw); go_simp <;> with_reducible rfl)
              simp only [Act.put, List.setIfInBounds_toArray, List.set_cons_zero, List.set_cons_succ]
              refine wpAnyH_ready (rs := [9]) (by kernel_rfl) (by simp) ?_
              refine AllReadyH.cons (o := ?opc4a9) ?hopc4a9 (fun K' hK' => ?kpc4a9) AllReadyH.nil
              case hopc4a9 => (simp only [List.getElem?_toArray, List.getElem?_cons_succ, List.getElem?_cons_zero]; rfl)
              go_simp
              have SA9 := S5.alloc (.cells #[.slice none 0 0, .slice none 0 0] 35)
              refine hK'.out _ _ (HSS.out _ SA9.below) (fun _ => ?_)
              clear hK' K'
              clear SA9
              have S9 := S5.alloc (.cells #[.slice y1 Y.1.length e1, .slice y2 Y.2.length e2] 35)
              have v0 : (w5.alloc (.cells #[.slice y1 Y.1.length e1, .slice y2 Y.2.length e2] 35)).cell? ⟨w5.heap.size, 0, none⟩ = some (.slice y1 Y.1.length e1) := by go_simp
              have v1 : (w5.alloc (.cells #[.slice y1 Y.1.length e1, .slice y2 Y.2.length e2] 35)).cell? ⟨w5.heap.size, 1, none⟩ = some (.slice y2 Y.2.length e2) := by go_simp
              obtain ⟨r1, r2, r3⟩ := hq _ (Dirty.old (below_alloc w5 (.cells #[.slice y1 Y.1.length e1, .slice y2 Y.2.length e2] 35)) _)
              refine wpAnyH_ready (rs := [10]) (by kernel_rfl) (by simp) ?_
              refine AllReadyH.cons (o := ?opc4a10) ?hopc4a10 (fun K' hK' => ?kpc4a10) AllReadyH.nil
              case hopc4a10 => (simp only [List.getElem?_toArray, List.getElem?_cons_succ, List.getElem?_cons_zero]; rfl)
              go_simp
              refine hK'.out _ _ (HSS.out _ S9.below) (fun _ => ?_)
              clear hK' K'
              refine wpAnyH_take (i := 11) (v := ?vpc4a11) rfl (by kernel_rfl) (by kernel_rfl) (by kernel_rfl) (fun _ _ _ h => h) (Or.inl ⟨by rfl, ?hypc4a11⟩) (by exact HSS.out _ S9.below) ?rpc4a11
              case hypc4a11 => (intro w hSw; (try dsimp only at hSw); go_simp <;> with_reducible rfl)
              simp only [Act.put, List.setIfInBounds_toArray, List.set_cons_zero, List.set_cons_succ]
              refine wpAnyH_take (i := 12) (v := ?vpc4a12) rfl (by kernel_rfl) (by kernel_rfl) (by kernel_rfl) (fun _ _ _ h => h) (Or.inl ⟨by rfl, ?hypc4a12⟩) (by exact HSS.out _ S9.below) ?rpc4a12
              case hypc4a12 => (intro w hSw; (try dsimp only at hSw); go_simp <;> with_reducible rfl)
              simp only [Act.put, List.setIfInBounds_toArray, List.set_cons_zero, List.set_cons_succ]
              refine wpAnyH_done (by kernel_rfl) ?_ _
              go_simp
              go_wp2_with fail
              go_meet
              exact ⟨rfl, _, _, _, _, _, _, _, _, _, _, rfl, rfl, _, rfl, S9, v0, v1, r1, r2, r3⟩
            case kpc49 =>
              go_simp
              have HWA := Lib.hid (((Since.refl w4).alloc (.cells #[.slice none 0 0, .slice none 0 0] 35)).drew)
              have q0 : ((w4.alloc (.cells #[.slice none 0 0, .slice none 0 0] 35)).drew).cell? ⟨w4.heap.size, 0, none⟩ = some (.slice none 0 0) := by go_simp
              have q1 : ((w4.alloc (.cells #[.slice none 0 0, .slice none 0 0] 35)).drew).cell? ⟨w4.heap.size, 1, none⟩ = some (.slice none 0 0) := by go_simp
              have q2 : ((w4.alloc (.cells #[.slice none 0 0, .slice none 0 0] 35)).drew).frozen? ⟨w4.heap.size, 0, none⟩ = false := by go_simp
              have q3 : ((w4.alloc (.cells #[.slice none 0 0, .slice none 0 0] 35)).drew).frozen? ⟨w4.heap.size, 1, none⟩ = false := by go_simp
              have hgwa : w4.heap.size < ((w4.alloc (.cells #[.slice none 0 0, .slice none 0 0] 35)).drew).heap.size := by simp
              refine hK'.out _ _ (HSS.out _ HWA.out.below) (fun _ => ?_)
              clear hK' K'
              generalize (w4.alloc (.cells #[.slice none 0 0, .slice none 0 0] 35)).drew = wa at *
              refine wpAnyH_ready (rs := [4]) (by kernel_rfl) (by simp) ?_
              refine AllReadyH.cons (o := ?opc4b4) ?hopc4b4 (fun K' hK' => ?kpc4b4) AllReadyH.nil
              case hopc4b4 => (simp only [List.getElem?_toArray, List.getElem?_cons_succ, List.getElem?_cons_zero]; rfl)
              go_simp
              go_at_call 15
              go_fit (HRN.out _ HWA.out.below)
              rintro e w5 ⟨⟨u1, u2, us, rfl, hq⟩, hb5⟩
              obtain ⟨hv5, hp5, hs5⟩ := hq w5 (Dirty.refl _ _)
              obtain ⟨y1, e1, rfl, _⟩ := hv5.opened
              obtain ⟨y2, e2, rfl, _⟩ := hp5.opened
              obtain ⟨ua, uc, rfl, _⟩ := hs5.opened
              clear hv5 hp5 hs5
              try go_wp2_with fail
              have S5 := HWA.out.step hb5
              refine hK'.out _ _ (HSS.out _ S5.below) (fun _ => ?_)
              clear hK' K'
              refine wpAnyH_take (i := 5) (v := ?vpc4b5) rfl (by kernel_rfl) (by kernel_rfl) (by kernel_rfl) (fun _ _ _ h => h) (Or.inl ⟨by rfl, ?hypc4b5⟩) (by exact HSS.out _ S5.below) ?rpc4b5
              case hypc4b5 => (intro w hSw; (try dsimp only at hSw); go_simp <;> with_reducible rfl)
              simp only [Act.put, List.setIfInBounds_toArray, List.set_cons_zero, List.set_cons_succ]
              refine wpAnyH_take (i := 6) (v := ?vpc4b6) rfl (by kernel_rfl) (by kernel_rfl) (by kernel_rfl) (fun _ _ _ h => h) (Or.inl ⟨by rfl, ?hypc4b6⟩) (by exact HSS.out _ S5.below) ?rpc4b6
              case hypc4b6 => (intro w hSw; (try dsimp only at hSw); go_simp <;> with_reducible rfl)
              simp only [Act.put, List.setIfInBounds_toArray, List.set_cons_zero, List.set_cons_succ]
              refine wpAnyH_take (i := 7) (v := ?vpc4b7) rfl (by kernel_rfl) (by kernel_rfl) (by kernel_rfl) (fun _ _ _ h => h) (Or.inl ⟨by rfl, ?hypc4b7⟩) (by exact HSS.out _ S5.below) ?rpc4b7
              case hypc4b7 => (intro w hSw; (try dsimp only at hSw); go_simp <;> with_reducible rfl)
              simp only [Act.put, List.setIfInBounds_toArray, List.set_cons_zero, List.set_cons_succ]
              refine wpAnyH_take (i := 8) (v := ?vpc4b8) rfl (by kernel_rfl) (by kernel_rfl) (by kernel_rfl) (fun _ _ _ h => h) (Or.inl ⟨by rfl, ?hypc4b8⟩) (by exact HSS.out _ S5.below) ?rpc4b8
              case hypc4b8 => (intro w hSw; (try dsimp only at hSw); go_simp <;> with_reducible rfl)
              simp only [Act.put, List.setIfInBounds_toArray, List.set_cons_zero, List.set_cons_succ]
              have q0 := below_cell hb5 q0
              have q1 := below_cell hb5 q1
              have q2 := (hb5.frozen (p := ⟨w4.heap.size, 0, none⟩) hgwa).trans q2
              have q3 := (hb5.frozen (p := ⟨w4.heap.size, 1, none⟩) hgwa).trans q3
              have S9 := (S5.setCell (a := ⟨w4.heap.size, 0, none⟩) (Nat.le_refl _) (.slice y1 Y.1.length e1)).setCell (a := ⟨w4.heap.size, 1, none⟩) (Nat.le_refl _) (.slice y2 Y.2.length e2)
              have hd9 : Dirty (fun j => j = w4.heap.size) w5 ((w5.setCell ⟨w4.heap.size, 0, none⟩ (.slice y1 Y.1.length e1)).setCell ⟨w4.heap.size, 1, none⟩ (.slice y2 Y.2.length e2)) := (Dirty.of_grown ((grown_setCell w5 ⟨w4.heap.size, 0, none⟩ (.slice y1 Y.1.length e1)).trans (grown_setCell _ ⟨w4.heap.size, 1, none⟩ (.slice y2 Y.2.length e2)))).mono fun j _ hj => by cases hj; rfl
              obtain ⟨r1, r2, r3⟩ := hq _ (hd9.mono fun j _ hj => by rw [hj]; exact hgwa)
              have v0 : ((w5.setCell ⟨w4.heap.size, 0, none⟩ (.slice y1 Y.1.length e1)).setCell ⟨w4.heap.size, 1, none⟩ (.slice y2 Y.2.length e2)).cell? ⟨w4.heap.size, 0, none⟩ = some (.slice y1 Y.1.length e1) := by go_simp
              have v1 : ((w5.setCell ⟨w4.heap.size, 0, none⟩ (.slice y1 Y.1.length e1)).setCell ⟨w4.heap.size, 1, none⟩ (.slice y2 Y.2.length e2)).cell? ⟨w4.heap.size, 1, none⟩ = some (.slice y2 Y.2.length e2) := by go_simp
              refine wpAnyH_ready (rs := [10]) (by kernel_rfl) (by simp) ?_
              refine AllReadyH.cons (o := ?opc4b10) ?hopc4b10 (fun K' hK' => ?kpc4b10) AllReadyH.nil
              case hopc4b10 => (simp only [List.getElem?_toArray, List.getElem?_cons_succ, List.getElem?_cons_zero]; rfl)
              go_simp
              refine hK'.out _ _ (HSS.out _ S9.below) (fun _ => ?_)
              clear hK' K'
              refine wpAnyH_take (i := 11) (v := ?vpc4b11) rfl (by kernel_rfl) (by kernel_rfl) (by kernel_rfl) (fun _ _ _ h => h) (Or.inl ⟨by rfl, ?hypc4b11⟩) (by exact HSS.out _ S9.below) ?rpc4b11
              case hypc4b11 => (intro w hSw; (try dsimp only at hSw); go_simp <;> with_reducible rfl)
              simp only [Act.put, List.setIfInBounds_toArray, List.set_cons_zero, List.set_cons_succ]
              refine wpAnyH_take (i := 12) (v := ?vpc4b12) rfl (by kernel_rfl) (by kernel_rfl) (by kernel_rfl) (fun _ _ _ h => h) (Or.inl ⟨by rfl, ?hypc4b12⟩) (by exact HSS.out _ S9.below) ?rpc4b12
              case hypc4b12 => (intro w hSw; (try dsimp only at hSw); go_simp <;> with_reducible rfl)
              simp only [Act.put, List.setIfInBounds_toArray, List.set_cons_zero, List.set_cons_succ]
              refine wpAnyH_done (by kernel_rfl) ?_ _
              go_simp
              go_wp2_with fail
              go_meet
              exact ⟨rfl, _, _, _, _, _, _, _, _, _, _, rfl, rfl, _, rfl, S9, v0, v1, r1, r2, r3⟩
          case rest =>
            obtain ⟨rfl, g5, y1, l1, e1, y2, l2, e2, ua, ul, uc, rfl, rfl, w6, rfl, T6, v0, v1, r1, r2, r3⟩ := hcut
            clear hH
            have HF6 : Hid (∀ w', Below w6.heap.size w6 w' → w'.cell? ⟨g5, 0, none⟩ = some (.slice y1 l1 e1) ∧ w'.cell? ⟨g5, 1, none⟩ = some (.slice y2 l2 e2) ∧ IsVers w' (.slice y1 l1 e1) Y.1 ∧ IsPeers w' (.slice y2 l2 e2) Y.2 ∧ IsInts w' (.slice ua ul uc) SA) := Lib.hid (fun w' q => ⟨below_cell q v0, below_cell q v1, r1.stays RVer.stays q, r2.stays RPeer.stays q, r3.stays q⟩)
            have h46 : ∀ w', Below w6.heap.size w6 w' → Below w4.heap.size w4 w' := fun w' q => T6.below.trans (q.mono T6.2)
            have HRN1 := Lib.hid (fun w' (q : Below w6.heap.size w6 w') => Run_any (.slice y1 l1 e1) (.slice y2 l2 e2) (.slice (some ⟨g0, o0 + kk * 7, none⟩) (l.length - kk) (cl - kk)) Y.1 Y.2 (l.drop kk) w' ((HF6.out w' q).2.2.1) ((HF6.out w' q).2.2.2.1) ((HF4.out w' (h46 w' q)).2.2.2.2.from kk hkl))
            rw [show runE (Y.1, Y.2) (l.drop kk) = 0 from HPT.out.2.1, show runM (Y.1, Y.2) (l.drop kk) = Z from hZ, show runS (Y.1, Y.2) (l.drop kk) = SB from hSB] at HRN1
            have HRN6 : Hid (∀ w', Below w6.heap.size w6 w' → Calls Tryz.prog 15 #[.agg #[.slice y1 l1 e1, .slice y2 l2 e2], .slice (some ⟨g0, o0 + kk * 7, none⟩) (l.length - kk) (cl - kk)] w' fun e w'' => (∃ u1 u2 us, e = .returned (.tuple #[.agg #[u1, u2], us, .int .i64 0]) ∧ (∀ w3, Dirty (fun j => j < w'.heap.size) w'' w3 → IsVers w3 u1 Z.1 ∧ IsPeers w3 u2 Z.2 ∧ IsInts w3 us SB)) ∧ Below w'.heap.size w' w'') := HRN1
            have HSS6 : Hid (∀ w', Below w6.heap.size w6 w' → w'.cell? ⟨g5, 0, none⟩ = some (.slice y1 l1 e1) ∧ w'.cell? ⟨g5, 1, none⟩ = some (.slice y2 l2 e2)) := Lib.hid (fun w' q => ⟨(HF6.out w' q).1, (HF6.out w' q).2.1⟩)
            clear HRN1 v0 v1 r1 r2 r3
            have hdr : Below w6.heap.size w6 w6.drew := ((Since.refl w6).drew).below
            have hH6 := HSS6.out _ hdr
            go_upto_region 6 with fail
            go_cut [12, 13, 14] (fun sX sY s14 wx => s14 = .int .i64 0 ∧ ∃ (g5 : Nat) (y1 : Option Addr) (l1 e1 : Nat) (y2 : Option Addr) (l2 e2 : Nat) (ua : Option Addr) (ul uc : Nat), sX = .pointer (some ⟨g5, 0, none⟩) ∧ sY = .slice ua ul uc ∧ ∃ wz, wz = wx ∧ Since w6.heap.size w6 wz ∧ wz.cell? ⟨g5, 0, none⟩ = some (.slice y1 l1 e1) ∧ wz.cell? ⟨g5, 1, none⟩ = some (.slice y2 l2 e2) ∧ IsVers wz (.slice y1 l1 e1) Z.1 ∧ IsPeers wz (.slice y2 l2 e2) Z.2 ∧ IsInts wz (.slice ua ul uc) SB)
            case first =>
              refine wp_region_held_drew (S := fun w' => w'.cell? ⟨g5, 0, none⟩ = some (.slice y1 l1 e1) ∧ w'.cell? ⟨g5, 1, none⟩ = some (.slice y2 l2 e2)) (by kernel_rfl) hH6 (fun _ => ?_)
              refine wpAnyH_take (i := 0) (v := ?vsc40) rfl (by kernel_rfl) (by kernel_rfl) (by kernel_rfl) (fun _ _ _ h => h) (Or.inl ⟨by rfl, ?hysc40⟩) (by assumption) ?rsc40
              case hysc40 => (intro w hSw; (try dsimp only at hSw); go_simp <;> with_reducible rfl)
              simp only [Act.put, List.setIfInBounds_toArray, List.set_cons_zero, List.set_cons_succ]
              refine wpAnyH_take (i := 1) (v := ?vsc41) rfl (by kernel_rfl) (by kernel_rfl) (by kernel_rfl) (fun _ _ _ h => h) (Or.inl ⟨by rfl, ?hysc41⟩) (by assumption) ?rsc41
              case hysc41 => (intro w hSw; (try dsimp only at hSw); go_simp <;> with_reducible rfl)
              simp only [Act.put, List.setIfInBounds_toArray, List.set_cons_zero, List.set_cons_succ]
              refine wpAnyH_take (i := 2) (v := ?vsc42) rfl (by kernel_rfl) (by kernel_rfl) (by kernel_rfl) (fun _ _ _ h => h) (Or.inl ⟨by rfl, ?hysc42⟩) (by assumption) ?rsc42
              case hysc42 => (intro w hSw; (try dsimp only at hSw); go_simp <;> with_reducible rfl)
              simp only [Act.put, List.setIfInBounds_toArray, List.set_cons_zero, List.set_cons_succ]
              refine wpAnyH_take (i := 3) (v := ?vsc43) rfl (by kernel_rfl) (by kernel_rfl) (by kernel_rfl) (fun _ _ _ h => h) (Or.inl ⟨by rfl, ?hysc43⟩) (by assumption) ?rsc43
              case hysc43 => (intro w hSw; (try dsimp only at hSw); go_simp <;> with_reducible rfl)
              simp only [Act.put, List.setIfInBounds_toArray, List.set_cons_zero, List.set_cons_succ]
              refine wpAnyH_ready (rs := [4, 9]) (by kernel_rfl) (by simp) ?_
              refine AllReadyH.cons (o := ?osc44) ?hosc44 (fun K' hK' => ?ksc44) (AllReadyH.cons (o := ?osc49) ?hosc49 (fun K' hK' => ?ksc49) AllReadyH.nil)
              case hosc44 => (simp only [List.getElem?_toArray, List.getElem?_cons_succ, List.getElem?_cons_zero]; rfl)
              case hosc49 => (simp only [List.getElem?_toArray, List.getElem?_cons_succ, List.getElem?_cons_zero]; rfl)
              case ksc44 =>
                go_simp
                go_at_call 15
                go_fit (HRN6.out _ hdr)
                rintro e w5 ⟨⟨u1, u2, us, rfl, hq⟩, hb5⟩
                obtain ⟨hv5, hp5, hs5⟩ := hq w5 (Dirty.refl _ _)
                obtain ⟨y1, e1, rfl, _⟩ := hv5.opened
                obtain ⟨y2, e2, rfl, _⟩ := hp5.opened
                obtain ⟨ua, uc, rfl, _⟩ := hs5.opened
                clear hv5 hp5 hs5
                try go_wp2_with fail
                have S5 := (Since.refl w6).drew.step hb5
                refine hK'.out _ _ (HSS6.out _ S5.below) (fun _ => ?_)
                clear hK' K'
                refine wpAnyH_take (i := 5) (v := ?vsc4a5) rfl (by kernel_rfl) (by kernel_rfl) (by kernel_rfl) (fun _ _ _ h => h) (Or.inl ⟨by rfl, ?hysc4a5⟩) (by exact HSS6.out _ S5.below) ?rsc4a5
                case hysc4a5 => (intro w hSw; (try dsimp only at hSw); go_simp <;> with_reducible rfl)
                simp only [Act.put, List.setIfInBounds_toArray, List.set_cons_zero, List.set_cons_succ]
                refine wpAnyH_take (i := 6) (v := ?vsc4a6) rfl (by kernel_rfl) (by kernel_rfl) (by kernel_rfl) (fun _ _ _ h => h) (Or.inl ⟨by rfl, ?hysc4a6⟩) (by exact HSS6.out _ S5.below) ?rsc4a6
                case hysc4a6 => (intro w hSw; (try dsimp only at hSw); go_simp <;> with_reducible rfl)
                simp only [Act.put, List.setIfInBounds_toArray, List.set_cons_zero, List.set_cons_succ]
                refine wpAnyH_take (i := 7) (v := ?vsc4a7) rfl (by kernel_rfl) (by kernel_rfl) (by kernel_rfl) (fun _ _ _ h => h) (Or.inl ⟨by rfl, ?hysc4a7⟩) (by exact HSS6.out _ S5.below) ?rsc4a7
                case hysc4a7 => (intro w hSw; (try dsimp only at hSw); go_simp <;> with_reducible rfl)
                simp only [Act.put, List.setIfInBounds_toArray, List.set_cons_zero, List.set_cons_succ]
                refine wpAnyH_take (i := 8) (v := ?vsc4a8) rfl (by kernel_rfl) (by kernel_rfl) (by kernel_rfl) (fun _ _ _ h => h) (Or.inl ⟨by rfl, ?hysc4a8⟩) (by exact HSS6.out _ S5.below) ?rsc4a8
                case hysc4a8 => (intro w hSw; (try dsimp only at hSw); go_simp <;> with_reducible rfl)
                simp only [Act.put, List.setIfInBounds_toArray, List.set_cons_zero, List.set_cons_succ]
                refine wpAnyH_ready (rs := [9]) (by kernel_rfl) (by simp) ?_
                refine AllReadyH.cons (o := ?osc4a9) ?hosc4a9 (fun K' hK' => ?ksc4a9) AllReadyH.nil
                case hosc4a9 => (simp only [List.getElem?_toArray, List.getElem?_cons_succ, List.getElem?_cons_zero]; rfl)
                go_simp
                have SA9 := S5.alloc (.cells #[.slice none 0 0, .slice none 0 0] 35)
                refine hK'.out _ _ (HSS6.out _ SA9.below) (fun _ => ?_)
                clear hK' K'
                clear SA9
                have S9 := S5.alloc (.cells #[.slice y1 Z.1.length e1, .slice y2 Z.2.length e2] 35)
                have v0 : (w5.alloc (.cells #[.slice y1 Z.1.length e1, .slice y2 Z.2.length e2] 35)).cell? ⟨w5.heap.size, 0, none⟩ = some (.slice y1 Z.1.length e1) := by go_simp
                have v1 : (w5.alloc (.cells #[.slice y1 Z.1.length e1, .slice y2 Z.2.length e2] 35)).cell? ⟨w5.heap.size, 1, none⟩ = some (.slice y2 Z.2.length e2) := by go_simp
                obtain ⟨r1, r2, r3⟩ := hq _ (Dirty.old (below_alloc w5 (.cells #[.slice y1 Z.1.length e1, .slice y2 Z.2.length e2] 35)) _)
                refine wpAnyH_ready (rs := [10]) (by kernel_rfl) (by simp) ?_
                refine AllReadyH.cons (o := ?osc4a10) ?hosc4a10 (fun K' hK' => ?ksc4a10) AllReadyH.nil
                case hosc4a10 => (simp only [List.getElem?_toArray, List.getElem?_cons_succ, List.getElem?_cons_zero]; rfl)
                go_simp
                refine hK'.out _ _ (HSS6.out _ S9.below) (fun _ => ?_)
                clear hK' K'
                refine wpAnyH_take (i := 11) (v := ?vsc4a11) rfl (by kernel_rfl) (by kernel_rfl) (by kernel_rfl) (fun _ _ _ h => h) (Or.inl ⟨by rfl, ?hysc4a11⟩) (by exact HSS6.out _ S9.below) ?rsc4a11
                case hysc4a11 => (intro w hSw; (try dsimp only at hSw); go_simp <;> with_reducible rfl)
                simp only [Act.put, List.setIfInBounds_toArray, List.set_cons_zero, List.set_cons_succ]
                refine wpAnyH_take (i := 12) (v := ?vsc4a12) rfl (by kernel_rfl) (by kernel_rfl) (by kernel_rfl) (fun _ _ _ h => h) (Or.inl ⟨by rfl, ?hysc4a12⟩) (by exact HSS6.out _ S9.below) ?rsc4a12
                case hysc4a12 => (intro w hSw; (try dsimp only at hSw); go_simp <;> with_reducible rfl)
                simp only [Act.put, List.setIfInBounds_toArray, List.set_cons_zero, List.set_cons_succ]
                refine wpAnyH_done (by kernel_rfl) ?_ _
                go_simp
                go_wp2_with fail
                go_meet
                exact ⟨rfl, _, _, _, _, _, _, _, _, _, _, rfl, rfl, _, rfl, S9, v0, v1, r1, r2, r3⟩
              case ksc49 =>
                go_simp
                have HWA := Lib.hid (((Since.refl w6).alloc (.cells #[.slice none 0 0, .slice none 0 0] 35)).drew)
                have q0 : ((w6.alloc (.cells #[.slice none 0 0, .slice none 0 0] 35)).drew).cell? ⟨w6.heap.size, 0, none⟩ = some (.slice none 0 0) := by go_simp
                have q1 : ((w6.alloc (.cells #[.slice none 0 0, .slice none 0 0] 35)).drew).cell? ⟨w6.heap.size, 1, none⟩ = some (.slice none 0 0) := by go_simp
                have q2 : ((w6.alloc (.cells #[.slice none 0 0, .slice none 0 0] 35)).drew).frozen? ⟨w6.heap.size, 0, none⟩ = false := by go_simp
                have q3 : ((w6.alloc (.cells #[.slice none 0 0, .slice none 0 0] 35)).drew).frozen? ⟨w6.heap.size, 1, none⟩ = false := by go_simp
                have hgwa : w6.heap.size < ((w6.alloc (.cells #[.slice none 0 0, .slice none 0 0] 35)).drew).heap.size := by simp
                refine hK'.out _ _ (HSS6.out _ HWA.out.below) (fun _ => ?_)
                clear hK' K'
                generalize (w6.alloc (.cells #[.slice none 0 0, .slice none 0 0] 35)).drew = wa at *
                refine wpAnyH_ready (rs := [4]) (by kernel_rfl) (by simp) ?_
                refine AllReadyH.cons (o := ?osc4b4) ?hosc4b4 (fun K' hK' => ?ksc4b4) AllReadyH.nil
                case hosc4b4 => (simp only [List.getElem?_toArray, List.getElem?_cons_succ, List.getElem?_cons_zero]; rfl)
                go_simp
                go_at_call 15
                go_fit (HRN6.out _ HWA.out.below)
                rintro e w5 ⟨⟨u1, u2, us, rfl, hq⟩, hb5⟩
                obtain ⟨hv5, hp5, hs5⟩ := hq w5 (Dirty.refl _ _)
                obtain ⟨y1, e1, rfl, _⟩ := hv5.opened
                obtain ⟨y2, e2, rfl, _⟩ := hp5.opened
                obtain ⟨ua, uc, rfl, _⟩ := hs5.opened
                clear hv5 hp5 hs5
                try go_wp2_with fail
                have S5 := HWA.out.step hb5
                refine hK'.out _ _ (HSS6.out _ S5.below) (fun _ => ?_)
                clear hK' K'
                refine wpAnyH_take (i := 5) (v := ?vsc4b5) rfl (by kernel_rfl) (by kernel_rfl) (by kernel_rfl) (fun _ _ _ h => h) (Or.inl ⟨by rfl, ?hysc4b5⟩) (by exact HSS6.out _ S5.below) ?rsc4b5
                case hysc4b5 => (intro w hSw; (try dsimp only at hSw); go_simp <;> with_reducible rfl)
                simp only [Act.put, List.setIfInBounds_toArray, List.set_cons_zero, List.set_cons_succ]
                refine wpAnyH_take (i := 6) (v := ?vsc4b6) rfl (by kernel_rfl) (by kernel_rfl) (by kernel_rfl) (fun _ _ _ h => h) (Or.inl ⟨by rfl, ?hysc4b6⟩) (by exact HSS6.out _ S5.below) ?rsc4b6
                case hysc4b6 => (intro w hSw; (try dsimp only at hSw); go_simp <;> with_reducible rfl)
                simp only [Act.put, List.setIfInBounds_toArray, List.set_cons_zero, List.set_cons_succ]
                refine wpAnyH_take (i := 7) (v := ?vsc4b7) rfl (by kernel_rfl) (by kernel_rfl) (by kernel_rfl) (fun _ _ _ h => h) (Or.inl ⟨by rfl, ?hysc4b7⟩) (by exact HSS6.out _ S5.below) ?rsc4b7
                case hysc4b7 => (intro w hSw; (try dsimp only at hSw); go_simp <;> with_reducible rfl)
                simp only [Act.put, List.setIfInBounds_toArray, List.set_cons_zero, List.set_cons_succ]
                refine wpAnyH_take (i := 8) (v := ?vsc4b8) rfl (by kernel_rfl) (by kernel_rfl) (by kernel_rfl) (fun _ _ _ h => h) (Or.inl ⟨by rfl, ?hysc4b8⟩) (by exact HSS6.out _ S5.below) ?rsc4b8
                case hysc4b8 => (intro w hSw; (try dsimp only at hSw); go_simp <;> with_reducible rfl)
                simp only [Act.put, List.setIfInBounds_toArray, List.set_cons_zero, List.set_cons_succ]
                have q0 := below_cell hb5 q0
                have q1 := below_cell hb5 q1
                have q2 := (hb5.frozen (p := ⟨w6.heap.size, 0, none⟩) hgwa).trans q2
                have q3 := (hb5.frozen (p := ⟨w6.heap.size, 1, none⟩) hgwa).trans q3
                have S9 := (S5.setCell (a := ⟨w6.heap.size, 0, none⟩) (Nat.le_refl _) (.slice y1 Z.1.length e1)).setCell (a := ⟨w6.heap.size, 1, none⟩) (Nat.le_refl _) (.slice y2 Z.2.length e2)
                have hd9 : Dirty (fun j => j = w6.heap.size) w5 ((w5.setCell ⟨w6.heap.size, 0, none⟩ (.slice y1 Z.1.length e1)).setCell ⟨w6.heap.size, 1, none⟩ (.slice y2 Z.2.length e2)) := (Dirty.of_grown ((grown_setCell w5 ⟨w6.heap.size, 0, none⟩ (.slice y1 Z.1.length e1)).trans (grown_setCell _ ⟨w6.heap.size, 1, none⟩ (.slice y2 Z.2.length e2)))).mono fun j _ hj => by cases hj; rfl
                obtain ⟨r1, r2, r3⟩ := hq _ (hd9.mono fun j _ hj => by rw [hj]; exact hgwa)
                have v0 : ((w5.setCell ⟨w6.heap.size, 0, none⟩ (.slice y1 Z.1.length e1)).setCell ⟨w6.heap.size, 1, none⟩ (.slice y2 Z.2.length e2)).cell? ⟨w6.heap.size, 0, none⟩ = some (.slice y1 Z.1.length e1) := by go_simp
                have v1 : ((w5.setCell ⟨w6.heap.size, 0, none⟩ (.slice y1 Z.1.length e1)).setCell ⟨w6.heap.size, 1, none⟩ (.slice y2 Z.2.length e2)).cell? ⟨w6.heap.size, 1, none⟩ = some (.slice y2 Z.2.length e2) := by go_simp
                refine wpAnyH_ready (rs := [10]) (by kernel_rfl) (by simp) ?_
                refine AllReadyH.cons (o := ?osc4b10) ?hosc4b10 (fun K' hK' => ?ksc4b10) AllReadyH.nil
                case hosc4b10 => (simp only [List.getElem?_toArray, List.getElem?_cons_succ, List.getElem?_cons_zero]; rfl)
                go_simp
                refine hK'.out _ _ (HSS6.out _ S9.below) (fun _ => ?_)
                clear hK' K'
                refine wpAnyH_take (i := 11) (v := ?vsc4b11) rfl (by kernel_rfl) (by kernel_rfl) (by kernel_rfl) (fun _ _ _ h => h) (Or.inl ⟨by rfl, ?hysc4b11⟩) (by exact HSS6.out _ S9.below) ?rsc4b11
                case hysc4b11 => (intro w hSw; (try dsimp only at hSw); go_simp <;> with_reducible rfl)
                simp only [Act.put, List.setIfInBounds_toArray, List.set_cons_zero, List.set_cons_succ]
                refine wpAnyH_take (i := 12) (v := ?vsc4b12) rfl (by kernel_rfl) (by kernel_rfl) (by kernel_rfl) (fun _ _ _ h => h) (Or.inl ⟨by rfl, ?hysc4b12⟩) (by exact HSS6.out _ S9.below) ?rsc4b12
                case hysc4b12 => (intro w hSw; (try dsimp only at hSw); go_simp <;> with_reducible rfl)
                simp only [Act.put, List.setIfInBounds_toArray, List.set_cons_zero, List.set_cons_succ]
                refine wpAnyH_done (by kernel_rfl) ?_ _
                go_simp
                go_wp2_with fail
                go_meet
                exact ⟨rfl, _, _, _, _, _, _, _, _, _, _, rfl, rfl, _, rfl, S9, v0, v1, r1, r2, r3⟩
            case rest =>
              obtain ⟨rfl, g6, z1, m1, f1, z2, m2, f2, ub, ulb, ucb, rfl, rfl, w8, rfl, T8, v0, v1, r1, r2, r3⟩ := hcut
              clear hH6
              obtain ⟨x0, x1, hxv, hxp, hxs⟩ := HX.out w8 (h24 w8 (h46 w8 T8.below))
              obtain ⟨_, _, _, _, hya⟩ := HF6.out w8 T8.below
              go_upto_region 7 with fail
              have HZM := Lib.hid (show meEq M Z = true by rw [HPT.out.2.2.1]; exact meEq_self _)
              have HSD := Lib.hid (show eqInts SD (SA ++ SB) = true by rw [HPT.out.2.2.2]; simp [eqInts])
              have hlen : SA.length + SB.length ≤ 1000000 := by rw [← hSA, ← hSB]; have h1 : (runS (b, ps) (l.take kk)).length ≤ 100 := Nat.le_trans (runS_len _ _) (by first | (simp; omega) | simp); have h2 : (runS Y (l.drop kk)).length ≤ 100 := Nat.le_trans (runS_len _ _) (by first | (simp; omega) | simp); omega
              have HSM := Lib.hid (Same_mesh _ _ _ _ M Z w8 hxv hxp r1 r2)
              have hs8 := r3
              obtain ⟨ka, _, ek, _, ⟨_, _, _⟩, _⟩ := hya.opened
              obtain rfl : ul = SA.length := by simp only [Value.slice.injEq] at ek; exact ek.2.1
              obtain ⟨kb, _, ek2, _, ⟨_, _, _⟩, _⟩ := hs8.opened
              obtain rfl : ulb = SB.length := by simp only [Value.slice.injEq] at ek2; exact ek2.2.1
              clear ek ek2 r1 r2 r3 hxv hxp
              go_wp2_with (first
                | (go_at_call 22; go_fit HSM.out; rintro e w9 ⟨rfl, hb9⟩; rw [HZM.out]; have HCC := Lib.hid (Concat_errs w9.heap.size _ _ SA SB (w9.alloc (.cells #[.slice ua SA.length uc, .slice ub SB.length ucb] 38)) (by go_simp) (by go_simp) ((hya.stays hb9).stays (below_alloc _ _)) ((hs8.stays hb9).stays (below_alloc _ _)) hlen))
                | (go_at_call 24; go_fit HCC.out; rintro e w10 ⟨⟨v10, rfl, ho10⟩, hb10⟩; have HEE := Lib.hid (Equal_errs _ _ SD (SA ++ SB) w10 (((hxs.stays hb9).stays (below_alloc _ _)).stays hb10) ho10.isInts))
                | (go_at_call 23; go_fit HEE.out; rintro e w11 ⟨rfl, hb11⟩; rw [HSD.out]))
              go_ret
              exact ⟨rfl, (((((S4.step ((T6.step T8.below).below)).step hb9).alloc (.cells #[.slice ua SA.length uc, .slice ub SB.length ucb] 38)).step hb10).step hb11).below⟩
        · obtain rfl : cl = l.length := by omega
          obtain rfl : kk = l.length := by omega
          have hnl : ∀ w, IsHaps w (.slice (some ⟨g0, o0, none⟩) 0 0) (l.drop l.length) := fun w => by
            rw [List.drop_of_length_le (Nat.le_refl _)]
            exact ⟨some ⟨g0, o0, none⟩, 0, rfl, by simp, ⟨by simp, by omega, fun e => by cases e⟩, fun i x hx => by simp at hx⟩
          have HRN0 := Lib.hid (fun w' (q : Below w4.heap.size w4 w') => Run_any (.slice a b.length c) (.slice a' ps.length c') (.slice (some ⟨g0, o0, none⟩) l.length l.length) b ps (l.take l.length) w' ((HF4.out w' q).2.2.1) ((HF4.out w' q).2.2.2.1) ((HF4.out w' q).2.2.2.2.take l.length hkl))
          rw [HPT.out.1] at HRN0
          generalize hY : runM (b, ps) (l.take l.length) = Y at *
          generalize hSA : runS (b, ps) (l.take l.length) = SA at *
          generalize hZ : runM Y (l.drop l.length) = Z at *
          generalize hSB : runS Y (l.drop l.length) = SB at *
          have HRN : Hid (∀ w', Below w4.heap.size w4 w' → Calls Tryz.prog 15 #[.agg #[.slice a b.length c, .slice a' ps.length c'], .slice (some ⟨g0, o0, none⟩) l.length l.length] w' fun e w'' => (∃ u1 u2 us, e = .returned (.tuple #[.agg #[u1, u2], us, .int .i64 0]) ∧ (∀ w3, Dirty (fun j => j < w'.heap.size) w'' w3 → IsVers w3 u1 Y.1 ∧ IsPeers w3 u2 Y.2 ∧ IsInts w3 us SA)) ∧ Below w'.heap.size w' w'') := HRN0
          clear HRN0
          have HSS : Hid (∀ w', Below w4.heap.size w4 w' → w'.cell? ⟨B, 0, none⟩ = some (.slice a b.length c) ∧ w'.cell? ⟨B, 1, none⟩ = some (.slice a' ps.length c')) := Lib.hid (fun w' q => ⟨(HF4.out w' q).1, (HF4.out w' q).2.1⟩)
          have hdr : Below w4.heap.size w4 w4.drew := ((Since.refl w4).drew).below
          have hH := HSS.out _ hdr
          go_upto_region 5 with fail
          go_cut [9, 10, 11] (fun s9 sX sY wx => s9 = .int .i64 0 ∧ ∃ (g5 : Nat) (y1 : Option Addr) (l1 e1 : Nat) (y2 : Option Addr) (l2 e2 : Nat) (ua : Option Addr) (ul uc : Nat), sX = .pointer (some ⟨g5, 0, none⟩) ∧ sY = .slice ua ul uc ∧ ∃ wz, wz = wx ∧ Since w4.heap.size w4 wz ∧ wz.cell? ⟨g5, 0, none⟩ = some (.slice y1 l1 e1) ∧ wz.cell? ⟨g5, 1, none⟩ = some (.slice y2 l2 e2) ∧ IsVers wz (.slice y1 l1 e1) Y.1 ∧ IsPeers wz (.slice y2 l2 e2) Y.2 ∧ IsInts wz (.slice ua ul uc) SA)
          case first =>
            refine wp_region_held_drew (S := fun w' => w'.cell? ⟨B, 0, none⟩ = some (.slice a b.length c) ∧ w'.cell? ⟨B, 1, none⟩ = some (.slice a' ps.length c')) (by kernel_rfl) hH (fun _ => ?_)
            refine wpAnyH_take (i := 0) (v := ?vpc50) rfl (by kernel_rfl) (by kernel_rfl) (by kernel_rfl) (fun _ _ _ h => h) (Or.inl ⟨by rfl, ?hypc50⟩) (by assumption) ?rpc50
            case hypc50 => (intro w hSw; (try dsimp only at hSw); go_simp <;> with_reducible rfl)
            simp only [Act.put, List.setIfInBounds_toArray, List.set_cons_zero, List.set_cons_succ]
            refine wpAnyH_take (i := 1) (v := ?vpc51) rfl (by kernel_rfl) (by kernel_rfl) (by kernel_rfl) (fun _ _ _ h => h) (Or.inl ⟨by rfl, ?hypc51⟩) (by assumption) ?rpc51
            case hypc51 => (intro w hSw; (try dsimp only at hSw); go_simp <;> with_reducible rfl)
            simp only [Act.put, List.setIfInBounds_toArray, List.set_cons_zero, List.set_cons_succ]
            refine wpAnyH_take (i := 2) (v := ?vpc52) rfl (by kernel_rfl) (by kernel_rfl) (by kernel_rfl) (fun _ _ _ h => h) (Or.inl ⟨by rfl, ?hypc52⟩) (by assumption) ?rpc52
            case hypc52 => (intro w hSw; (try dsimp only at hSw); go_simp <;> with_reducible rfl)
            simp only [Act.put, List.setIfInBounds_toArray, List.set_cons_zero, List.set_cons_succ]
            refine wpAnyH_take (i := 3) (v := ?vpc53) rfl (by kernel_rfl) (by kernel_rfl) (by kernel_rfl) (fun _ _ _ h => h) (Or.inl ⟨by rfl, ?hypc53⟩) (by assumption) ?rpc53
            case hypc53 => (intro w hSw; (try dsimp only at hSw); go_simp <;> with_reducible rfl)
            simp only [Act.put, List.setIfInBounds_toArray, List.set_cons_zero, List.set_cons_succ]
            refine wpAnyH_ready (rs := [4, 9]) (by kernel_rfl) (by simp) ?_
            refine AllReadyH.cons (o := ?opc54) ?hopc54 (fun K' hK' => ?kpc54) (AllReadyH.cons (o := ?opc59) ?hopc59 (fun K' hK' => ?kpc59) AllReadyH.nil)
            case hopc54 => (simp only [List.getElem?_toArray, List.getElem?_cons_succ, List.getElem?_cons_zero]; rfl)
            case hopc59 => (simp only [List.getElem?_toArray, List.getElem?_cons_succ, List.getElem?_cons_zero]; rfl)
            case kpc54 =>
              go_simp
              go_at_call 15
              go_fit (HRN.out _ hdr)
              rintro e w5 ⟨⟨u1, u2, us, rfl, hq⟩, hb5⟩
              obtain ⟨hv5, hp5, hs5⟩ := hq w5 (Dirty.refl _ _)
              obtain ⟨y1, e1, rfl, _⟩ := hv5.opened
              obtain ⟨y2, e2, rfl, _⟩ := hp5.opened
              obtain ⟨ua, uc, rfl, _⟩ := hs5.opened
              clear hv5 hp5 hs5
              try go_wp2_with fail
              have S5 := (Since.refl w4).drew.step hb5
              refine hK'.out _ _ (HSS.out _ S5.below) (fun _ => ?_)
              clear hK' K'
              refine wpAnyH_take (i := 5) (v := ?vpc5a5) rfl (by kernel_rfl) (by kernel_rfl) (by kernel_rfl) (fun _ _ _ h => h) (Or.inl ⟨by rfl, ?hypc5a5⟩) (by exact HSS.out _ S5.below) ?rpc5a5
              case hypc5a5 => (intro w hSw; (try dsimp only at hSw); go_simp <;> with_reducible rfl)
              simp only [Act.put, List.setIfInBounds_toArray, List.set_cons_zero, List.set_cons_succ]
              refine wpAnyH_take (i := 6) (v := ?vpc5a6) rfl (by kernel_rfl) (by kernel_rfl) (by kernel_rfl) (fun _ _ _ h => h) (Or.inl ⟨by rfl, ?hypc5a6⟩) (by exact HSS.out _ S5.below) ?rpc5a6
              case hypc5a6 => (intro w hSw; (try dsimp only at hSw); go_simp <;> with_reducible rfl)
              simp only [Act.put, List.setIfInBounds_toArray, List.set_cons_zero, List.set_cons_succ]
              refine wpAnyH_take (i := 7) (v := ?vpc5a7) rfl (by kernel_rfl) (by kernel_rfl) (by kernel_rfl) (fun _ _ _ h => h) (Or.inl ⟨by rfl, ?hypc5a7⟩) (by exact HSS.out _ S5.below) ?rpc5a7
              case hypc5a7 => (intro w hSw; (try dsimp only at hSw); go_simp <;> with_reducible rfl)
              simp only [Act.put, List.setIfInBounds_toArray, List.set_cons_zero, List.set_cons_succ]
              refine wpAnyH_take (i := 8) (v := ?vpc5a8) rfl (by kernel_rfl) (by kernel_rfl) (by kernel_rfl) (fun _ _ _ h => h) (Or.inl ⟨by rfl, ?hypc5a8⟩) (by exact HSS.out _ S5.below) ?rpc5a8
              case hypc5a8 => (intro w hSw; (try dsimp only at hSw); go_simp <;> with_reducible rfl)
              simp only [Act.put, List.setIfInBounds_toArray, List.set_cons_zero, List.set_cons_succ]
              refine wpAnyH_ready (rs := [9]) (by kernel_rfl) (by simp) ?_
              refine AllReadyH.cons (o := ?opc5a9) ?hopc5a9 (fun K' hK' => ?kpc5a9) AllReadyH.nil
              case hopc5a9 => (simp only [List.getElem?_toArray, List.getElem?_cons_succ, List.getElem?_cons_zero]; rfl)
              go_simp
              have SA9 := S5.alloc (.cells #[.slice none 0 0, .slice none 0 0] 35)
              refine hK'.out _ _ (HSS.out _ SA9.below) (fun _ => ?_)
              clear hK' K'
              clear SA9
              have S9 := S5.alloc (.cells #[.slice y1 Y.1.length e1, .slice y2 Y.2.length e2] 35)
              have v0 : (w5.alloc (.cells #[.slice y1 Y.1.length e1, .slice y2 Y.2.length e2] 35)).cell? ⟨w5.heap.size, 0, none⟩ = some (.slice y1 Y.1.length e1) := by go_simp
              have v1 : (w5.alloc (.cells #[.slice y1 Y.1.length e1, .slice y2 Y.2.length e2] 35)).cell? ⟨w5.heap.size, 1, none⟩ = some (.slice y2 Y.2.length e2) := by go_simp
              obtain ⟨r1, r2, r3⟩ := hq _ (Dirty.old (below_alloc w5 (.cells #[.slice y1 Y.1.length e1, .slice y2 Y.2.length e2] 35)) _)
              refine wpAnyH_ready (rs := [10]) (by kernel_rfl) (by simp) ?_
              refine AllReadyH.cons (o := ?opc5a10) ?hopc5a10 (fun K' hK' => ?kpc5a10) AllReadyH.nil
              case hopc5a10 => (simp only [List.getElem?_toArray, List.getElem?_cons_succ, List.getElem?_cons_zero]; rfl)
              go_simp
              refine hK'.out _ _ (HSS.out _ S9.below) (fun _ => ?_)
              clear hK' K'
              refine wpAnyH_take (i := 11) (v := ?vpc5a11) rfl (by kernel_rfl) (by kernel_rfl) (by kernel_rfl) (fun _ _ _ h => h) (Or.inl ⟨by rfl, ?hypc5a11⟩) (by exact HSS.out _ S9.below) ?rpc5a11
              case hypc5a11 => (intro w hSw; (try dsimp only at hSw); go_simp <;> with_reducible rfl)
              simp only [Act.put, List.setIfInBounds_toArray, List.set_cons_zero, List.set_cons_succ]
              refine wpAnyH_take (i := 12) (v := ?vpc5a12) rfl (by kernel_rfl) (by kernel_rfl) (by kernel_rfl) (fun _ _ _ h => h) (Or.inl ⟨by rfl, ?hypc5a12⟩) (by exact HSS.out _ S9.below) ?rpc5a12
              case hypc5a12 => (intro w hSw; (try dsimp only at hSw); go_simp <;> with_reducible rfl)
              simp only [Act.put, List.setIfInBounds_toArray, List.set_cons_zero, List.set_cons_succ]
              refine wpAnyH_done (by kernel_rfl) ?_ _
              go_simp
              go_wp2_with fail
              go_meet
              exact ⟨rfl, _, _, _, _, _, _, _, _, _, _, rfl, rfl, _, rfl, S9, v0, v1, r1, r2, r3⟩
            case kpc59 =>
              go_simp
              have HWA := Lib.hid (((Since.refl w4).alloc (.cells #[.slice none 0 0, .slice none 0 0] 35)).drew)
              have q0 : ((w4.alloc (.cells #[.slice none 0 0, .slice none 0 0] 35)).drew).cell? ⟨w4.heap.size, 0, none⟩ = some (.slice none 0 0) := by go_simp
              have q1 : ((w4.alloc (.cells #[.slice none 0 0, .slice none 0 0] 35)).drew).cell? ⟨w4.heap.size, 1, none⟩ = some (.slice none 0 0) := by go_simp
              have q2 : ((w4.alloc (.cells #[.slice none 0 0, .slice none 0 0] 35)).drew).frozen? ⟨w4.heap.size, 0, none⟩ = false := by go_simp
              have q3 : ((w4.alloc (.cells #[.slice none 0 0, .slice none 0 0] 35)).drew).frozen? ⟨w4.heap.size, 1, none⟩ = false := by go_simp
              have hgwa : w4.heap.size < ((w4.alloc (.cells #[.slice none 0 0, .slice none 0 0] 35)).drew).heap.size := by simp
              refine hK'.out _ _ (HSS.out _ HWA.out.below) (fun _ => ?_)
              clear hK' K'
              generalize (w4.alloc (.cells #[.slice none 0 0, .slice none 0 0] 35)).drew = wa at *
              refine wpAnyH_ready (rs := [4]) (by kernel_rfl) (by simp) ?_
              refine AllReadyH.cons (o := ?opc5b4) ?hopc5b4 (fun K' hK' => ?kpc5b4) AllReadyH.nil
              case hopc5b4 => (simp only [List.getElem?_toArray, List.getElem?_cons_succ, List.getElem?_cons_zero]; rfl)
              go_simp
              go_at_call 15
              go_fit (HRN.out _ HWA.out.below)
              rintro e w5 ⟨⟨u1, u2, us, rfl, hq⟩, hb5⟩
              obtain ⟨hv5, hp5, hs5⟩ := hq w5 (Dirty.refl _ _)
              obtain ⟨y1, e1, rfl, _⟩ := hv5.opened
              obtain ⟨y2, e2, rfl, _⟩ := hp5.opened
              obtain ⟨ua, uc, rfl, _⟩ := hs5.opened
              clear hv5 hp5 hs5
              try go_wp2_with fail
              have S5 := HWA.out.step hb5
              refine hK'.out _ _ (HSS.out _ S5.below) (fun _ => ?_)
              clear hK' K'
              refine wpAnyH_take (i := 5) (v := ?vpc5b5) rfl (by kernel_rfl) (by kernel_rfl) (by kernel_rfl) (fun _ _ _ h => h) (Or.inl ⟨by rfl, ?hypc5b5⟩) (by exact HSS.out _ S5.below) ?rpc5b5
              case hypc5b5 => (intro w hSw; (try dsimp only at hSw); go_simp <;> with_reducible rfl)
              simp only [Act.put, List.setIfInBounds_toArray, List.set_cons_zero, List.set_cons_succ]
              refine wpAnyH_take (i := 6) (v := ?vpc5b6) rfl (by kernel_rfl) (by kernel_rfl) (by kernel_rfl) (fun _ _ _ h => h) (Or.inl ⟨by rfl, ?hypc5b6⟩) (by exact HSS.out _ S5.below) ?rpc5b6
              case hypc5b6 => (intro w hSw; (try dsimp only at hSw); go_simp <;> with_reducible rfl)
              simp only [Act.put, List.setIfInBounds_toArray, List.set_cons_zero, List.set_cons_succ]
              refine wpAnyH_take (i := 7) (v := ?vpc5b7) rfl (by kernel_rfl) (by kernel_rfl) (by kernel_rfl) (fun _ _ _ h => h) (Or.inl ⟨by rfl, ?hypc5b7⟩) (by exact HSS.out _ S5.below) ?rpc5b7
              case hypc5b7 => (intro w hSw; (try dsimp only at hSw); go_simp <;> with_reducible rfl)
              simp only [Act.put, List.setIfInBounds_toArray, List.set_cons_zero, List.set_cons_succ]
              refine wpAnyH_take (i := 8) (v := ?vpc5b8) rfl (by kernel_rfl) (by kernel_rfl) (by kernel_rfl) (fun _ _ _ h => h) (Or.inl ⟨by rfl, ?hypc5b8⟩) (by exact HSS.out _ S5.below) ?rpc5b8
              case hypc5b8 => (intro w hSw; (try dsimp only at hSw); go_simp <;> with_reducible rfl)
              simp only [Act.put, List.setIfInBounds_toArray, List.set_cons_zero, List.set_cons_succ]
              have q0 := below_cell hb5 q0
              have q1 := below_cell hb5 q1
              have q2 := (hb5.frozen (p := ⟨w4.heap.size, 0, none⟩) hgwa).trans q2
              have q3 := (hb5.frozen (p := ⟨w4.heap.size, 1, none⟩) hgwa).trans q3
              have S9 := (S5.setCell (a := ⟨w4.heap.size, 0, none⟩) (Nat.le_refl _) (.slice y1 Y.1.length e1)).setCell (a := ⟨w4.heap.size, 1, none⟩) (Nat.le_refl _) (.slice y2 Y.2.length e2)
              have hd9 : Dirty (fun j => j = w4.heap.size) w5 ((w5.setCell ⟨w4.heap.size, 0, none⟩ (.slice y1 Y.1.length e1)).setCell ⟨w4.heap.size, 1, none⟩ (.slice y2 Y.2.length e2)) := (Dirty.of_grown ((grown_setCell w5 ⟨w4.heap.size, 0, none⟩ (.slice y1 Y.1.length e1)).trans (grown_setCell _ ⟨w4.heap.size, 1, none⟩ (.slice y2 Y.2.length e2)))).mono fun j _ hj => by cases hj; rfl
              obtain ⟨r1, r2, r3⟩ := hq _ (hd9.mono fun j _ hj => by rw [hj]; exact hgwa)
              have v0 : ((w5.setCell ⟨w4.heap.size, 0, none⟩ (.slice y1 Y.1.length e1)).setCell ⟨w4.heap.size, 1, none⟩ (.slice y2 Y.2.length e2)).cell? ⟨w4.heap.size, 0, none⟩ = some (.slice y1 Y.1.length e1) := by go_simp
              have v1 : ((w5.setCell ⟨w4.heap.size, 0, none⟩ (.slice y1 Y.1.length e1)).setCell ⟨w4.heap.size, 1, none⟩ (.slice y2 Y.2.length e2)).cell? ⟨w4.heap.size, 1, none⟩ = some (.slice y2 Y.2.length e2) := by go_simp
              refine wpAnyH_ready (rs := [10]) (by kernel_rfl) (by simp) ?_
              refine AllReadyH.cons (o := ?opc5b10) ?hopc5b10 (fun K' hK' => ?kpc5b10) AllReadyH.nil
              case hopc5b10 => (simp only [List.getElem?_toArray, List.getElem?_cons_succ, List.getElem?_cons_zero]; rfl)
              go_simp
              refine hK'.out _ _ (HSS.out _ S9.below) (fun _ => ?_)
              clear hK' K'
              refine wpAnyH_take (i := 11) (v := ?vpc5b11) rfl (by kernel_rfl) (by kernel_rfl) (by kernel_rfl) (fun _ _ _ h => h) (Or.inl ⟨by rfl, ?hypc5b11⟩) (by exact HSS.out _ S9.below) ?rpc5b11
              case hypc5b11 => (intro w hSw; (try dsimp only at hSw); go_simp <;> with_reducible rfl)
              simp only [Act.put, List.setIfInBounds_toArray, List.set_cons_zero, List.set_cons_succ]
              refine wpAnyH_take (i := 12) (v := ?vpc5b12) rfl (by kernel_rfl) (by kernel_rfl) (by kernel_rfl) (fun _ _ _ h => h) (Or.inl ⟨by rfl, ?hypc5b12⟩) (by exact HSS.out _ S9.below) ?rpc5b12
              case hypc5b12 => (intro w hSw; (try dsimp only at hSw); go_simp <;> with_reducible rfl)
              simp only [Act.put, List.setIfInBounds_toArray, List.set_cons_zero, List.set_cons_succ]
              refine wpAnyH_done (by kernel_rfl) ?_ _
              go_simp
              go_wp2_with fail
              go_meet
              exact ⟨rfl, _, _, _, _, _, _, _, _, _, _, rfl, rfl, _, rfl, S9, v0, v1, r1, r2, r3⟩
          case rest =>
            obtain ⟨rfl, g5, y1, l1, e1, y2, l2, e2, ua, ul, uc, rfl, rfl, w6, rfl, T6, v0, v1, r1, r2, r3⟩ := hcut
            clear hH
            have HF6 : Hid (∀ w', Below w6.heap.size w6 w' → w'.cell? ⟨g5, 0, none⟩ = some (.slice y1 l1 e1) ∧ w'.cell? ⟨g5, 1, none⟩ = some (.slice y2 l2 e2) ∧ IsVers w' (.slice y1 l1 e1) Y.1 ∧ IsPeers w' (.slice y2 l2 e2) Y.2 ∧ IsInts w' (.slice ua ul uc) SA) := Lib.hid (fun w' q => ⟨below_cell q v0, below_cell q v1, r1.stays RVer.stays q, r2.stays RPeer.stays q, r3.stays q⟩)
            have h46 : ∀ w', Below w6.heap.size w6 w' → Below w4.heap.size w4 w' := fun w' q => T6.below.trans (q.mono T6.2)
            have HRN1 := Lib.hid (fun w' (q : Below w6.heap.size w6 w') => Run_any (.slice y1 l1 e1) (.slice y2 l2 e2) (.slice (some ⟨g0, o0, none⟩) 0 0) Y.1 Y.2 (l.drop l.length) w' ((HF6.out w' q).2.2.1) ((HF6.out w' q).2.2.2.1) (hnl _))
            rw [show runE (Y.1, Y.2) (l.drop l.length) = 0 from HPT.out.2.1, show runM (Y.1, Y.2) (l.drop l.length) = Z from hZ, show runS (Y.1, Y.2) (l.drop l.length) = SB from hSB] at HRN1
            have HRN6 : Hid (∀ w', Below w6.heap.size w6 w' → Calls Tryz.prog 15 #[.agg #[.slice y1 l1 e1, .slice y2 l2 e2], .slice (some ⟨g0, o0, none⟩) 0 0] w' fun e w'' => (∃ u1 u2 us, e = .returned (.tuple #[.agg #[u1, u2], us, .int .i64 0]) ∧ (∀ w3, Dirty (fun j => j < w'.heap.size) w'' w3 → IsVers w3 u1 Z.1 ∧ IsPeers w3 u2 Z.2 ∧ IsInts w3 us SB)) ∧ Below w'.heap.size w' w'') := HRN1
            have HSS6 : Hid (∀ w', Below w6.heap.size w6 w' → w'.cell? ⟨g5, 0, none⟩ = some (.slice y1 l1 e1) ∧ w'.cell? ⟨g5, 1, none⟩ = some (.slice y2 l2 e2)) := Lib.hid (fun w' q => ⟨(HF6.out w' q).1, (HF6.out w' q).2.1⟩)
            clear HRN1 v0 v1 r1 r2 r3
            have hdr : Below w6.heap.size w6 w6.drew := ((Since.refl w6).drew).below
            have hH6 := HSS6.out _ hdr
            go_upto_region 6 with fail
            go_cut [12, 13, 14] (fun sX sY s14 wx => s14 = .int .i64 0 ∧ ∃ (g5 : Nat) (y1 : Option Addr) (l1 e1 : Nat) (y2 : Option Addr) (l2 e2 : Nat) (ua : Option Addr) (ul uc : Nat), sX = .pointer (some ⟨g5, 0, none⟩) ∧ sY = .slice ua ul uc ∧ ∃ wz, wz = wx ∧ Since w6.heap.size w6 wz ∧ wz.cell? ⟨g5, 0, none⟩ = some (.slice y1 l1 e1) ∧ wz.cell? ⟨g5, 1, none⟩ = some (.slice y2 l2 e2) ∧ IsVers wz (.slice y1 l1 e1) Z.1 ∧ IsPeers wz (.slice y2 l2 e2) Z.2 ∧ IsInts wz (.slice ua ul uc) SB)
            case first =>
              refine wp_region_held_drew (S := fun w' => w'.cell? ⟨g5, 0, none⟩ = some (.slice y1 l1 e1) ∧ w'.cell? ⟨g5, 1, none⟩ = some (.slice y2 l2 e2)) (by kernel_rfl) hH6 (fun _ => ?_)
              refine wpAnyH_take (i := 0) (v := ?vsc50) rfl (by kernel_rfl) (by kernel_rfl) (by kernel_rfl) (fun _ _ _ h => h) (Or.inl ⟨by rfl, ?hysc50⟩) (by assumption) ?rsc50
              case hysc50 => (intro w hSw; (try dsimp only at hSw); go_simp <;> with_reducible rfl)
              simp only [Act.put, List.setIfInBounds_toArray, List.set_cons_zero, List.set_cons_succ]
              refine wpAnyH_take (i := 1) (v := ?vsc51) rfl (by kernel_rfl) (by kernel_rfl) (by kernel_rfl) (fun _ _ _ h => h) (Or.inl ⟨by rfl, ?hysc51⟩) (by assumption) ?rsc51
              case hysc51 => (intro w hSw; (try dsimp only at hSw); go_simp <;> with_reducible rfl)
              simp only [Act.put, List.setIfInBounds_toArray, List.set_cons_zero, List.set_cons_succ]
              refine wpAnyH_take (i := 2) (v := ?vsc52) rfl (by kernel_rfl) (by kernel_rfl) (by kernel_rfl) (fun _ _ _ h => h) (Or.inl ⟨by rfl, ?hysc52⟩) (by assumption) ?rsc52
              case hysc52 => (intro w hSw; (try dsimp only at hSw); go_simp <;> with_reducible rfl)
              simp only [Act.put, List.setIfInBounds_toArray, List.set_cons_zero, List.set_cons_succ]
              refine wpAnyH_take (i := 3) (v := ?vsc53) rfl (by kernel_rfl) (by kernel_rfl) (by kernel_rfl) (fun _ _ _ h => h) (Or.inl ⟨by rfl, ?hysc53⟩) (by assumption) ?rsc53
              case hysc53 => (intro w hSw; (try dsimp only at hSw); go_simp <;> with_reducible rfl)
              simp only [Act.put, List.setIfInBounds_toArray, List.set_cons_zero, List.set_cons_succ]
              refine wpAnyH_ready (rs := [4, 9]) (by kernel_rfl) (by simp) ?_
              refine AllReadyH.cons (o := ?osc54) ?hosc54 (fun K' hK' => ?ksc54) (AllReadyH.cons (o := ?osc59) ?hosc59 (fun K' hK' => ?ksc59) AllReadyH.nil)
              case hosc54 => (simp only [List.getElem?_toArray, List.getElem?_cons_succ, List.getElem?_cons_zero]; rfl)
              case hosc59 => (simp only [List.getElem?_toArray, List.getElem?_cons_succ, List.getElem?_cons_zero]; rfl)
              case ksc54 =>
                go_simp
                go_at_call 15
                go_fit (HRN6.out _ hdr)
                rintro e w5 ⟨⟨u1, u2, us, rfl, hq⟩, hb5⟩
                obtain ⟨hv5, hp5, hs5⟩ := hq w5 (Dirty.refl _ _)
                obtain ⟨y1, e1, rfl, _⟩ := hv5.opened
                obtain ⟨y2, e2, rfl, _⟩ := hp5.opened
                obtain ⟨ua, uc, rfl, _⟩ := hs5.opened
                clear hv5 hp5 hs5
                try go_wp2_with fail
                have S5 := (Since.refl w6).drew.step hb5
                refine hK'.out _ _ (HSS6.out _ S5.below) (fun _ => ?_)
                clear hK' K'
                refine wpAnyH_take (i := 5) (v := ?vsc5a5) rfl (by kernel_rfl) (by kernel_rfl) (by kernel_rfl) (fun _ _ _ h => h) (Or.inl ⟨by rfl, ?hysc5a5⟩) (by exact HSS6.out _ S5.below) ?rsc5a5
                case hysc5a5 => (intro w hSw; (try dsimp only at hSw); go_simp <;> with_reducible rfl)
                simp only [Act.put, List.setIfInBounds_toArray, List.set_cons_zero, List.set_cons_succ]
                refine wpAnyH_take (i := 6) (v := ?vsc5a6) rfl (by kernel_rfl) (by kernel_rfl) (by kernel_rfl) (fun _ _ _ h => h) (Or.inl ⟨by rfl, ?hysc5a6⟩) (by exact HSS6.out _ S5.below) ?rsc5a6
                case hysc5a6 => (intro w hSw; (try dsimp only at hSw); go_simp <;> with_reducible rfl)
                simp only [Act.put, List.setIfInBounds_toArray, List.set_cons_zero, List.set_cons_succ]
                refine wpAnyH_take (i := 7) (v := ?vsc5a7) rfl (by kernel_rfl) (by kernel_rfl) (by kernel_rfl) (fun _ _ _ h => h) (Or.inl ⟨by rfl, ?hysc5a7⟩) (by exact HSS6.out _ S5.below) ?rsc5a7
                case hysc5a7 => (intro w hSw; (try dsimp only at hSw); go_simp <;> with_reducible rfl)
                simp only [Act.put, List.setIfInBounds_toArray, List.set_cons_zero, List.set_cons_succ]
                refine wpAnyH_take (i := 8) (v := ?vsc5a8) rfl (by kernel_rfl) (by kernel_rfl) (by kernel_rfl) (fun _ _ _ h => h) (Or.inl ⟨by rfl, ?hysc5a8⟩) (by exact HSS6.out _ S5.below) ?rsc5a8
                case hysc5a8 => (intro w hSw; (try dsimp only at hSw); go_simp <;> with_reducible rfl)
                simp only [Act.put, List.setIfInBounds_toArray, List.set_cons_zero, List.set_cons_succ]
                refine wpAnyH_ready (rs := [9]) (by kernel_rfl) (by simp) ?_
                refine AllReadyH.cons (o := ?osc5a9) ?hosc5a9 (fun K' hK' => ?ksc5a9) AllReadyH.nil
                case hosc5a9 => (simp only [List.getElem?_toArray, List.getElem?_cons_succ, List.getElem?_cons_zero]; rfl)
                go_simp
                have SA9 := S5.alloc (.cells #[.slice none 0 0, .slice none 0 0] 35)
                refine hK'.out _ _ (HSS6.out _ SA9.below) (fun _ => ?_)
                clear hK' K'
                clear SA9
                have S9 := S5.alloc (.cells #[.slice y1 Z.1.length e1, .slice y2 Z.2.length e2] 35)
                have v0 : (w5.alloc (.cells #[.slice y1 Z.1.length e1, .slice y2 Z.2.length e2] 35)).cell? ⟨w5.heap.size, 0, none⟩ = some (.slice y1 Z.1.length e1) := by go_simp
                have v1 : (w5.alloc (.cells #[.slice y1 Z.1.length e1, .slice y2 Z.2.length e2] 35)).cell? ⟨w5.heap.size, 1, none⟩ = some (.slice y2 Z.2.length e2) := by go_simp
                obtain ⟨r1, r2, r3⟩ := hq _ (Dirty.old (below_alloc w5 (.cells #[.slice y1 Z.1.length e1, .slice y2 Z.2.length e2] 35)) _)
                refine wpAnyH_ready (rs := [10]) (by kernel_rfl) (by simp) ?_
                refine AllReadyH.cons (o := ?osc5a10) ?hosc5a10 (fun K' hK' => ?ksc5a10) AllReadyH.nil
                case hosc5a10 => (simp only [List.getElem?_toArray, List.getElem?_cons_succ, List.getElem?_cons_zero]; rfl)
                go_simp
                refine hK'.out _ _ (HSS6.out _ S9.below) (fun _ => ?_)
                clear hK' K'
                refine wpAnyH_take (i := 11) (v := ?vsc5a11) rfl (by kernel_rfl) (by kernel_rfl) (by kernel_rfl) (fun _ _ _ h => h) (Or.inl ⟨by rfl, ?hysc5a11⟩) (by exact HSS6.out _ S9.below) ?rsc5a11
                case hysc5a11 => (intro w hSw; (try dsimp only at hSw); go_simp <;> with_reducible rfl)
                simp only [Act.put, List.setIfInBounds_toArray, List.set_cons_zero, List.set_cons_succ]
                refine wpAnyH_take (i := 12) (v := ?vsc5a12) rfl (by kernel_rfl) (by kernel_rfl) (by kernel_rfl) (fun _ _ _ h => h) (Or.inl ⟨by rfl, ?hysc5a12⟩) (by exact HSS6.out _ S9.below) ?rsc5a12
                case hysc5a12 => (intro w hSw; (try dsimp only at hSw); go_simp <;> with_reducible rfl)
                simp only [Act.put, List.setIfInBounds_toArray, List.set_cons_zero, List.set_cons_succ]
                refine wpAnyH_done (by kernel_rfl) ?_ _
                go_simp
                go_wp2_with fail
                go_meet
                exact ⟨rfl, _, _, _, _, _, _, _, _, _, _, rfl, rfl, _, rfl, S9, v0, v1, r1, r2, r3⟩
              case ksc59 =>
                go_simp
                have HWA := Lib.hid (((Since.refl w6).alloc (.cells #[.slice none 0 0, .slice none 0 0] 35)).drew)
                have q0 : ((w6.alloc (.cells #[.slice none 0 0, .slice none 0 0] 35)).drew).cell? ⟨w6.heap.size, 0, none⟩ = some (.slice none 0 0) := by go_simp
                have q1 : ((w6.alloc (.cells #[.slice none 0 0, .slice none 0 0] 35)).drew).cell? ⟨w6.heap.size, 1, none⟩ = some (.slice none 0 0) := by go_simp
                have q2 : ((w6.alloc (.cells #[.slice none 0 0, .slice none 0 0] 35)).drew).frozen? ⟨w6.heap.size, 0, none⟩ = false := by go_simp
                have q3 : ((w6.alloc (.cells #[.slice none 0 0, .slice none 0 0] 35)).drew).frozen? ⟨w6.heap.size, 1, none⟩ = false := by go_simp
                have hgwa : w6.heap.size < ((w6.alloc (.cells #[.slice none 0 0, .slice none 0 0] 35)).drew).heap.size := by simp
                refine hK'.out _ _ (HSS6.out _ HWA.out.below) (fun _ => ?_)
                clear hK' K'
                generalize (w6.alloc (.cells #[.slice none 0 0, .slice none 0 0] 35)).drew = wa at *
                refine wpAnyH_ready (rs := [4]) (by kernel_rfl) (by simp) ?_
                refine AllReadyH.cons (o := ?osc5b4) ?hosc5b4 (fun K' hK' => ?ksc5b4) AllReadyH.nil
                case hosc5b4 => (simp only [List.getElem?_toArray, List.getElem?_cons_succ, List.getElem?_cons_zero]; rfl)
                go_simp
                go_at_call 15
                go_fit (HRN6.out _ HWA.out.below)
                rintro e w5 ⟨⟨u1, u2, us, rfl, hq⟩, hb5⟩
                obtain ⟨hv5, hp5, hs5⟩ := hq w5 (Dirty.refl _ _)
                obtain ⟨y1, e1, rfl, _⟩ := hv5.opened
                obtain ⟨y2, e2, rfl, _⟩ := hp5.opened
                obtain ⟨ua, uc, rfl, _⟩ := hs5.opened
                clear hv5 hp5 hs5
                try go_wp2_with fail
                have S5 := HWA.out.step hb5
                refine hK'.out _ _ (HSS6.out _ S5.below) (fun _ => ?_)
                clear hK' K'
                refine wpAnyH_take (i := 5) (v := ?vsc5b5) rfl (by kernel_rfl) (by kernel_rfl) (by kernel_rfl) (fun _ _ _ h => h) (Or.inl ⟨by rfl, ?hysc5b5⟩) (by exact HSS6.out _ S5.below) ?rsc5b5
                case hysc5b5 => (intro w hSw; (try dsimp only at hSw); go_simp <;> with_reducible rfl)
                simp only [Act.put, List.setIfInBounds_toArray, List.set_cons_zero, List.set_cons_succ]
                refine wpAnyH_take (i := 6) (v := ?vsc5b6) rfl (by kernel_rfl) (by kernel_rfl) (by kernel_rfl) (fun _ _ _ h => h) (Or.inl ⟨by rfl, ?hysc5b6⟩) (by exact HSS6.out _ S5.below) ?rsc5b6
                case hysc5b6 => (intro w hSw; (try dsimp only at hSw); go_simp <;> with_reducible rfl)
                simp only [Act.put, List.setIfInBounds_toArray, List.set_cons_zero, List.set_cons_succ]
                refine wpAnyH_take (i := 7) (v := ?vsc5b7) rfl (by kernel_rfl) (by kernel_rfl) (by kernel_rfl) (fun _ _ _ h => h) (Or.inl ⟨by rfl, ?hysc5b7⟩) (by exact HSS6.out _ S5.below) ?rsc5b7
                case hysc5b7 => (intro w hSw; (try dsimp only at hSw); go_simp <;> with_reducible rfl)
                simp only [Act.put, List.setIfInBounds_toArray, List.set_cons_zero, List.set_cons_succ]
                refine wpAnyH_take (i := 8) (v := ?vsc5b8) rfl (by kernel_rfl) (by kernel_rfl) (by kernel_rfl) (fun _ _ _ h => h) (Or.inl ⟨by rfl, ?hysc5b8⟩) (by exact HSS6.out _ S5.below) ?rsc5b8
                case hysc5b8 => (intro w hSw; (try dsimp only at hSw); go_simp <;> with_reducible rfl)
                simp only [Act.put, List.setIfInBounds_toArray, List.set_cons_zero, List.set_cons_succ]
                have q0 := below_cell hb5 q0
                have q1 := below_cell hb5 q1
                have q2 := (hb5.frozen (p := ⟨w6.heap.size, 0, none⟩) hgwa).trans q2
                have q3 := (hb5.frozen (p := ⟨w6.heap.size, 1, none⟩) hgwa).trans q3
                have S9 := (S5.setCell (a := ⟨w6.heap.size, 0, none⟩) (Nat.le_refl _) (.slice y1 Z.1.length e1)).setCell (a := ⟨w6.heap.size, 1, none⟩) (Nat.le_refl _) (.slice y2 Z.2.length e2)
                have hd9 : Dirty (fun j => j = w6.heap.size) w5 ((w5.setCell ⟨w6.heap.size, 0, none⟩ (.slice y1 Z.1.length e1)).setCell ⟨w6.heap.size, 1, none⟩ (.slice y2 Z.2.length e2)) := (Dirty.of_grown ((grown_setCell w5 ⟨w6.heap.size, 0, none⟩ (.slice y1 Z.1.length e1)).trans (grown_setCell _ ⟨w6.heap.size, 1, none⟩ (.slice y2 Z.2.length e2)))).mono fun j _ hj => by cases hj; rfl
                obtain ⟨r1, r2, r3⟩ := hq _ (hd9.mono fun j _ hj => by rw [hj]; exact hgwa)
                have v0 : ((w5.setCell ⟨w6.heap.size, 0, none⟩ (.slice y1 Z.1.length e1)).setCell ⟨w6.heap.size, 1, none⟩ (.slice y2 Z.2.length e2)).cell? ⟨w6.heap.size, 0, none⟩ = some (.slice y1 Z.1.length e1) := by go_simp
                have v1 : ((w5.setCell ⟨w6.heap.size, 0, none⟩ (.slice y1 Z.1.length e1)).setCell ⟨w6.heap.size, 1, none⟩ (.slice y2 Z.2.length e2)).cell? ⟨w6.heap.size, 1, none⟩ = some (.slice y2 Z.2.length e2) := by go_simp
                refine wpAnyH_ready (rs := [10]) (by kernel_rfl) (by simp) ?_
                refine AllReadyH.cons (o := ?osc5b10) ?hosc5b10 (fun K' hK' => ?ksc5b10) AllReadyH.nil
                case hosc5b10 => (simp only [List.getElem?_toArray, List.getElem?_cons_succ, List.getElem?_cons_zero]; rfl)
                go_simp
                refine hK'.out _ _ (HSS6.out _ S9.below) (fun _ => ?_)
                clear hK' K'
                refine wpAnyH_take (i := 11) (v := ?vsc5b11) rfl (by kernel_rfl) (by kernel_rfl) (by kernel_rfl) (fun _ _ _ h => h) (Or.inl ⟨by rfl, ?hysc5b11⟩) (by exact HSS6.out _ S9.below) ?rsc5b11
                case hysc5b11 => (intro w hSw; (try dsimp only at hSw); go_simp <;> with_reducible rfl)
                simp only [Act.put, List.setIfInBounds_toArray, List.set_cons_zero, List.set_cons_succ]
                refine wpAnyH_take (i := 12) (v := ?vsc5b12) rfl (by kernel_rfl) (by kernel_rfl) (by kernel_rfl) (fun _ _ _ h => h) (Or.inl ⟨by rfl, ?hysc5b12⟩) (by exact HSS6.out _ S9.below) ?rsc5b12
                case hysc5b12 => (intro w hSw; (try dsimp only at hSw); go_simp <;> with_reducible rfl)
                simp only [Act.put, List.setIfInBounds_toArray, List.set_cons_zero, List.set_cons_succ]
                refine wpAnyH_done (by kernel_rfl) ?_ _
                go_simp
                go_wp2_with fail
                go_meet
                exact ⟨rfl, _, _, _, _, _, _, _, _, _, _, rfl, rfl, _, rfl, S9, v0, v1, r1, r2, r3⟩
            case rest =>
              obtain ⟨rfl, g6, z1, m1, f1, z2, m2, f2, ub, ulb, ucb, rfl, rfl, w8, rfl, T8, v0, v1, r1, r2, r3⟩ := hcut
              clear hH6
              obtain ⟨x0, x1, hxv, hxp, hxs⟩ := HX.out w8 (h24 w8 (h46 w8 T8.below))
              obtain ⟨_, _, _, _, hya⟩ := HF6.out w8 T8.below
              go_upto_region 7 with fail
              have HZM := Lib.hid (show meEq M Z = true by rw [HPT.out.2.2.1]; exact meEq_self _)
              have HSD := Lib.hid (show eqInts SD (SA ++ SB) = true by rw [HPT.out.2.2.2]; simp [eqInts])
              have hlen : SA.length + SB.length ≤ 1000000 := by rw [← hSA, ← hSB]; have h1 : (runS (b, ps) (l.take l.length)).length ≤ 100 := Nat.le_trans (runS_len _ _) (by first | (simp; omega) | simp); have h2 : (runS Y (l.drop l.length)).length ≤ 100 := Nat.le_trans (runS_len _ _) (by first | (simp; omega) | simp); omega
              have HSM := Lib.hid (Same_mesh _ _ _ _ M Z w8 hxv hxp r1 r2)
              have hs8 := r3
              obtain ⟨ka, _, ek, _, ⟨_, _, _⟩, _⟩ := hya.opened
              obtain rfl : ul = SA.length := by simp only [Value.slice.injEq] at ek; exact ek.2.1
              obtain ⟨kb, _, ek2, _, ⟨_, _, _⟩, _⟩ := hs8.opened
              obtain rfl : ulb = SB.length := by simp only [Value.slice.injEq] at ek2; exact ek2.2.1
              clear ek ek2 r1 r2 r3 hxv hxp
              go_wp2_with (first
                | (go_at_call 22; go_fit HSM.out; rintro e w9 ⟨rfl, hb9⟩; rw [HZM.out]; have HCC := Lib.hid (Concat_errs w9.heap.size _ _ SA SB (w9.alloc (.cells #[.slice ua SA.length uc, .slice ub SB.length ucb] 38)) (by go_simp) (by go_simp) ((hya.stays hb9).stays (below_alloc _ _)) ((hs8.stays hb9).stays (below_alloc _ _)) hlen))
                | (go_at_call 24; go_fit HCC.out; rintro e w10 ⟨⟨v10, rfl, ho10⟩, hb10⟩; have HEE := Lib.hid (Equal_errs _ _ SD (SA ++ SB) w10 (((hxs.stays hb9).stays (below_alloc _ _)).stays hb10) ho10.isInts))
                | (go_at_call 23; go_fit HEE.out; rintro e w11 ⟨rfl, hb11⟩; rw [HSD.out]))
              go_ret
              exact ⟨rfl, (((((S4.step ((T6.step T8.below).below)).step hb9).alloc (.cells #[.slice ua SA.length uc, .slice ub SB.length ucb] 38)).step hb10).step hb11).below⟩

  · have hne : (E != 0) = true := by simpa using hE0
    clear z0 z1 hv2 hp2 hs2
    go_upto_region 3 with (go_at_call 21; go_fit (HT.out _); rintro e w3 ⟨rfl, hb3⟩)
    go_wp2_with (go_at_call 21; go_fit (HT.out _); rintro e w4 ⟨rfl, hb4⟩)
    go_ret
    exact ⟨rfl, ((S2.step hb3).step hb4).below⟩
end Go.Proofs.YtnidbghgadnjeaaGreat
