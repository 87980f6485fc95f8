/-
  Who goes, or loses all, takes one to spare at most. (What a closed fact answers is given as a contract.)
-/
import Derived.Test.YtnpdojjffbhalaaDo
import Derived.Test.YtnpdojjffbhalaaSpare
import Derived.Test.YtnpdojjffbhalaaSpareLaw
import Derived.Test.YtnpdojjffbhalaaReadMesh
import Derived.Test.YtnpdojjffbhalaaVotes
namespace Go.Proofs.Ytnpdojjffbhalaa
open Go.RowKit

theorem lose_peer {b : List Ver} {p : Pr} (h : PeerOk b p) : PeerOk b (p.1, p.2.1, []) := ⟨h.book, h.room, by simpa using h.room.1, by simp, by simp⟩
theorem spare_bounds {b : List Ver} {ps : List Pr} {v : Int} (h : readyE (b, ps) v = 0) : -4 ≤ spareV (b, ps) v ∧ spareV (b, ps) v ≤ 8 := by
  obtain ⟨hm, h0, h1⟩ := readyE_ok h
  obtain ⟨k, rfl⟩ := Int.eq_ofNat_of_zero_le h0
  have hk : k < b.length := by simpa using h1
  have hx : b[k]? = some b[k] := List.getElem?_eq_getElem hk
  have hpl : planAt b (k : Int) = b[k].2 := planAt_get hx
  have hs := spareV_eq h
  simp only [hpl] at hs
  obtain ⟨h2, _, h3, _⟩ := sharesM_checks hm hx
  have := planV_bd h2
  have h9 := sharesM_len (k : Int) ps
  have h8 : ps.length ≤ 8 := (placeV_ok.1 hm).2.1
  omega

set_option linter.unusedSimpArgs false in
set_option maxRecDepth 100000 in
set_option maxHeartbeats 8000000 in
theorem TaleSpare_walk (ht : ∀ W, Calls Try.prog 41 #[] W fun e w' => e = .returned (.bool true) ∧ Below W.heap.size W w') (vm : Value) (m : Me) (vn : Value) (n : Int) (vk : Value) (k : Int) (W : World) (hm : IsMesh W vm m) (hn : IsInt vn n) (hk : IsInt vk k) :
    Calls Try.prog 12 #[vm, vn, vk] W fun e w' => e = .returned (.bool true) ∧ Below W.heap.size W w' := by
  obtain ⟨vb, u, rfl, hb, hu⟩ := hm
  obtain ⟨rfl, hni⟩ := hn
  obtain ⟨rfl, hk0, hk1⟩ := hk
  obtain ⟨b, ps⟩ := m
  simp only at hb hu
  obtain ⟨a, c, rfl, hcb, ⟨hbm, hbc, _⟩, _⟩ := hb.opened
  obtain ⟨a', c', rfl, hcu, ⟨hum, huc, _⟩, _⟩ := hu.opened
  have S0 := (Since.refl W).alloc (.cells #[.slice a b.length c, .slice a' ps.length c'] 53)
  have hb0 := hb.stays RVer.stays S0.below
  have hu0 := hu.stays RPeer.stays S0.below
  have c0 : (W.alloc (.cells #[.slice a b.length c, .slice a' ps.length c'] 53)).cell? ⟨W.heap.size, 0, none⟩ = some (.slice a b.length c) := by go_simp
  have c1 : (W.alloc (.cells #[.slice a b.length c, .slice a' ps.length c'] 53)).cell? ⟨W.heap.size, 1, none⟩ = some (.slice a' ps.length c') := by go_simp
  clear hb hu
  go_enter Try.func12, Try.ntmps12
  go_upto_region 1 with fail
  generalize W.alloc (.cells #[.slice a b.length c, .slice a' ps.length c'] 53) = w0 at *
  obtain ⟨B, hB⟩ : ∃ B, B = W.heap.size := ⟨_, rfl⟩
  rw [← hB] at c0 c1 ⊢
  clear hB
  have HF : Hid (∀ w', Since w0.heap.size w0 w' → w'.cell? ⟨B, 0, none⟩ = some (.slice a b.length c) ∧ w'.cell? ⟨B, 1, none⟩ = some (.slice a' ps.length c') ∧ IsVers w' (.slice a b.length c) b ∧ IsPeers w' (.slice a' ps.length c') ps) := Lib.hid (fun w' q => ⟨below_cell q.below c0, below_cell q.below c1, hb0.stays RVer.stays q.below, hu0.stays RPeer.stays q.below⟩)
  have HT := Lib.hid ht
  clear ht
  go_upto_region 2 with (go_at_call 40; go_fit (Spare_any _ b _ ps n w0 hb0 hu0); rintro e w1 ⟨rfl, hb1⟩)
  have T1 := (Since.refl w0).step hb1
  clear hb1 hb0 hu0 c0 c1
  by_cases hr : readyE (b, ps) n = 0
  · rw [hr]
    have hsb := spare_bounds hr
    have hsr := spare_rest hr
    have HR := Lib.hid hr
    have hmr := readyE_ok hr
    obtain ⟨hm0, hn0, hn1⟩ := hmr
    have hp8 : ps.length ≤ 8 := (placeV_ok.1 hm0).2.1
    have HPK : Hid (∀ p ∈ ps, PeerOk b p) := Lib.hid (placeV_ok.1 hm0).2.2
    have HM0 := Lib.hid hm0
    have HSN : Hid (ps = [] → spareV (b, ps) n < 0) := Lib.hid (fun e => by subst e; exact spare_none hr)
    have HSS : Hid (∀ kk p q, ps[kk]? = some p → pickS n q = none → PeerOk b q → readyE (b, ps.set kk q) n = 0 ∧ spareV (b, ps.set kk q) n ≤ spareV (b, ps) n ∧ spareV (b, ps) n ≤ spareV (b, ps.set kk q) n + 1 ∧ (pickS n p = none → spareV (b, ps.set kk q) n = spareV (b, ps) n)) := Lib.hid (fun kk p q h1 h2 h3 => spare_set hr h1 h2 h3)
    generalize hS : spareV (b, ps) n = s at *
    clear hS hr hm0
    go_upto_region 4 with (go_at_call 41; go_fit (HT.out w1); rintro e w2 ⟨rfl, hb2⟩)
    have T2 := T1.step hb2
    clear hb2
    obtain ⟨d0, d1, hv2, hp2⟩ := HF.out w2 T2
    go_upto_region 5 with (go_at_call 29; go_fit (Restore_any _ b _ ps n w2 hv2 hp2); rintro e w3 ⟨⟨y1, y2, rfl, hi1, hi2⟩, hb3⟩; obtain ⟨aa, ca, rfl, _⟩ := hi1.opened; obtain ⟨ab, cb, rfl, _⟩ := hi2.opened)
    have T3 := T2.step hb3
    clear d0 d1 hv2 hp2 hi1 hi2 hb3 hni
    obtain ⟨d0, d1, hv3, hp3⟩ := HF.out w3 T3
    generalize restE (b, ps) n = f at *
    go_cut [52] (fun s52 wx => s52 = .bool false ∧ w3 = wx)
    case first =>
      rcases hsr with ⟨hs, rfl⟩ | ⟨hs, rfl | rfl⟩
      · go_wp2_with fail
        go_meet
        exact ⟨rfl, rfl⟩
      · go_wp2_with fail
        go_meet
        exact ⟨by rw [show decide (s < 0) = false by simp; omega], rfl⟩
      · go_wp2_with fail
        go_meet
        exact ⟨by rw [show decide (s < 0) = false by simp; omega], rfl⟩
    case rest =>
      obtain ⟨rfl, rfl⟩ := hcut
      clear hsr
      by_cases hz : ps = []
      · subst hz
        have hs0 := HSN.out rfl
        have hl0 : ([] : List Pr).length = 0 := rfl
        rw [hl0] at *
        go_wp2_with fail
        go_ret
        exact ⟨rfl, (S0.step T3.below).below⟩
      · have hz0 : 0 < ps.length := List.length_pos_iff.2 hz
        clear hz
        obtain ⟨hk2, hk3⟩ := modV_bd k (show (1 : Int) ≤ (ps.length : Int) by omega)
        obtain ⟨kk, hkk⟩ := Int.eq_ofNat_of_zero_le hk2
        have hAT := Lib.hid (at_any k (ps.length : Int) w3 hk0 hk1 (by omega) (by omega))
        have HKK := Lib.hid hkk
        have hkp : kk < ps.length := by omega
        have hik : I64 (kk : Int) := ⟨by omega, by omega⟩
        clear hk2 hk3 hkk
        go_upto_region 10 with (go_at_call 16; go_fit hAT.out; rintro e w' ⟨rfl, rfl⟩; rw [HKK.out])
        have hget := List.getElem?_eq_getElem hkp
        obtain ⟨g, off, uu, cu, rfl, p0, p1, p2, hkp2, jr⟩ := peer_at hp3 hget
        have hok := HPK.out _ (List.getElem_mem hkp)
        have HAP : Hid (atP (kk : Int) ps = ps[kk]) := Lib.hid (atP_get hget)
        have HSP : Hid (∀ f, setP (kk : Int) ps f = ps.set kk (f ps[kk])) := Lib.hid (fun f => setP_get hget f)
        have HS1 := Lib.hid (HSS.out kk ps[kk] (ps[kk].1, ps[kk].2.1, []) hget (by unfold pickS; split <;> rfl) (lose_peer hok))
        have HS2 := Lib.hid (HSS.out kk ps[kk] (false, ps[kk].2) hget rfl ⟨hok.book, hok.room, hok.few, hok.each, hok.rise⟩)
        have HPB := Lib.hid (hasB_pick n ps[kk])
        generalize hpk : ps[kk] = p at *
        obtain ⟨t, r, ks⟩ := p
        simp only at p0 p1 p2 hkp2 jr HS1 HS2
        have hin0 : I64 0 := ⟨by omega, by omega⟩
        have HE4 : Hid (doE (b, ps) (4, (kk : Int), 0, [], [], 0, 0) = 0 ∧ doC (b, ps) (4, (kk : Int), 0, [], [], 0, 0) = (b, ps.set kk (t, r, []))) := by
          have hE : doE (b, ps) (4, (kk : Int), 0, [], [], 0, 0) = 0 := by unfold doE; simp [HM0.out]; omega
          exact Lib.hid ⟨hE, by unfold doC; rw [hE]; simp [HM0.out, HSP.out]⟩
        have HD4 := Lib.hid (Do_most _ _ _ _ b ps 4 kk 0 [] [] 0 0 w3 hv3 hp3 (IsInts.nil _) (IsInts.nil _) (by decide) hik hin0 hin0 hin0)
        go_upto_region 11 with (go_at_call 42; go_fit HD4.out; rintro e w4 ⟨⟨u1, u2, rfl, ho4⟩, hb4⟩; rw [HE4.out.1]; rw [HE4.out.2] at ho4; obtain ⟨a4, c4, rfl, _⟩ := ho4.vers.opened; obtain ⟨a5, c5, ev5, _⟩ := ho4.peers.opened; simp only [List.length_set] at ev5; subst ev5)
        have BB := below_alloc w4 (.cells #[.slice a4 b.length c4, .slice a5 ps.length c5] 53)
        have V5 := Lib.hid (ho4.vers.stays RVer.stays BB)
        have P5 := Lib.hid (ho4.peers.stays RPeer.stays BB)
        have U5 := ((Since.refl w3).step hb4).alloc (.cells #[.slice a4 b.length c4, .slice a5 ps.length c5] 53)
        have x0 : (w4.alloc (.cells #[.slice a4 b.length c4, .slice a5 ps.length c5] 53)).cell? ⟨w4.heap.size, 0, none⟩ = some (.slice a4 b.length c4) := by go_simp
        have x1 : (w4.alloc (.cells #[.slice a4 b.length c4, .slice a5 ps.length c5] 53)).cell? ⟨w4.heap.size, 1, none⟩ = some (.slice a5 ps.length c5) := by go_simp
        have HPC : Hid (∀ w', Since w3.heap.size w3 w' → w'.cell? ⟨g, off + kk * 3, none⟩ = some (.bool t) ∧ w'.cell? ⟨g, off + kk * 3 + 1, none⟩ = some (.int .i64 r) ∧ w'.cell? ⟨g, off + kk * 3 + 2, none⟩ = some (.slice uu ks.length cu) ∧ IsKepts w' (.slice uu ks.length cu) ks ∧ w'.cell? ⟨B, 0, none⟩ = some (.slice a b.length c) ∧ w'.cell? ⟨B, 1, none⟩ = some (.slice (some ⟨g, off, none⟩) ps.length c') ∧ IsVers w' (.slice a b.length c) b ∧ IsPeers w' (.slice (some ⟨g, off, none⟩) ps.length c') ps) :=
          Lib.hid (fun w' q => ⟨below_cell q.below p0, below_cell q.below p1, below_cell q.below p2, hkp2.stays RKept.stays q.below, below_cell q.below d0, below_cell q.below d1, hv3.stays RVer.stays q.below, hp3.stays RPeer.stays q.below⟩)
        obtain ⟨r1, r2, r3, r4⟩ := HS1.out
        obtain ⟨q1, _, _, _⟩ := HS2.out
        have hU : spareV (b, ps.set kk (false, r, ks)) n = spareV (b, ps.set kk (t, r, [])) n := spare_same rfl (by unfold pickS; split <;> rfl) q1 r1
        generalize hT : spareV (b, ps.set kk (t, r, [])) n = tv at *
        have HU := Lib.hid hU
        have HTV := Lib.hid hT
        have HR1 := Lib.hid r1
        have HQ1 := Lib.hid q1
        have HR4 := Lib.hid r4
        clear hU hT r1 q1 r4 HS1 HS2 HE4 HD4 ho4 hb4 BB p0 p1 p2 hkp2 d0 d1 hv3 hp3
        generalize w4.alloc (.cells #[.slice a4 b.length c4, .slice a5 ps.length c5] 53) = w5 at *
        obtain ⟨Bx, hBx⟩ : ∃ Bx, Bx = w4.heap.size := ⟨_, rfl⟩
        rw [← hBx] at x0 x1 ⊢
        clear hBx
        go_upto_region 14 with (go_at_call 40; go_fit (Spare_any _ b _ (ps.set kk (t, r, [])) n w5 V5.out P5.out); rintro e w6 ⟨rfl, hb6⟩; rw [HR1.out, HTV.out])
        have U6 := U5.step hb6
        clear x0 x1 hb6 V5 P5
        obtain ⟨p0, p1, p2, hkp2, d0, d1, hv6, hp6⟩ := HPC.out w6 U6
        have HKP := Lib.hid hkp2
        have hws : IntKind.i64.wrap (s - 1) = s - 1 := IntWalk.i64_in _ (by omega)
        have b1 : decide (s < tv) = false := by simp; omega
        have b2 : decide (tv < s - 1) = false := by simp; omega
        clear hkp2
        go_cut [115] (fun s115 wx => s115 = .bool false ∧ ∃ wz, wz = wx ∧ Since w6.heap.size w6 wx)
        case first =>
          by_cases hts : tv < s
          · have hb : hasB n (t, r, ks) = true := by
              rw [← HPB.out]
              cases hq : pickS n (t, r, ks) with
              | none => have := HR4.out hq; omega
              | some _ => rfl
            unfold hasB at hb
            simp only [Bool.and_eq_true, decide_eq_true_eq] at hb
            obtain ⟨rfl, hfi⟩ := hb
            have b3 : decide (tv < s) = true := by simpa using hts
            have b4 : decide (findV n ks 0 < 0) = false := by simp; omega
            go_wp2_with (go_at_call 30; go_fit (Find_any true r _ ks n w6 HKP.out); rintro e w7 ⟨rfl, hb7⟩)
            go_meet
            refine ⟨?_, _, rfl, (Since.refl w6).step hb7⟩
            first | rfl | (rw [b4]) | simp [b1, b2, b3, b4]
          · have b3 : decide (tv < s) = false := by simpa using hts
            go_wp2_with fail
            go_meet
            refine ⟨?_, _, rfl, Since.refl w6⟩
            first | rfl | (rw [b3]) | simp [b1, b2, b3]
        case rest =>
          obtain ⟨rfl, w7, rfl, hS7⟩ := hcut
          have U7 := U6.step hS7.below
          clear p0 p1 p2 d0 d1 hv6 hp6 b1 b2 hws
          obtain ⟨p0, p1, p2, _, d0, d1, hv7, hp7⟩ := HPC.out w7 U7
          have HD2 := Lib.hid (Do_most _ _ _ _ b ps 2 kk 0 [] [] 0 0 w7 hv7 hp7 (IsInts.nil _) (IsInts.nil _) (by decide) hik hin0 hin0 hin0)
          cases t with
          | false =>
            have hE : doE (b, ps) (2, (kk : Int), 0, [], [], 0, 0) = 6 := by unfold doE; simp [HM0.out, HAP.out]; omega
            have HE2 := Lib.hid hE
            clear hE
            generalize hM : doC (b, ps) (2, (kk : Int), 0, [], [], 0, 0) = M at *
            clear hM
            go_upto_region 17 with (go_at_call 42; go_fit HD2.out; rintro e w8 ⟨⟨u1, u2, rfl, ho8⟩, hb8⟩; rw [HE2.out]; obtain ⟨a8, c8, rfl, _⟩ := ho8.vers.opened; obtain ⟨a9, c9, rfl, _⟩ := ho8.peers.opened)
            have U9 := (U7.step hb8).alloc (.cells #[.slice a8 M.1.length c8, .slice a9 M.2.length c9] 53)
            clear p0 p1 p2 d0 d1 hv7 hp7 ho8 hb8
            obtain ⟨p0, p1, p2, _, d0, d1, _, _⟩ := HPC.out _ U9
            generalize w8.alloc (.cells #[.slice a8 M.1.length c8, .slice a9 M.2.length c9] 53) = w9 at *
            go_wp2_with fail
            go_ret
            exact ⟨rfl, (S0.step (T3.step U9.below).below).below⟩
          | true =>
            have hE : doE (b, ps) (2, (kk : Int), 0, [], [], 0, 0) = 0 := by unfold doE; simp [HM0.out, HAP.out]; omega
            have HE2 : Hid (doE (b, ps) (2, (kk : Int), 0, [], [], 0, 0) = 0 ∧ doC (b, ps) (2, (kk : Int), 0, [], [], 0, 0) = (b, ps.set kk (false, r, ks))) := Lib.hid ⟨hE, by unfold doC; rw [hE]; simp [HM0.out, HSP.out]⟩
            clear hE
            go_upto_region 17 with (go_at_call 42; go_fit HD2.out; rintro e w8 ⟨⟨u1, u2, rfl, ho8⟩, hb8⟩; rw [HE2.out.1]; rw [HE2.out.2] at ho8; obtain ⟨a8, c8, rfl, _⟩ := ho8.vers.opened; obtain ⟨a9, c9, ev9, _⟩ := ho8.peers.opened; simp only [List.length_set] at ev9; subst ev9)
            have BB := below_alloc w8 (.cells #[.slice a8 b.length c8, .slice a9 ps.length c9] 53)
            have V9 := Lib.hid (ho8.vers.stays RVer.stays BB)
            have P9 := Lib.hid (ho8.peers.stays RPeer.stays BB)
            have U9 := (U7.step hb8).alloc (.cells #[.slice a8 b.length c8, .slice a9 ps.length c9] 53)
            have x0 : (w8.alloc (.cells #[.slice a8 b.length c8, .slice a9 ps.length c9] 53)).cell? ⟨w8.heap.size, 0, none⟩ = some (.slice a8 b.length c8) := by go_simp
            have x1 : (w8.alloc (.cells #[.slice a8 b.length c8, .slice a9 ps.length c9] 53)).cell? ⟨w8.heap.size, 1, none⟩ = some (.slice a9 ps.length c9) := by go_simp
            clear ho8 hb8 BB d0 d1 p0 p1 p2
            generalize w8.alloc (.cells #[.slice a8 b.length c8, .slice a9 ps.length c9] 53) = w9 at *
            go_wp2_with (go_at_call 40; go_fit (Spare_any _ b _ (ps.set kk (false, r, ks)) n w9 V9.out P9.out); rintro e w10 ⟨rfl, hb10⟩; rw [HQ1.out, HU.out])
            go_ret
            first
              | exact ⟨rfl, (S0.step (T3.step (U9.step hb10).below).below).below⟩
              | exact ⟨by simp, (S0.step (T3.step (U9.step hb10).below).below).below⟩
  · have HN := Lib.hid hr
    generalize readyE (b, ps) n = E at *
    go_wp2_with (first
      | (go_at_call 41; go_fit (HT.out w1); rintro e w2 ⟨rfl, hb2⟩)
      | (go_at_call 41; go_fit (HT.out w2); rintro e w3 ⟨rfl, hb3⟩))
    go_ret
    exact ⟨rfl, (S0.step ((T1.step hb2).step hb3).below).below⟩
end Go.Proofs.Ytnpdojjffbhalaa
