/-
  Who is to blame is found, and nobody else.
-/
import Derived.Test.YtnpdojjffbhalaaJudged
import Derived.Test.YtnpdojjffbhalaaReadMesh
import Derived.Test.YtnpdojjffbhalaaBendLaw
import Derived.Test.YtnpdojjffbhalaaVotes
import Derived.Test.YtnpdojjffbhalaaBase
import Derived.StillTailTactics
import Derived.Deep.LoopGhost
namespace Go.Proofs.Ytnpdojjffbhalaa
open Go.RowKit

theorem follows_mixedF : Try.prog.follows .mixedOrders = true := by kernel_rfl
theorem same_symF {e : Ending} {v : Value} {w w' : World} (h : e = .returned v ∧ w = w') : e = .returned v ∧ w' = w := ⟨h.1, h.2.symm⟩

set_option linter.unusedSimpArgs false in
set_option maxRecDepth 100000 in
set_option maxHeartbeats 8000000 in
theorem AuditFinds_walk (vm : Value) (m : Me) (vd : Value) (data : List Int) (vpl : Value) (p : Plan3) (vw : Value) (who : List Int) (vy : Value) (by_ : Int) (W : World) (hm : IsMesh W vm m) (hd : IsInts W vd data) (hpl : IsPlan vpl p) (hw : IsInts W vw who) (hy : IsInt vy by_) :
    Calls Try.prog 9 #[vm, vd, vpl, vw, vy] W fun e w' => e = .returned (.bool true) ∧ Below W.heap.size W w' := by
  obtain ⟨vb, u, rfl, hb, hu⟩ := hm
  obtain ⟨rfl, by0, by1⟩ := hy
  obtain ⟨rfl, i1, i2, i3⟩ := hpl
  obtain ⟨b, ps⟩ := m
  obtain ⟨n, o, s⟩ := p
  simp only at hb hu i1 i2 i3
  obtain ⟨a, c, rfl, hcb, ⟨hbm, hbc, _⟩, _⟩ := hb.opened
  obtain ⟨a', c', rfl, hcu, ⟨hum, huc, _⟩, _⟩ := hu.opened
  obtain ⟨ad, cd, rfl, _⟩ := hd.opened
  obtain ⟨aw, cw, rfl, hcw, ⟨hwm, hwc, _⟩, _⟩ := id hw.opened
  have S0 := ((Since.refl W).alloc (.cells #[.slice a b.length c, .slice a' ps.length c'] 53)).alloc (.cells #[.int .i64 n, .int .i64 o, .int .i64 s] 23)
  obtain ⟨w0, hw0⟩ : ∃ w0, w0 = (W.alloc (.cells #[.slice a b.length c, .slice a' ps.length c'] 53)).alloc (.cells #[.int .i64 n, .int .i64 o, .int .i64 s] 23) := ⟨_, rfl⟩
  have c0 : w0.cell? ⟨W.heap.size, 0, none⟩ = some (.slice a b.length c) := by rw [hw0]; go_simp
  have c1 : w0.cell? ⟨W.heap.size, 1, none⟩ = some (.slice a' ps.length c') := by rw [hw0]; go_simp
  have l0 : w0.cell? ⟨W.heap.size + 1, 0, none⟩ = some (.int .i64 n) := by rw [hw0]; go_simp
  have l1 : w0.cell? ⟨W.heap.size + 1, 1, none⟩ = some (.int .i64 o) := by rw [hw0]; go_simp
  rw [← hw0] at S0
  have HW := Lib.hid hw0
  clear hw0
  obtain ⟨B, hB⟩ : ∃ B, B = W.heap.size := ⟨_, rfl⟩
  obtain ⟨Bl, hBl⟩ : ∃ B, B = W.heap.size + 1 := ⟨_, rfl⟩
  rw [← hBl] at l0 l1
  rw [← hB] at c0 c1
  have HB := Lib.hid hB
  have HBl := Lib.hid hBl
  clear hB hBl
  have hb0 := hb.stays RVer.stays S0.below
  have hu0 := hu.stays RPeer.stays S0.below
  have HD := Lib.hid (hd.stays S0.below)
  have HWH := Lib.hid (hw.stays S0.below)
  have HS := Lib.hid (Save_any _ _ _ _ b ps data [] n o w0 hb0 hu0 HD.out (IsInts.nil w0) i1 i2)
  clear hb hu hd hw
  by_cases hE : saveE (b, ps) data [] n o = 0
  · obtain ⟨n', o', qs, cs, rfl, rfl, hC, hS⟩ := save_zero hE
    have HE := Lib.hid hE
    have HC := Lib.hid hC
    have hb12 : b.length < 12 := by
      have := (bookV_ok.1 (placeV_ok.1 hS.book).1).top
      simp at this
      omega
    have hq8 : qs.length ≤ 8 := (placeV_ok.1 hS.right).2.1
    have hpn := planV_bd (splitE_ok hS.split).1
    have hq0 : 0 < qs.length := by
      obtain ⟨k, q, _, hk, _⟩ := hS.given (j := 0) (by omega)
      have := (List.getElem?_eq_some_iff.1 hk).1
      omega
    obtain ⟨d, hdd⟩ : ∃ d, d = 1 + modV by_ 30 := ⟨_, rfl⟩
    have hm30 := modV_bd by_ (n := 30) (by omega)
    have hd0 : 0 < d := by omega
    have hd2 : d < 31 := by omega
    have HAU := Lib.hid (fun want zs (h1 : Want (b.length : Int) n' o' want qs) (h2 : BentTo (b.length : Int) d want qs zs) => hS.audit hd0 hd2 h1 h2)
    have HST := Lib.hid (fun want zs (h1 : Want (b.length : Int) n' o' want qs) (h2 : BentTo (b.length : Int) d want qs zs) => fun k z => hS.step (k := k) (z := z) h1 h2)
    simp only at HAU HST
    have HLB : Hid ((b ++ [newV data [] n' o']).length = b.length + 1) := Lib.hid (by simp)
    generalize b ++ [newV data [] n' o'] = b' at *
    clear hE hC hS
    go_enter Try.func9, Try.ntmps9
    go_upto_region 1 with fail
    rw [← HW.out, ← HBl.out, ← HB.out]
    go_upto_region 2 with (go_at_call 26; go_fit HS.out; rintro e w1 ⟨⟨u1, u2, rfl, ho1⟩, hb1⟩; rw [HE.out]; rw [HC.out] at ho1; obtain ⟨a1, k1, ev1, _⟩ := ho1.vers.opened; simp only [HLB.out] at ev1; subst ev1; obtain ⟨a2, k2, rfl, hk2, ⟨_, hk2m, _⟩, _⟩ := ho1.peers.opened)
    have T1 := (Since.refl w0).step hb1
    have BB := below_alloc w1 (.cells #[.slice a1 (b.length + 1) k1, .slice a2 qs.length k2] 53)
    have T2 := T1.alloc (.cells #[.slice a1 (b.length + 1) k1, .slice a2 qs.length k2] 53)
    have ho2 := ho1.toT.stays BB
    have x0 : (w1.alloc (.cells #[.slice a1 (b.length + 1) k1, .slice a2 qs.length k2] 53)).cell? ⟨w1.heap.size, 0, none⟩ = some (.slice a1 (b.length + 1) k1) := by go_simp
    have x1 : (w1.alloc (.cells #[.slice a1 (b.length + 1) k1, .slice a2 qs.length k2] 53)).cell? ⟨w1.heap.size, 1, none⟩ = some (.slice a2 qs.length k2) := by go_simp
    generalize w1.alloc (.cells #[.slice a1 (b.length + 1) k1, .slice a2 qs.length k2] 53) = w2 at *
    obtain ⟨Bx, hBx⟩ : ∃ Bx, Bx = w1.heap.size := ⟨_, rfl⟩
    have hw01 := T1.2
    rw [← hBx] at x0 x1 ho2 hw01 ⊢
    clear hBx ho1 hb1 BB T1
    have HF : Hid (∀ w', Since w0.heap.size w0 w' → w'.cell? ⟨B, 0, none⟩ = some (.slice a b.length c) ∧ w'.cell? ⟨Bl, 0, none⟩ = some (.int .i64 (n' : Int)) ∧ w'.cell? ⟨Bl, 1, none⟩ = some (.int .i64 (o' : Int)) ∧ IsInts w' (.slice aw who.length cw) who) := Lib.hid (fun w' q => ⟨below_cell q.below c0, below_cell q.below l0, below_cell q.below l1, HWH.out.stays q.below⟩)
    have HO2 := Lib.hid ho2
    clear c0 c1 l0 l1 ho2
    go_upto_region 4 with (go_at_call 32; go_fit (judged_any w2); rintro e w3 ⟨rfl, hb3⟩)
    have T3 := T2.step hb3
    have hBx3 := below_cell hb3 x0
    have x1 := below_cell hb3 x1
    have x0 := hBx3
    have HO3 := Lib.hid (HO2.out.stays hb3)
    have hBl3 := cell_lt hBx3
    simp only at hBl3
    clear hb3 T2 hBx3
    obtain ⟨d0, _, _, _⟩ := HF.out w3 T3
    go_upto_region 6 with fail
    clear d0
    obtain ⟨H, hH1, hH2⟩ : ∃ H : Nat, H ≤ (o' - n') / 2 ∧ (o' - n') / 2 ≤ H := ⟨_, Nat.le_refl _, Nat.le_refl _⟩
    have hdiv : ((o' : Int) - (n' : Int)).tdiv 2 = (H : Int) := by
      rw [Int.tdiv_eq_ediv_of_nonneg (by omega)]
      omega
    have hwr : IntKind.i64.wrap ((o' : Int) - (n' : Int)) = (o' : Int) - (n' : Int) := IntWalk.i64_in _ (by omega)
    go_wp2_with fail
    go_loopw [46, 14] (fun i y wr => ∃ (k : Nat) (want : List Int) (zs : List Pr), k ≤ who.length ∧ i = .int .i64 k ∧ Want (b.length : Int) n' o' want qs ∧ BentTo (b.length : Int) d want qs zs ∧ Since w0.heap.size w0 wr ∧ OwnInts wr 3 (Bx + 1) y want ∧ OwnT (fun k => k < w0.heap.size) wr w0.heap.size Bx (.slice a1 (b.length + 1) k1) (.slice a2 qs.length k2) (b', zs) ∧ wr.cell? ⟨Bx, 0, none⟩ = some (.slice a1 (b.length + 1) k1) ∧ wr.cell? ⟨Bx, 1, none⟩ = some (.slice a2 qs.length k2)) (fun i _ _ => who.length - (intOf i).toNat)
    case atStart => exact ⟨0, [], qs, by omega, rfl, Want.nil _ _ _ _, BentTo.nil _ _ _, T3, OwnInts.nil _ _ _, HO3.out, x0, x1⟩
    case round =>
      obtain ⟨k, want, zs, hk, rfl, hWa, hBe, hS, how, hown, z0, z1⟩ := hrel
      clear x0 x1 T3
      have hzl : zs.length ≤ qs.length ∧ qs.length ≤ zs.length := ⟨Nat.le_of_eq hBe.len, Nat.le_of_eq hBe.len.symm⟩
      have hfew := hWa.few
      have HAUD := Lib.hid (HAU.out want zs hWa hBe)
      have HSTP := Lib.hid (HST.out want zs hWa hBe)
      by_cases hlt : k < who.length
      · obtain ⟨d0, d1, d2, hwi⟩ := HF.out wr hS
        have hget := List.getElem?_eq_getElem hlt
        obtain ⟨gw, ow, rfl, w5, j5⟩ := ints_at hwi hget
        generalize who[k] = cc at *
        obtain ⟨j50, j51⟩ := j5
        obtain ⟨ay, cy, rfl, _⟩ := how.isInts.opened
        by_cases hfl : want.length = H
        · have hfl2 : ((want.length : Int) == (H : Int)) = true := by simp [hfl]
          obtain ⟨hf1, hf2⟩ : want.length ≤ H ∧ H ≤ want.length := ⟨Nat.le_of_eq hfl, Nat.le_of_eq hfl.symm⟩
          clear hfl
          go_upto_region 17 with fail
          clear w5 d0 d1 d2 hwi
          obtain ⟨g1, g2, g3, g4, g5, ys, g6, g7, g8⟩ := HAUD.out
          have G1 := Lib.hid g1
          have G2 := Lib.hid g2
          have G3 := Lib.hid g3
          have G4 := Lib.hid g4
          have G5 := Lib.hid g5
          have G6 := Lib.hid g6
          have G7 := Lib.hid g7
          have G8 := Lib.hid g8
          have hnv : I64 (b.length : Int) := ⟨by omega, by omega⟩
          have HSORT := Lib.hid (SortInts_any (Bx + 1) _ want wr how)
          have hbl0 : Bx < wr.heap.size := by have := cell_lt z0; simpa using this
          have HOO := Lib.hid hown
          have HOW := Lib.hid how
          have HYY : Hid (∀ w', wr.grownBy w' (Value.slice ay want.length cy).ownBlock → w'.cell? ⟨Bx, 0, none⟩ = some (.slice a1 (b.length + 1) k1) ∧ w'.cell? ⟨Bx, 1, none⟩ = some (.slice a2 qs.length k2)) := Lib.hid (fun w' q => ⟨(Dirty.of_grown q).cell z0 (fun e => by have := (how.1.lt _ e).1; simp at this; omega), (Dirty.of_grown q).cell z1 (fun e => by have := (how.1.lt _ e).1; simp at this; omega)⟩)
          have HEQ : Hid (eqInts (sortV want) (sortV want) = true) := Lib.hid (by simp [eqInts])
          clear g1 g2 g3 g4 g5 g6 g7 g8 HAUD HSTP hown how
          go_upto_region 18 with (go_at_call 18; go_fit HSORT.out; rintro e w6 ⟨rfl, ho6, hg6⟩; obtain ⟨y0, y1⟩ := HYY.out w6 hg6)
          have S6 := hS.own (HOW.out.mono (by omega)) hg6
          have HO6 := Lib.hid (HOO.out.frame (Dirty.of_grown hg6) (fun k hk => Or.inr (by have := (HOW.out.1.lt _ hk).1; omega)))
          have J6 := Lib.hid ho6.isInts
          clear z0 z1 hg6 ho6 HSORT HOO HOW
          go_upto_region 19 with (go_at_call 33; go_fit (Blamed_any _ _ b' zs (b.length : Int) w6 HO6.out.vers HO6.out.peers); rintro e w7 ⟨⟨z1, rfl, hi1, _⟩, hb7⟩; rw [G3.out]; rw [G4.out] at hi1; obtain ⟨a5, c5, rfl, _⟩ := hi1.opened)
          have y0 := below_cell hb7 y0
          have y1 := below_cell hb7 y1
          have S7 := S6.step hb7
          have HO7 := Lib.hid (HO6.out.stays hb7)
          have J7 := Lib.hid (J6.out.stays hb7)
          have L7 := Lib.hid hi1
          clear hb7 hi1 HO6 J6
          go_upto_region 20 with (go_at_call 34; go_fit (Lacking_any _ b' _ zs (b.length : Int) w7 HO7.out.vers HO7.out.peers); rintro e w8 ⟨rfl, hb8⟩; rw [G1.out, G2.out])
          have y0 := below_cell hb8 y0
          have y1 := below_cell hb8 y1
          have S8 := S7.step hb8
          have HO8 := Lib.hid (HO7.out.stays hb8)
          have J8 := Lib.hid (J7.out.stays hb8)
          have L8 := Lib.hid (L7.out.stays hb8)
          clear hb8 HO7 J7 L7
          go_upto_region 22 with (go_at_call 20; go_fit (Equal_ints _ _ (sortV want) (sortV want) w8 L8.out J8.out); rintro e w9 ⟨rfl, hb9⟩; rw [HEQ.out])
          have y0 := below_cell hb9 y0
          have y1 := below_cell hb9 y1
          have S9 := S8.step hb9
          have HO9 := Lib.hid (HO8.out.stays hb9)
          clear hb9 HO8 J8 L8
          go_upto_region 23 with (go_at_call 35; go_fit (Repair_any _ _ b' zs (b.length : Int) w9 HO9.out.vers HO9.out.peers hnv); rintro e w10 ⟨⟨u1, u2, rfl, hoR⟩, hb10⟩; rw [G5.out]; rw [G6.out] at hoR; obtain ⟨a6, c6, rfl, _⟩ := hoR.vers.opened; obtain ⟨a7, c7, rfl, _⟩ := hoR.peers.opened)
          have S10 := (S9.step hb10).alloc (.cells #[.slice a6 b'.length c6, .slice a7 ys.length c7] 53)
          have V10 := Lib.hid (hoR.vers.stays RVer.stays (below_alloc w10 (.cells #[.slice a6 b'.length c6, .slice a7 ys.length c7] 53)))
          have P10 := Lib.hid (hoR.peers.stays RPeer.stays (below_alloc w10 (.cells #[.slice a6 b'.length c6, .slice a7 ys.length c7] 53)))
          have x0 : (w10.alloc (.cells #[.slice a6 b'.length c6, .slice a7 ys.length c7] 53)).cell? ⟨w10.heap.size, 0, none⟩ = some (.slice a6 b'.length c6) := by go_simp
          have x1 : (w10.alloc (.cells #[.slice a6 b'.length c6, .slice a7 ys.length c7] 53)).cell? ⟨w10.heap.size, 1, none⟩ = some (.slice a7 ys.length c7) := by go_simp
          generalize w10.alloc (.cells #[.slice a6 b'.length c6, .slice a7 ys.length c7] 53) = w11 at *
          clear y0 y1 hoR hb10 HO9
          go_wp2_with (go_at_call 33; go_fit (Blamed_any _ _ b' ys (b.length : Int) w11 V10.out P10.out); rintro e w12 ⟨⟨z2, rfl, hi2, _⟩, hb12⟩; rw [G7.out]; rw [G8.out] at hi2; obtain ⟨a8, c8, ev8, _⟩ := hi2.opened; rw [show ([] : List Int).length = 0 from rfl] at ev8; subst ev8)
          go_ret
          exact ⟨rfl, (S0.step (S10.step hb12).below).below⟩
        · have hfl2 : ((want.length : Int) == (H : Int)) = false := by simp; omega
          have hq0' : ((qs.length : Int) == 0) = false := by rw [beq_eq_false_iff_ne]; omega
          obtain ⟨hk0, hk1⟩ := modV_bd cc (show (1 : Int) ≤ (qs.length : Int) by omega)
          obtain ⟨kk, hkk⟩ := Int.eq_ofNat_of_zero_le hk0
          have hAT := Lib.hid (at_any cc (qs.length : Int) wr j50 j51 (by omega) (by omega))
          have HKK := Lib.hid hkk
          have hkq : kk < qs.length := by omega
          have hkz : kk < zs.length := by omega
          clear hk0 hk1 hkk
          go_upto_region 11 with (go_at_call 16; go_fit hAT.out; rintro e w' ⟨rfl, rfl⟩; rw [HKK.out])
          have hgz := List.getElem?_eq_getElem hkz
          obtain ⟨g, cg2, uu, cu, ev, hg1, hg2, p0, p1, p2, hkp, jr, fz, _, _⟩ := hown.peer (k := kk) (p := zs[kk]) hgz
          simp only [Value.slice.injEq] at ev
          obtain ⟨rfl, hq9, rfl⟩ := ev
          clear hq9
          have HSK := Lib.hid (fun mm y => HSTP.out kk zs[kk] hgz (mm := mm) (y := y))
          generalize hzk : zs[kk] = pz at *
          obtain ⟨t, r, ks⟩ := pz
          simp only at p0 p1 p2 hkp jr
          have HKP := Lib.hid hkp
          clear hkp hzk
          go_upto_region 12 with (go_at_call 30; go_fit (Find_any t r _ ks (b.length : Int) _ HKP.out); rintro e wb ⟨rfl, hbb⟩)
          have S5 := hS.step hbb
          have ho5 := how.stays hbb
          have HO5 := Lib.hid (hown.stays hbb)
          have y0 := below_cell hbb z0
          have y1 := below_cell hbb z1
          have hbl5 : Bx < wb.heap.size := by have := cell_lt y0; simpa using this
          clear z0 z1 p0 p1 p2 w5 d0 d1 d2 hwi hown how hbb HSTP HAUD
          rcases findV_keptAt (b.length : Int) ks 0 with ⟨hn, hf⟩ | ⟨mm, y, hym, hyv, hkeep, hf⟩
          · rw [hf]
            clear hn hf
            go_wp2_with fail
            go_roundw
            case rel => exact ⟨k + 1, want, zs, by omega, by go_num, hWa, hBe, S5, ho5, HO5.out, y0, y1⟩
            case measure => simp [intOf]; omega
          · rw [hf, Nat.zero_add]
            have hmz : ¬ ((mm : Int) < 0) := by omega
            have hmz2 : decide ((mm : Int) < 0) = false := by simp
            have HY := Lib.hid hym
            have HYV := Lib.hid hyv
            have HKE := Lib.hid hkeep
            clear hf hym hyv hkeep
            by_cases hin : (kk : Int) ∈ want
            · have hmem : Hid (memB (kk : Int) want = true) := Lib.hid (by unfold memB; simpa using hin)
              have HI5 := Lib.hid ho5.isInts
              go_wp2_with (go_at_call 21; go_fit (Contains_ints _ want (kk : Int) wb HI5.out); rintro e w' ⟨rfl, rfl⟩; rw [hmem.out])
              go_roundw
              case rel => exact ⟨k + 1, want, zs, by omega, by go_num, hWa, hBe, S5, ho5, HO5.out, y0, y1⟩
              case measure => simp [intOf]; omega
            · have hmem : Hid (memB (kk : Int) want = false) := Lib.hid (by unfold memB; simpa using hin)
              have HI5 := Lib.hid ho5.isInts
              go_upto_region 13 with (go_at_call 21; go_fit (Contains_ints _ want (kk : Int) wb HI5.out); rintro e w' ⟨rfl, rfl⟩; rw [hmem.out])
              obtain ⟨v0, hy0, v00, v01, hWa2, hBe2⟩ := HSK.out mm y HY.out HYV.out HKE.out hin (by omega)
              have hyne : y.2.2 ≠ [] := by intro e; rw [e] at hy0; cases hy0
              have hyl : 0 < y.2.2.length := List.length_pos_iff.2 hyne
              have hmk := (List.getElem?_eq_some_iff.1 HY.out).1
              have hwl : want.length < 17592186044416 := by omega
              obtain ⟨g', cap', gk, ck, gy, cq, ev2, e2, _, _, e3, hval0, fy, hgy1, hgy2, _, _, _, _, hval⟩ := HO5.out.kept (k := kk) (q := mm) (p := (t, r, ks)) (x := y) hgz HY.out hyne
              simp only [Value.slice.injEq, Option.some.injEq, Addr.mk.injEq] at ev2
              obtain ⟨⟨rfl, hq9⟩, hq8, hq7⟩ := ev2
              clear hq9 hq8 hq7
              simp only at e2
              have e4 := (hval0 0 v0 hy0).1
              have f4 := fy 0
              have iz : I64 ((v0 + d) % 31) := ⟨by omega, by omega⟩
              have HOV := Lib.hid (hval 0 _ iz)
              have HWA := Lib.hid hWa2
              have HBE := Lib.hid hBe2
              have hBg : Bx ≠ gy := by omega
              have hgB : gy < Bx := hgy2
              have C1 : Hid (∀ w, Calls Try.prog 16 #[.int .i64 by_, .int .i64 30] w fun e w' => e = .returned (.int .i64 (modV by_ 30)) ∧ w = w') := Lib.hid (fun w => at_any by_ 30 w by0 by1 (by omega) (by omega))
              have hmk2 : (mm : Int) < (ks.length : Int) := by omega
              clear hval hval0 fy hy0 hyne hWa2 hBe2 hgz
              go_upto_region 14 with fail
              have s1 : IntKind.i64.wrap (v0 + 1) = v0 + 1 := IntWalk.i64_in _ (by omega)
              have s2 : IntKind.i64.wrap (v0 + 1 + modV by_ 30) = v0 + 1 + modV by_ 30 := IntWalk.i64_in _ (by omega)
              have s3 : (v0 + 1 + modV by_ 30).tmod 31 = (v0 + d) % 31 := by rw [IntWalk.rem_in _ _ (by omega), hdd]; congr 1; omega
              have y3 : (0 : Int) < (y.2.2.length : Int) := by omega
              generalize modV by_ 30 = mb at *
              generalize (v0 + d) % 31 = z at *
              refine wp_region_still_tail 10 follows_mixedF (by kernel_rfl) ?_
              simp only [List.take_succ_cons, List.take_zero, List.drop_succ_cons, List.drop_zero]
              repeat still_step
              still_call ((C1.out _).mono fun _ _ h => same_symF h)
              repeat still_step
              try refine wpStill_nil ?_
              change wpList _ _ _ _ _ wb.drew
              have f5 : wb.drew.frozen? ⟨gy, 0, none⟩ = false := f4
              have e5 : wb.drew.cell? ⟨gy, 0, none⟩ = some (.int .i64 v0) := e4
              have S9 := (S5.setCell (a := ⟨gy, 0, none⟩) hgy1 (.int .i64 z)).drew
              have BD : Below (wb.setCell ⟨gy, 0, none⟩ (.int .i64 z)).heap.size (wb.setCell ⟨gy, 0, none⟩ (.int .i64 z)) (wb.setCell ⟨gy, 0, none⟩ (.int .i64 z)).drew := (Since.refl _).drew.below
              have ho9 := (ho5.kept (grown_setCell wb ⟨gy, 0, none⟩ (.int .i64 z)) (.inr (fun e => by have := (ho5.1.lt _ e).1; simp at this; omega))).stays BD
              have HO9 := Lib.hid (HOV.out.stays BD)
              have u0 : (wb.setCell ⟨gy, 0, none⟩ (.int .i64 z)).drew.cell? ⟨Bx, 0, none⟩ = some (.slice a1 (b.length + 1) k1) := (cell_set_other _ _ _ _ hBg).trans y0
              have u1 : (wb.setCell ⟨gy, 0, none⟩ (.int .i64 z)).drew.cell? ⟨Bx, 1, none⟩ = some (.slice (some ⟨g, 0, none⟩) qs.length k2) := (cell_set_other _ _ _ _ hBg).trans y1
              have hbl9 : Bx < (wb.setCell ⟨gy, 0, none⟩ (.int .i64 z)).drew.heap.size := by have := cell_lt u0; simpa using this
              have ik : I64 (kk : Int) := ⟨by omega, by omega⟩
              clear BD
              go_upto_region 15 with fail
              clear f5 e5 f4 e4 e2 e3 y0 y1 S5 ho5 HOV hBg hgB hgy1 hgy2
              generalize (wb.setCell ⟨gy, 0, none⟩ (.int .i64 z)).drew = w9 at *
              go_wp2_with (at_builtin; refine wpList_append_int rfl _ _ 24 rfl 3 Try.underlying24 info_int (Bx + 1) _ want rfl (ho9.stays (below_alloc _ _)) ⟨w9.heap.size, 0, none⟩ 1 (kk : Int) rfl (by simp) ik hwl (by simp; omega) ?_; intro v' w10 ho10 hg10)
              have ho9b := ho9.stays (below_alloc w9 (.cells #[.int .i64 (kk : Int)] 3))
              have S10 := (S9.alloc (.cells #[.int .i64 (kk : Int)] 3)).own (ho9b.mono (by omega)) hg10
              have HO10 := (HO9.out.stays (below_alloc w9 (.cells #[.int .i64 (kk : Int)] 3))).frame (Dirty.of_grown hg10) (fun k hk => Or.inr (by have := (ho9b.1.lt _ hk).1; omega))
              have r0 := (Dirty.of_grown hg10).cell (below_cell (below_alloc w9 (.cells #[.int .i64 (kk : Int)] 3)) u0) (fun e => by have := (ho9b.1.lt _ e).1; simp at this; omega)
              have r1 := (Dirty.of_grown hg10).cell (below_cell (below_alloc w9 (.cells #[.int .i64 (kk : Int)] 3)) u1) (fun e => by have := (ho9b.1.lt _ e).1; simp at this; omega)
              go_roundw
              case rel => exact ⟨k + 1, _, _, by omega, by go_num, HWA.out, HBE.out, S10, ho10, HO10, r0, r1⟩
              case measure => simp [intOf]; omega
      · obtain rfl : who.length = k := by omega
        obtain ⟨ay, cy, rfl, _⟩ := how.isInts.opened
        go_upto_region 17 with fail
        obtain ⟨g1, g2, g3, g4, g5, ys, g6, g7, g8⟩ := HAUD.out
        have G1 := Lib.hid g1
        have G2 := Lib.hid g2
        have G3 := Lib.hid g3
        have G4 := Lib.hid g4
        have G5 := Lib.hid g5
        have G6 := Lib.hid g6
        have G7 := Lib.hid g7
        have G8 := Lib.hid g8
        have hnv : I64 (b.length : Int) := ⟨by omega, by omega⟩
        have HSORT := Lib.hid (SortInts_any (Bx + 1) _ want wr how)
        have hbl0 : Bx < wr.heap.size := by have := cell_lt z0; simpa using this
        have HOO := Lib.hid hown
        have HOW := Lib.hid how
        have HYY : Hid (∀ w', wr.grownBy w' (Value.slice ay want.length cy).ownBlock → w'.cell? ⟨Bx, 0, none⟩ = some (.slice a1 (b.length + 1) k1) ∧ w'.cell? ⟨Bx, 1, none⟩ = some (.slice a2 qs.length k2)) := Lib.hid (fun w' q => ⟨(Dirty.of_grown q).cell z0 (fun e => by have := (how.1.lt _ e).1; simp at this; omega), (Dirty.of_grown q).cell z1 (fun e => by have := (how.1.lt _ e).1; simp at this; omega)⟩)
        have HEQ : Hid (eqInts (sortV want) (sortV want) = true) := Lib.hid (by simp [eqInts])
        clear g1 g2 g3 g4 g5 g6 g7 g8 HAUD HSTP hown how
        go_upto_region 18 with (go_at_call 18; go_fit HSORT.out; rintro e w6 ⟨rfl, ho6, hg6⟩; obtain ⟨y0, y1⟩ := HYY.out w6 hg6)
        have S6 := hS.own (HOW.out.mono (by omega)) hg6
        have HO6 := Lib.hid (HOO.out.frame (Dirty.of_grown hg6) (fun k hk => Or.inr (by have := (HOW.out.1.lt _ hk).1; omega)))
        have J6 := Lib.hid ho6.isInts
        clear z0 z1 hg6 ho6 HSORT HOO HOW
        go_upto_region 19 with (go_at_call 33; go_fit (Blamed_any _ _ b' zs (b.length : Int) w6 HO6.out.vers HO6.out.peers); rintro e w7 ⟨⟨z1, rfl, hi1, _⟩, hb7⟩; rw [G3.out]; rw [G4.out] at hi1; obtain ⟨a5, c5, rfl, _⟩ := hi1.opened)
        have y0 := below_cell hb7 y0
        have y1 := below_cell hb7 y1
        have S7 := S6.step hb7
        have HO7 := Lib.hid (HO6.out.stays hb7)
        have J7 := Lib.hid (J6.out.stays hb7)
        have L7 := Lib.hid hi1
        clear hb7 hi1 HO6 J6
        go_upto_region 20 with (go_at_call 34; go_fit (Lacking_any _ b' _ zs (b.length : Int) w7 HO7.out.vers HO7.out.peers); rintro e w8 ⟨rfl, hb8⟩; rw [G1.out, G2.out])
        have y0 := below_cell hb8 y0
        have y1 := below_cell hb8 y1
        have S8 := S7.step hb8
        have HO8 := Lib.hid (HO7.out.stays hb8)
        have J8 := Lib.hid (J7.out.stays hb8)
        have L8 := Lib.hid (L7.out.stays hb8)
        clear hb8 HO7 J7 L7
        go_upto_region 22 with (go_at_call 20; go_fit (Equal_ints _ _ (sortV want) (sortV want) w8 L8.out J8.out); rintro e w9 ⟨rfl, hb9⟩; rw [HEQ.out])
        have y0 := below_cell hb9 y0
        have y1 := below_cell hb9 y1
        have S9 := S8.step hb9
        have HO9 := Lib.hid (HO8.out.stays hb9)
        clear hb9 HO8 J8 L8
        go_upto_region 23 with (go_at_call 35; go_fit (Repair_any _ _ b' zs (b.length : Int) w9 HO9.out.vers HO9.out.peers hnv); rintro e w10 ⟨⟨u1, u2, rfl, hoR⟩, hb10⟩; rw [G5.out]; rw [G6.out] at hoR; obtain ⟨a6, c6, rfl, _⟩ := hoR.vers.opened; obtain ⟨a7, c7, rfl, _⟩ := hoR.peers.opened)
        have S10 := (S9.step hb10).alloc (.cells #[.slice a6 b'.length c6, .slice a7 ys.length c7] 53)
        have V10 := Lib.hid (hoR.vers.stays RVer.stays (below_alloc w10 (.cells #[.slice a6 b'.length c6, .slice a7 ys.length c7] 53)))
        have P10 := Lib.hid (hoR.peers.stays RPeer.stays (below_alloc w10 (.cells #[.slice a6 b'.length c6, .slice a7 ys.length c7] 53)))
        have x0 : (w10.alloc (.cells #[.slice a6 b'.length c6, .slice a7 ys.length c7] 53)).cell? ⟨w10.heap.size, 0, none⟩ = some (.slice a6 b'.length c6) := by go_simp
        have x1 : (w10.alloc (.cells #[.slice a6 b'.length c6, .slice a7 ys.length c7] 53)).cell? ⟨w10.heap.size, 1, none⟩ = some (.slice a7 ys.length c7) := by go_simp
        generalize w10.alloc (.cells #[.slice a6 b'.length c6, .slice a7 ys.length c7] 53) = w11 at *
        clear y0 y1 hoR hb10 HO9
        go_wp2_with (go_at_call 33; go_fit (Blamed_any _ _ b' ys (b.length : Int) w11 V10.out P10.out); rintro e w12 ⟨⟨z2, rfl, hi2, _⟩, hb12⟩; rw [G7.out]; rw [G8.out] at hi2; obtain ⟨a8, c8, ev8, _⟩ := hi2.opened; rw [show ([] : List Int).length = 0 from rfl] at ev8; subst ev8)
        go_ret
        exact ⟨rfl, (S0.step (S10.step hb12).below).below⟩
  · have HQ := Lib.hid (show saveE (b, ps) data [] n o ≠ 0 from hE)
    generalize saveE (b, ps) data [] n o = E at *
    go_enter Try.func9, Try.ntmps9
    go_upto_region 1 with fail
    rw [← HW.out, ← HBl.out, ← HB.out]
    go_wp2_with (first
      | (go_at_call 26; go_fit HS.out; rintro e w1 ⟨⟨u1, u2, rfl, ho1⟩, hb1⟩; obtain ⟨a1, k1, rfl, _⟩ := ho1.vers.opened; obtain ⟨a2, k2, rfl, _⟩ := ho1.peers.opened; have S1 := (S0.step hb1).alloc (.cells #[.slice a1 (saveC (b, ps) data [] n o).1.length k1, .slice a2 (saveC (b, ps) data [] n o).2.length k2] 53))
      | (go_at_call 32; go_fit (judged_any (w1.alloc (.cells #[.slice a1 (saveC (b, ps) data [] n o).1.length k1, .slice a2 (saveC (b, ps) data [] n o).2.length k2] 53))); rintro e w2 ⟨rfl, hb2⟩)
      | (go_at_call 32; go_fit (judged_any w2); rintro e w3 ⟨rfl, hb3⟩))
    go_ret
    exact ⟨rfl, ((S1.step hb2).step hb3).below⟩
end Go.Proofs.Ytnpdojjffbhalaa
