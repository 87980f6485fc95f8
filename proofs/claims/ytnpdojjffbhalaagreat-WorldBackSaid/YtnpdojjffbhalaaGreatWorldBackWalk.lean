/-
  Who goes and comes again is as they were; who is bent as often as there are numbers is, too. (Printed by wip/tools/mkback.py; what a closed fact answers is given as a contract.)
-/
import Derived.Test.YtnpdojjffbhalaaGreatDoAny
import Derived.Test.YtnpdojjffbhalaaGreatBackDo
import Derived.Test.YtnpdojjffbhalaaGreatBox
import Derived.Test.YtnpdojjffbhalaaGreatReadMesh
import Derived.Test.YtnpdojjffbhalaaGreatSames
import Derived.Test.YtnpdojjffbhalaaGreatVotes
namespace Go.Proofs.YtnpdojjffbhalaaGreat
open Go.RowKit

theorem BoxM.orig {D : Nat → Prop} {w : World} {v1 v2 : Value} {m : Me} (h1 : IsVers w v1 m.1) (h2 : IsPeers w v2 m.2) (hD : ∀ k, D k → w.heap.size ≤ k) : BoxM D w v1 v2 m := fun _ hw =>
  have h := hw.mono (D' := fun _ => False) (fun k hk hd => by have := hD k hd; omega)
  ⟨h1.later RVer.stays h, h2.later RPeer.stays h⟩
theorem BoxM.weak {D D' : Nat → Prop} {w : World} {v1 v2 : Value} {m : Me} (h : BoxM D w v1 v2 m) (hD : ∀ k, D' k → D k) : BoxM D' w v1 v2 m := fun w' hw => h w' (hw.mono fun k _ hk => hD k hk)

set_option linter.unusedSimpArgs false in
set_option maxRecDepth 100000 in
set_option maxHeartbeats 8000000 in
theorem WorldBack_walk (hdn : ∀ W, Calls Tryz.prog 6 #[] W fun e w' => e = .returned (.bool true) ∧ Below W.heap.size W w') (vm : Value) (m : Me) (vk : Value) (k : Int) (vi : Value) (i : Int) (W : World) (hm : IsMesh W vm m) (hk : IsInt vk k) (hi : IsInt vi i) :
    Calls Tryz.prog 4 #[vm, vk, vi] W fun e w' => e = .returned (.bool true) ∧ Below W.heap.size W w' := by
  obtain ⟨vb, u, rfl, hb, hu⟩ := hm
  obtain ⟨rfl, hk0, hk1⟩ := hk
  obtain ⟨rfl, hi0, hi1⟩ := hi
  obtain ⟨b, ps⟩ := m
  simp only at hb hu
  obtain ⟨a, c, rfl, hcb, ⟨hbm, hbc, _⟩, _⟩ := hb.opened
  obtain ⟨a', c', rfl, hcu, ⟨hum, huc, _⟩, _⟩ := hu.opened
  have HT := Lib.hid hdn
  clear hdn
  have S0 := (Since.refl W).alloc (.cells #[.slice a b.length c, .slice a' ps.length c'] 27)
  have hb0 := hb.stays RVer.stays S0.below
  have hu0 := hu.stays RPeer.stays S0.below
  have c0 : (W.alloc (.cells #[.slice a b.length c, .slice a' ps.length c'] 27)).cell? ⟨W.heap.size, 0, none⟩ = some (.slice a b.length c) := by go_simp
  have c1 : (W.alloc (.cells #[.slice a b.length c, .slice a' ps.length c'] 27)).cell? ⟨W.heap.size, 1, none⟩ = some (.slice a' ps.length c') := by go_simp
  clear hb hu
  go_enter Tryz.func4, Tryz.ntmps4
  go_upto_region 1 with fail
  generalize W.alloc (.cells #[.slice a b.length c, .slice a' ps.length c'] 27) = w0 at *
  obtain ⟨B, hB⟩ : ∃ B, B = W.heap.size := ⟨_, rfl⟩
  rw [← hB] at c0 c1 ⊢
  clear hB
  have HF : Hid (∀ w', Since w0.heap.size w0 w' → w'.cell? ⟨B, 0, none⟩ = some (.slice a b.length c) ∧ w'.cell? ⟨B, 1, none⟩ = some (.slice a' ps.length c') ∧ IsVers w' (.slice a b.length c) b ∧ IsPeers w' (.slice a' ps.length c') ps) := Lib.hid (fun w' q => ⟨below_cell q.below c0, below_cell q.below c1, hb0.stays RVer.stays q.below, hu0.stays RPeer.stays q.below⟩)
  clear hb0 hu0 c0 c1
  by_cases h0 : meshV (b, ps) = 0
  · have HM0 := Lib.hid h0
    by_cases hz : ps = []
    · subst hz
      have hl0 : ([] : List Pr).length = 0 := rfl
      rw [hl0] at *
      clear h0
      go_upto_region 2 with (first | (go_at_call 6; go_fit (HT.out w0); rintro e w1 ⟨rfl, hb1⟩; obtain ⟨d0, d1, hv1, hp1⟩ := HF.out w1 ((Since.refl w0).step hb1)) | (go_at_call 7; go_fit (meshCheck_any _ b _ [] w1 hv1 hp1); rintro e w2 ⟨rfl, hb2⟩; rw [HM0.out]; obtain ⟨d2, d3, hv2, hp2⟩ := HF.out w2 (((Since.refl w0).step hb1).step hb2)))
      clear d0 d1 d2 d3 hv1 hp1 hv2 hp2
      go_wp2_with (go_at_call 6; go_fit (HT.out _); rintro e w3 ⟨rfl, hb3⟩)
      go_ret
      exact ⟨rfl, (((S0.step hb1).step hb2).step hb3).below⟩
    · have hz0 : 0 < ps.length := List.length_pos_iff.2 hz
      have hzI : ((ps.length : Int) == 0) = false := by simp; omega
      have hp8 : ps.length ≤ 8 := (placeV_ok.1 h0).2.1
      clear hz
      go_upto_region 3 with (first | (go_at_call 6; go_fit (HT.out w0); rintro e w1 ⟨rfl, hb1⟩; obtain ⟨d0, d1, hv1, hp1⟩ := HF.out w1 ((Since.refl w0).step hb1)) | (go_at_call 7; go_fit (meshCheck_any _ b _ ps w1 hv1 hp1); rintro e w2 ⟨rfl, hb2⟩; rw [HM0.out]; obtain ⟨d2, d3, hv2, hp2⟩ := HF.out w2 (((Since.refl w0).step hb1).step hb2)))
      have T2 := ((Since.refl w0).step hb1).step hb2
      obtain ⟨hk2, hk3⟩ := modV_bd k (show (1 : Int) ≤ (ps.length : Int) by omega)
      obtain ⟨kk, hkk⟩ := Int.eq_ofNat_of_zero_le hk2
      have hAT := Lib.hid (at_any k (ps.length : Int) w2 hk0 hk1 (by omega) (by omega))
      have HKK := Lib.hid hkk
      have hkp : kk < ps.length := by omega
      have hik : I64 (kk : Int) := ⟨by omega, by omega⟩
      clear hk2 hk3 hkk d0 d1 hv1 hp1 hb1 hb2 h0
      go_upto_region 4 with (go_at_call 10; go_fit hAT.out; rintro e w' ⟨rfl, rfl⟩; rw [HKK.out])
      clear d2 d3
      have hget := List.getElem?_eq_getElem hkp
      obtain ⟨g, off, uu, cu, rfl, p0, p1, p2, hkp2, jr⟩ := peer_at hp2 hget
      have HGT := Lib.hid hget
      clear hget
      generalize ps[kk] = p at *
      obtain ⟨t, r, ks⟩ := p
      simp only at p0 p1 p2 hkp2 jr
      have HPC : Hid (∀ w', Since w2.heap.size w2 w' → w'.cell? ⟨g, off + kk * 3, none⟩ = some (.bool t) ∧ w'.cell? ⟨g, off + kk * 3 + 2, none⟩ = some (.slice uu ks.length cu) ∧ w'.cell? ⟨B, 0, none⟩ = some (.slice a b.length c) ∧ w'.cell? ⟨B, 1, none⟩ = some (.slice (some ⟨g, off, none⟩) ps.length c') ∧ IsVers w' (.slice a b.length c) b ∧ IsPeers w' (.slice (some ⟨g, off, none⟩) ps.length c') ps) := Lib.hid (fun w' q => by
        obtain ⟨r1, r2, r3, r4⟩ := HF.out w' ⟨T2.below.trans (q.below.mono T2.2), Nat.le_trans T2.2 q.2⟩
        exact ⟨below_cell q.below p0, below_cell q.below p2, r1, r2, r3, r4⟩)
      have HTD : Hid (∀ j, doE (turnM b ps kk (t, r, ks) j) (turnK t j, (kk : Int), 0, [], [], 0, 0) = 0 ∧ doC (turnM b ps kk (t, r, ks) j) (turnK t j, (kk : Int), 0, [], [], 0, 0) = turnM b ps kk (t, r, ks) (j + 1) ∧ turnM b ps kk (t, r, ks) j ≠ turnM b ps kk (t, r, ks) (j + 1)) := Lib.hid (turn_do HM0.out HGT.out)
      have HTE : Hid (turnM b ps kk (t, r, ks) 0 = (b, ps) ∧ turnM b ps kk (t, r, ks) 2 = (b, ps)) := Lib.hid (turn_ends HGT.out)
      have hin0 : I64 0 := ⟨by omega, by omega⟩
      clear p0 p1 p2 hkp2 jr hv2 hp2 HF
      have T3 := (Since.refl w2).alloc (.cells #[.int .i64 2, .int .i64 3] 3)
      have hi3 : Hid (IsInts (w2.alloc (.cells #[.int .i64 2, .int .i64 3] 3)) (.slice (some ⟨w2.heap.size, 0, none⟩) 2 2) [2, 3]) := Lib.hid (IsInts.fresh w2 3 [2, 3] (by decide) (wfNums _ (by decide)) _ rfl)
      go_upto_region 5 with fail
      generalize w2.alloc (.cells #[.int .i64 2, .int .i64 3] 3) = w4 at *
      obtain ⟨x0, x1, x2, x3, _, _⟩ := HPC.out w4 T3
      generalize (some (⟨w2.heap.size, 0, none⟩ : Addr)) = at7 at *
      go_cut [41] (fun s41 wx => s41 = .bool (!t) ∧ w4 = wx)
      case first =>
        go_wp2_with fail
        go_meet
        exact ⟨rfl, rfl⟩
      case rest =>
        obtain ⟨rfl, rfl⟩ := hcut
        apply_assumption
        go_cut [7] (fun s7 wx => ∃ (a2 : Option Addr) (c2 : Nat), s7 = .slice a2 2 c2 ∧ IsInts wx (.slice a2 2 c2) [turnK t 0, turnK t 1] ∧ ∃ wz, wz = wx ∧ Since w4.heap.size w4 wx)
        case first =>
          cases t with
          | true =>
            go_wp2_with fail
            go_meet
            exact ⟨_, _, rfl, hi3.out, _, rfl, Since.refl _⟩
          | false =>
            have hi5 : Hid (IsInts (w4.alloc (.cells #[.int .i64 3, .int .i64 2] 3)) (.slice (some ⟨w4.heap.size, 0, none⟩) 2 2) [3, 2]) := Lib.hid (IsInts.fresh w4 3 [3, 2] (by decide) (wfNums _ (by decide)) _ rfl)
            go_wp2_with fail
            go_meet
            exact ⟨_, _, rfl, hi5.out, _, rfl, (Since.refl w4).alloc _⟩
        case rest =>
          obtain ⟨a2, c2, rfl, hti, w6, rfl, hS6⟩ := hcut
          have T6 := T3.step hS6.below
          clear x0 x1 x2 x3 hi3 hS6
          obtain ⟨x0, x1, x2, x3, x4, x5⟩ := HPC.out w6 T6
          have HTI : Hid (∀ w', Since w6.heap.size w6 w' → IsInts w' (.slice a2 2 c2) [turnK t 0, turnK t 1]) := Lib.hid (fun w' q => hti.stays q.below)
          have BM7 := below_alloc w6 (.cells #[.slice a b.length c, .slice (some ⟨g, off, none⟩) ps.length c'] 27)
          have S7 := (Since.refl w6).alloc (.cells #[.slice a b.length c, .slice (some ⟨g, off, none⟩) ps.length c'] 27)
          have HB7 := Lib.hid ((BoxM.orig (D := fun j => j = w6.heap.size) (m := (b, ps)) x4 x5 (fun k hk => Nat.le_of_eq hk.symm)).stays BM7)
          have z0 : (w6.alloc (.cells #[.slice a b.length c, .slice (some ⟨g, off, none⟩) ps.length c'] 27)).cell? ⟨w6.heap.size, 0, none⟩ = some (.slice a b.length c) := by go_simp
          have z1 : (w6.alloc (.cells #[.slice a b.length c, .slice (some ⟨g, off, none⟩) ps.length c'] 27)).cell? ⟨w6.heap.size, 1, none⟩ = some (.slice (some ⟨g, off, none⟩) ps.length c') := by go_simp
          have z2 : ∀ j, (w6.alloc (.cells #[.slice a b.length c, .slice (some ⟨g, off, none⟩) ps.length c'] 27)).frozen? ⟨w6.heap.size, j, none⟩ = false := by intro j; go_simp
          have hz7 : w6.heap.size < (w6.alloc (.cells #[.slice a b.length c, .slice (some ⟨g, off, none⟩) ps.length c'] 27)).heap.size := by simp
          clear hti x4 x5
          go_upto_region 8 with fail
          clear x0 x1 x2 x3
          generalize w6.alloc (.cells #[.slice a b.length c, .slice (some ⟨g, off, none⟩) ps.length c'] 27) = w7 at *
          obtain ⟨B8, hB8⟩ : ∃ B8, B8 = w6.heap.size := ⟨_, rfl⟩
          have hB6 : w6.heap.size ≤ B8 := Nat.le_of_eq hB8.symm
          rw [← hB8] at HB7 z0 z1 z2 hz7 ⊢
          clear hB8 BM7
          go_wp2_with fail
          go_loopw [46] (fun i wr => ∃ (j : Nat) (x1 : Option Addr) (n1 q1 : Nat) (x2 : Option Addr) (n2 q2 : Nat), j ≤ 2 ∧ i = .int .i64 j ∧ Since w6.heap.size w6 wr ∧ w7.heap.size ≤ wr.heap.size ∧ BoxM (fun j => j = B8) wr (.slice x1 n1 q1) (.slice x2 n2 q2) (turnM b ps kk (t, r, ks) j) ∧ (wr.cell? ⟨B8, 0, none⟩ = some (.slice x1 n1 q1) ∧ wr.cell? ⟨B8, 1, none⟩ = some (.slice x2 n2 q2) ∧ ∀ j, wr.frozen? ⟨B8, j, none⟩ = false)) (fun i _ => 2 - (intOf i).toNat)
          case atStart => exact ⟨0, _, _, _, _, _, _, by omega, rfl, S7, Nat.le_refl _, by rw [HTE.out.1]; exact HB7.out, z0, z1, z2⟩
          case round =>
            obtain ⟨j, x1, n1, q1, x2, n2, q2, hj, rfl, hS, hsz, hbox, y0, y1', HZ⟩ := hrel
            clear z0 z1 z2 HB7
            have hBr : B8 < wr.heap.size := Nat.lt_of_lt_of_le hz7 hsz
            by_cases hlt : j < 2
            · have hjI : (j : Int) < 2 := by omega
              have hgj : [turnK t 0, turnK t 1][j]? = some (turnK t j) := by
                rcases (by omega : j = 0 ∨ j = 1) with rfl | rfl <;> rfl
              obtain ⟨gt, ot, eat, hct, hki⟩ := ints_at (HTI.out wr hS) hgj
              subst eat
              have HTJ := Lib.hid (HTD.out j)
              have HBX := Lib.hid hbox
              have HZ8' := Lib.hid HZ
              clear hgj hbox HZ
              generalize turnK t j = kd at *
              generalize hYY : turnM b ps kk (t, r, ks) (j + 1) = YY at *
              have HYE := Lib.hid hYY
              clear hYY
              generalize turnM b ps kk (t, r, ks) j = XX at *
              obtain ⟨xb, xp⟩ := XX
              obtain ⟨hxv, hxp⟩ := HBX.out.now
              have HDO := Lib.hid (Do_any _ _ _ _ xb xp kd kk 0 [] [] 0 0 wr hxv hxp (IsInts.nil _) (IsInts.nil _) hik hin0 hin0 hin0)
              rw [HTJ.out.1, HTJ.out.2.1] at HDO
              have HNE : Hid (meEq (xb, xp) YY = false) := Lib.hid (by
                cases hq : meEq (xb, xp) YY with
                | false => rfl
                | true => exact absurd ((meEq_iff _ _).1 hq) HTJ.out.2.2)
              clear hxv hxp HTJ
              go_upto_region 11 with fail
              clear hct hki
              go_upto_region 12 with (go_at_call 5; go_fit HDO.out; rintro e w5 ⟨⟨u1, u2, rfl, ho5⟩, hb5⟩; obtain ⟨y1, e1, rfl, _⟩ := ho5.vers.opened; obtain ⟨y2, e2, rfl, _⟩ := ho5.peers.opened)
              have BN := below_alloc w5 (.cells #[.slice y1 YY.1.length e1, .slice y2 YY.2.length e2] 27)
              have S6' := (hS.step hb5).alloc (.cells #[.slice y1 YY.1.length e1, .slice y2 YY.2.length e2] 27)
              have B56 := hb5.trans (BN.mono hb5.size)
              have HYB := Lib.hid (BoxM.of (ho5.toT.stays BN) (D := fun j => j = B8) (fun k hk => Or.inl (by rw [hk]; exact ⟨hBr, hBr⟩)))
              have HXB := Lib.hid (HBX.out.stays B56)
              have v0 : (w5.alloc (.cells #[.slice y1 YY.1.length e1, .slice y2 YY.2.length e2] 27)).cell? ⟨w5.heap.size, 0, none⟩ = some (.slice y1 YY.1.length e1) := by go_simp
              have v1 : (w5.alloc (.cells #[.slice y1 YY.1.length e1, .slice y2 YY.2.length e2] 27)).cell? ⟨w5.heap.size, 1, none⟩ = some (.slice y2 YY.2.length e2) := by go_simp
              have y0 := below_cell B56 y0
              have y1' := below_cell B56 y1'
              have HZ7 := Lib.hid (fun j => (B56.frozen (p := ⟨B8, j, none⟩) hBr).trans (HZ8'.out j))
              have hs5 : w7.heap.size ≤ (w5.alloc (.cells #[.slice y1 YY.1.length e1, .slice y2 YY.2.length e2] 27)).heap.size := Nat.le_trans hsz B56.size
              have hB5 : B8 < (w5.alloc (.cells #[.slice y1 YY.1.length e1, .slice y2 YY.2.length e2] 27)).heap.size := Nat.lt_of_lt_of_le hz7 hs5
              clear ho5 hb5 BN B56 HDO HBX HZ8'
              generalize YY.1.length = l1 at *
              generalize YY.2.length = l2 at *
              generalize w5.alloc (.cells #[.slice y1 l1 e1, .slice y2 l2 e2] 27) = w6' at *
              generalize w5.heap.size = B11 at *
              obtain ⟨hxv, hxp⟩ := HXB.out.now
              obtain ⟨hyv, hyp⟩ := HYB.out.now
              go_upto_region 14 with (go_at_call 11; go_fit (Same_mesh _ _ _ _ (xb, xp) YY _ hxv hxp hyv hyp); rintro e w8 ⟨rfl, hb8⟩; rw [HNE.out])
              have S8 := S6'.step hb8
              have v0 := below_cell hb8 v0
              have v1 := below_cell hb8 v1
              have y0 := below_cell hb8 y0
              have y1' := below_cell hb8 y1'
              have HZ8 := Lib.hid (fun j => (hb8.frozen (p := ⟨B8, j, none⟩) hB5).trans (HZ7.out j))
              have HY8 := Lib.hid (HYB.out.stays hb8)
              have hs8 : w7.heap.size ≤ w8.heap.size := Nat.le_trans hs5 hb8.size
              have zz0 := HZ8.out 0
              have zz1 := HZ8.out 1
              clear hxv hxp hyv hyp HXB HYB hb8
              have S9 := (S8.setCell (a := ⟨B8, 0, none⟩) hB6 (.slice y1 l1 e1)).setCell (a := ⟨B8, 1, none⟩) hB6 (.slice y2 l2 e2)
              have hd9 : Dirty (fun j => j = B8) w8 ((w8.setCell ⟨B8, 0, none⟩ (.slice y1 l1 e1)).setCell ⟨B8, 1, none⟩ (.slice y2 l2 e2)) := (Dirty.of_grown ((grown_setCell w8 ⟨B8, 0, none⟩ (.slice y1 l1 e1)).trans (grown_setCell _ ⟨B8, 1, none⟩ (.slice y2 l2 e2)))).mono fun j _ hj => by cases hj; rfl
              have HY9 := Lib.hid (HY8.out.later hd9)
              have hs9 : w7.heap.size ≤ ((w8.setCell ⟨B8, 0, none⟩ (.slice y1 l1 e1)).setCell ⟨B8, 1, none⟩ (.slice y2 l2 e2)).heap.size := by simpa using hs8
              have u0 : ((w8.setCell ⟨B8, 0, none⟩ (.slice y1 l1 e1)).setCell ⟨B8, 1, none⟩ (.slice y2 l2 e2)).cell? ⟨B8, 0, none⟩ = some (.slice y1 l1 e1) := by go_simp
              have u1 : ((w8.setCell ⟨B8, 0, none⟩ (.slice y1 l1 e1)).setCell ⟨B8, 1, none⟩ (.slice y2 l2 e2)).cell? ⟨B8, 1, none⟩ = some (.slice y2 l2 e2) := by go_simp
              have u2 : ∀ j, ((w8.setCell ⟨B8, 0, none⟩ (.slice y1 l1 e1)).setCell ⟨B8, 1, none⟩ (.slice y2 l2 e2)).frozen? ⟨B8, j, none⟩ = false := fun j => by rw [World.frozen?_setCell, World.frozen?_setCell]; exact HZ8.out j
              have HU := Lib.hid (And.intro u0 (And.intro u1 u2))
              clear u2
              go_upto_region 15 with fail
              clear u0 u1
              generalize (w8.setCell ⟨B8, 0, none⟩ (.slice y1 l1 e1)).setCell ⟨B8, 1, none⟩ (.slice y2 l2 e2) = w9 at *
              go_wp2_with fail
              go_roundw
              case rel => exact ⟨j + 1, _, _, _, _, _, _, by omega, by go_num, S9, hs9, by rw [HYE.out]; exact HY9.out, HU.out⟩
              case measure => simp [intOf]; omega
            · obtain rfl : j = 2 := by omega
              rw [HTE.out.2] at hbox
              obtain ⟨hxv, hxp⟩ := hbox.now
              have U := T6.step hS.below
              obtain ⟨x0', x1', d0, d1, hv1, hp1⟩ := HPC.out wr U
              have HME : Hid (meEq (b, ps) (b, ps) = true) := Lib.hid ((meEq_iff _ _).2 rfl)
              clear x0' x1'
              go_upto_region 18 with (go_at_call 11; go_fit (Same_mesh _ _ _ _ (b, ps) (b, ps) wr hxv hxp hv1 hp1); rintro e w10 ⟨rfl, hb10⟩; rw [HME.out])
              have S10 := hS.step hb10
              have hs10 : w7.heap.size ≤ w10.heap.size := Nat.le_trans hsz hb10.size
              have HZ10 := Lib.hid (fun j => (hb10.frozen (p := ⟨B8, j, none⟩) hBr).trans (HZ j))
              have HB10 := Lib.hid (hbox.stays hb10)
              have y0 := below_cell hb10 y0
              have y1' := below_cell hb10 y1'
              clear hxv hxp d0 d1 hv1 hp1 hbox HZ HTI HTD
              obtain ⟨x0', x1', d0, d1, _, _⟩ := HPC.out w10 (U.step hb10)
              by_cases hks : ks = []
              · subst hks
                have hl0 : ([] : List Kp).length = 0 := rfl
                rw [hl0] at *
                go_wp2_with fail
                go_ret
                exact ⟨rfl, (S0.step (T2.step (T6.step S10.below).below).below).below⟩
              · have hkl0 : 0 < ks.length := List.length_pos_iff.2 hks
                have hkl20 : ks.length ≤ 20 := by
                  have h1 := ((placeV_ok.1 HM0.out).2.2 _ (List.mem_of_getElem? HGT.out)).few
                  have h2 := ((placeV_ok.1 HM0.out).2.2 _ (List.mem_of_getElem? HGT.out)).room
                  simp only at h1 h2
                  omega
                have hksI : ((ks.length : Int) == 0) = false := by simp; omega
                obtain ⟨hi2, hi3⟩ := modV_bd i (show (1 : Int) ≤ (ks.length : Int) by omega)
                obtain ⟨q, hqq⟩ := Int.eq_ofNat_of_zero_le hi2
                have HQQ := Lib.hid hqq
                have hql : q < ks.length := by omega
                have hiq : I64 (q : Int) := ⟨by omega, by omega⟩
                have HBD : Hid (∀ j, doE (bentM b ps kk (t, r, ks) q j) (5, (kk : Int), (q : Int), [], [], 0, 0) = 0 ∧ doC (bentM b ps kk (t, r, ks) q j) (5, (kk : Int), (q : Int), [], [], 0, 0) = bentM b ps kk (t, r, ks) q (j + 1) ∧ bentM b ps kk (t, r, ks) q j ≠ bentM b ps kk (t, r, ks) q (j + 1)) := Lib.hid (bent_do HM0.out HGT.out hql)
                have HBE : Hid (bentM b ps kk (t, r, ks) q 0 = (b, ps) ∧ bentM b ps kk (t, r, ks) q 31 = (b, ps)) := Lib.hid (bent_ends HM0.out HGT.out hql)
                clear hi2 hi3 hqq hks
                go_wp2_with fail
                clear x0' x1' d0 d1
                go_loopw [79] (fun i wr => ∃ (j : Nat) (x1 : Option Addr) (n1 q1 : Nat) (x2 : Option Addr) (n2 q2 : Nat), j ≤ 31 ∧ i = .int .i64 j ∧ Since w6.heap.size w6 wr ∧ w7.heap.size ≤ wr.heap.size ∧ BoxM (fun j => j = B8) wr (.slice x1 n1 q1) (.slice x2 n2 q2) (bentM b ps kk (t, r, ks) q j) ∧ (wr.cell? ⟨B8, 0, none⟩ = some (.slice x1 n1 q1) ∧ wr.cell? ⟨B8, 1, none⟩ = some (.slice x2 n2 q2) ∧ ∀ j, wr.frozen? ⟨B8, j, none⟩ = false)) (fun i _ => 31 - (intOf i).toNat)
                case atStart => exact ⟨0, _, _, _, _, _, _, by omega, rfl, S10, hs10, by rw [HBE.out.1]; exact HB10.out, y0, y1', HZ10.out⟩
                case round =>
                  rename_i wr
                  obtain ⟨j, x1, n1, q1, x2, n2, q2, hj, rfl, hS, hsz, hbox, y0, y1', HZ⟩ := hrel
                  have hBr : B8 < wr.heap.size := Nat.lt_of_lt_of_le hz7 hsz
                  have U := T6.step hS.below
                  obtain ⟨k0, k2, d0, d1, hv1, hp1⟩ := HPC.out wr U
                  by_cases hlt : j < 31
                  · have hjI : (j : Int) < 31 := by omega
                    have hkI : (kk : Int) < (ps.length : Int) := by omega
                    have hkI0 : (0 : Int) ≤ (kk : Int) := by omega
                    have HBJ := Lib.hid (HBD.out j)
                    have HBX := Lib.hid hbox
                    clear hbox
                    generalize hYY : bentM b ps kk (t, r, ks) q (j + 1) = YY at *
                    have HYE := Lib.hid hYY
                    clear hYY
                    generalize bentM b ps kk (t, r, ks) q j = XX at *
                    obtain ⟨xb, xp⟩ := XX
                    have HDO : Hid (∀ w, Below wr.heap.size wr w → Calls Tryz.prog 5 #[.agg #[.slice x1 n1 q1, .slice x2 n2 q2], .agg #[.int .i64 5, .int .i64 kk, .int .i64 q, .slice none 0 0, .slice none 0 0, .int .i64 0, .int .i64 0]] w fun e w' => (∃ u1 u2, e = .returned (.tuple #[.agg #[u1, u2], .int .i64 0]) ∧ OwnM (fun k => k < w.heap.size) w' w.heap.size u1 u2 YY) ∧ Below w.heap.size w w') := Lib.hid (fun w hw => by
                      have h := Do_any _ _ _ _ xb xp 5 kk q [] [] 0 0 w (HBX.out.stays hw).now.1 (HBX.out.stays hw).now.2 (IsInts.nil _) (IsInts.nil _) hik hiq hin0 hin0
                      rw [HBJ.out.1, HBJ.out.2.1] at h
                      exact h)
                    have HNE : Hid (meEq (xb, xp) YY = false) := Lib.hid (by
                      cases hq : meEq (xb, xp) YY with
                      | false => rfl
                      | true => exact absurd ((meEq_iff _ _).1 hq) HBJ.out.2.2)
                    have hAT2 := Lib.hid (fun w => at_any i (ks.length : Int) w hi0 hi1 (by omega) (by omega))
                    have HSS : Hid (∀ w', Below wr.heap.size wr w' → w'.cell? ⟨B8, 0, none⟩ = some (.slice x1 n1 q1) ∧ w'.cell? ⟨B8, 1, none⟩ = some (.slice x2 n2 q2) ∧ w'.cell? ⟨B, 1, none⟩ = some (.slice (some ⟨g, off, none⟩) ps.length c') ∧ w'.cell? ⟨g, off + kk * 3 + 2, none⟩ = some (.slice uu ks.length cu)) := Lib.hid (fun w' h => ⟨below_cell h y0, below_cell h y1', below_cell h d1, below_cell h k2⟩)
                    have HZr := Lib.hid HZ
                    clear HZ HBJ
                    go_upto_region 22 with fail
                    clear y0 y1' k0 k2 d0 d1 hv1 hp1
                    have hdr : Below wr.heap.size wr wr.drew := ((Since.refl wr).drew).below
                    have hH := HSS.out _ hdr
                    go_cut [13, 14] (fun s13 s14 wx => s14 = .int .i64 0 ∧ ∃ (g9 : Nat) (y1 : Option Addr) (l1 e1 : Nat) (y2 : Option Addr) (l2 e2 : Nat), s13 = .pointer (some ⟨g9, 0, none⟩) ∧ ∃ wz, wz = wx ∧ Since wr.heap.size wr wz ∧ wz.cell? ⟨g9, 0, none⟩ = some (.slice y1 l1 e1) ∧ wz.cell? ⟨g9, 1, none⟩ = some (.slice y2 l2 e2) ∧ BoxM (fun j => j = B8) wz (.slice y1 l1 e1) (.slice y2 l2 e2) YY)
                    case first =>
                      refine wp_region_held_drew (S := fun w' => w'.cell? ⟨B8, 0, none⟩ = some (.slice x1 n1 q1) ∧ w'.cell? ⟨B8, 1, none⟩ = some (.slice x2 n2 q2) ∧ w'.cell? ⟨B, 1, none⟩ = some (.slice (some ⟨g, off, none⟩) ps.length c') ∧ w'.cell? ⟨g, off + kk * 3 + 2, none⟩ = some (.slice uu ks.length cu)) (by kernel_rfl) hH (fun _ => ?_)
                      refine wpAnyH_take (i := 0) (v := ?v0) rfl (by kernel_rfl) (by kernel_rfl) (by kernel_rfl) (fun _ _ _ h => h) (Or.inl ⟨by rfl, ?hy0⟩) (by assumption) ?r0
                      case hy0 => (intro w hSw; (try dsimp only at hSw); go_simp <;> with_reducible rfl)
                      simp only [Act.put, List.setIfInBounds_toArray, List.set_cons_zero, List.set_cons_succ]
                      refine wpAnyH_take (i := 1) (v := ?v1) rfl (by kernel_rfl) (by kernel_rfl) (by kernel_rfl) (fun _ _ _ h => h) (Or.inl ⟨by rfl, ?hy1⟩) (by assumption) ?r1
                      case hy1 => (intro w hSw; (try dsimp only at hSw); go_simp <;> with_reducible rfl)
                      simp only [Act.put, List.setIfInBounds_toArray, List.set_cons_zero, List.set_cons_succ]
                      refine wpAnyH_take (i := 2) (v := ?v2) rfl (by kernel_rfl) (by kernel_rfl) (by kernel_rfl) (fun _ _ _ h => h) (Or.inl ⟨by rfl, ?hy2⟩) (by assumption) ?r2
                      case hy2 => (intro w hSw; (try dsimp only at hSw); go_simp <;> with_reducible rfl)
                      simp only [Act.put, List.setIfInBounds_toArray, List.set_cons_zero, List.set_cons_succ]
                      refine wpAnyH_take (i := 3) (v := ?v3) rfl (by kernel_rfl) (by kernel_rfl) (by kernel_rfl) (fun _ _ _ h => h) (Or.inl ⟨by rfl, ?hy3⟩) (by assumption) ?r3
                      case hy3 => (intro w hSw; (try dsimp only at hSw); go_simp <;> with_reducible rfl)
                      simp only [Act.put, List.setIfInBounds_toArray, List.set_cons_zero, List.set_cons_succ]
                      refine wpAnyH_take (i := 4) (v := ?v4) rfl (by kernel_rfl) (by kernel_rfl) (by kernel_rfl) (fun _ _ _ h => h) (Or.inl ⟨by rfl, ?hy4⟩) (by assumption) ?r4
                      case hy4 => (intro w hSw; (try dsimp only at hSw); go_simp <;> with_reducible rfl)
                      simp only [Act.put, List.setIfInBounds_toArray, List.set_cons_zero, List.set_cons_succ]
                      refine wpAnyH_take (i := 5) (v := ?v5) rfl (by kernel_rfl) (by kernel_rfl) (by kernel_rfl) (fun _ _ _ h => h) (Or.inl ⟨by rfl, ?hy5⟩) (by assumption) ?r5
                      case hy5 => (intro w hSw; (try dsimp only at hSw); go_simp <;> with_reducible rfl)
                      simp only [Act.put, List.setIfInBounds_toArray, List.set_cons_zero, List.set_cons_succ]
                      refine wpAnyH_take (i := 6) (v := ?v6) rfl (by kernel_rfl) (by kernel_rfl) (by kernel_rfl) (fun _ _ _ h => h) (Or.inl ⟨by rfl, ?hy6⟩) (by assumption) ?r6
                      case hy6 => (intro w hSw; (try dsimp only at hSw); go_simp <;> with_reducible rfl)
                      simp only [Act.put, List.setIfInBounds_toArray, List.set_cons_zero, List.set_cons_succ]
                      refine wpAnyH_take (i := 7) (v := ?v7) rfl (by kernel_rfl) (by kernel_rfl) (by kernel_rfl) (fun _ _ _ h => h) (Or.inl ⟨by rfl, ?hy7⟩) (by assumption) ?r7
                      case hy7 => (intro w hSw; (try dsimp only at hSw); go_simp <;> with_reducible rfl)
                      simp only [Act.put, List.setIfInBounds_toArray, List.set_cons_zero, List.set_cons_succ]
                      refine wpAnyH_take (i := 8) (v := ?v8) rfl (by kernel_rfl) (by kernel_rfl) (by kernel_rfl) (fun _ _ _ h => h) (Or.inl ⟨by rfl, ?hy8⟩) (by assumption) ?r8
                      case hy8 => (intro w hSw; (try dsimp only at hSw); go_simp <;> with_reducible rfl)
                      simp only [Act.put, List.setIfInBounds_toArray, List.set_cons_zero, List.set_cons_succ]
                      refine wpAnyH_take (i := 9) (v := ?v9) rfl (by kernel_rfl) (by kernel_rfl) (by kernel_rfl) (fun _ _ _ h => h) (Or.inl ⟨by rfl, ?hy9⟩) (by assumption) ?r9
                      case hy9 => (intro w hSw; (try dsimp only at hSw); go_simp <;> with_reducible rfl)
                      simp only [Act.put, List.setIfInBounds_toArray, List.set_cons_zero, List.set_cons_succ]
                      refine wpAnyH_ready (rs := [10, 16]) (by kernel_rfl) (by simp) ?_
                      refine AllReadyH.cons (o := ?o10) ?ho10 (fun K' hK' => ?k10) (AllReadyH.cons (o := ?o16) ?ho16 (fun K' hK' => ?k16) AllReadyH.nil)
                      case ho10 => (simp only [List.getElem?_toArray, List.getElem?_cons_succ, List.getElem?_cons_zero]; rfl)
                      case ho16 => (simp only [List.getElem?_toArray, List.getElem?_cons_succ, List.getElem?_cons_zero]; rfl)
                      case k10 =>
                        go_simp
                        go_at_call 10
                        go_fit (hAT2.out _)
                        rintro e w' ⟨rfl, rfl⟩
                        rw [HQQ.out]
                        try go_wp2_with fail
                        refine hK'.out _ _ hH (fun _ => ?_)
                        clear hK' K'
                        refine wpAnyH_take (i := 11) (v := ?va11) rfl (by kernel_rfl) (by kernel_rfl) (by kernel_rfl) (fun _ _ _ h => h) (Or.inl ⟨by rfl, ?hya11⟩) (by exact hH) ?ra11
                        case hya11 => (intro w hSw; (try dsimp only at hSw); go_simp <;> with_reducible rfl)
                        simp only [Act.put, List.setIfInBounds_toArray, List.set_cons_zero, List.set_cons_succ]
                        refine wpAnyH_ready (rs := [12, 16]) (by kernel_rfl) (by simp) ?_
                        refine AllReadyH.cons (o := ?oa12) ?hoa12 (fun K' hK' => ?ka12) (AllReadyH.cons (o := ?oa16) ?hoa16 (fun K' hK' => ?ka16) AllReadyH.nil)
                        case hoa12 => (simp only [List.getElem?_toArray, List.getElem?_cons_succ, List.getElem?_cons_zero]; rfl)
                        case hoa16 => (simp only [List.getElem?_toArray, List.getElem?_cons_succ, List.getElem?_cons_zero]; rfl)
                        case ka12 =>
                          go_simp
                          go_at_call 5
                          go_fit (HDO.out _ hdr)
                          rintro e w5 ⟨⟨u1, u2, rfl, ho5⟩, hb5⟩
                          obtain ⟨y1, e1, rfl, _⟩ := ho5.vers.opened
                          obtain ⟨y2, e2, rfl, _⟩ := ho5.peers.opened
                          try go_wp2_with fail
                          have S5 := (Since.refl wr).drew.step hb5
                          refine hK'.out _ _ (HSS.out _ S5.below) (fun _ => ?_)
                          clear hK' K'
                          refine wpAnyH_take (i := 13) (v := ?va113) rfl (by kernel_rfl) (by kernel_rfl) (by kernel_rfl) (fun _ _ _ h => h) (Or.inl ⟨by rfl, ?hya113⟩) (by exact HSS.out _ S5.below) ?ra113
                          case hya113 => (intro w hSw; (try dsimp only at hSw); go_simp <;> with_reducible rfl)
                          simp only [Act.put, List.setIfInBounds_toArray, List.set_cons_zero, List.set_cons_succ]
                          refine wpAnyH_take (i := 14) (v := ?va114) rfl (by kernel_rfl) (by kernel_rfl) (by kernel_rfl) (fun _ _ _ h => h) (Or.inl ⟨by rfl, ?hya114⟩) (by exact HSS.out _ S5.below) ?ra114
                          case hya114 => (intro w hSw; (try dsimp only at hSw); go_simp <;> with_reducible rfl)
                          simp only [Act.put, List.setIfInBounds_toArray, List.set_cons_zero, List.set_cons_succ]
                          refine wpAnyH_take (i := 15) (v := ?va115) rfl (by kernel_rfl) (by kernel_rfl) (by kernel_rfl) (fun _ _ _ h => h) (Or.inl ⟨by rfl, ?hya115⟩) (by exact HSS.out _ S5.below) ?ra115
                          case hya115 => (intro w hSw; (try dsimp only at hSw); go_simp <;> with_reducible rfl)
                          simp only [Act.put, List.setIfInBounds_toArray, List.set_cons_zero, List.set_cons_succ]
                          refine wpAnyH_ready (rs := [16]) (by kernel_rfl) (by simp) ?_
                          refine AllReadyH.cons (o := ?oa116) ?hoa116 (fun K' hK' => ?ka116) AllReadyH.nil
                          case hoa116 => (simp only [List.getElem?_toArray, List.getElem?_cons_succ, List.getElem?_cons_zero]; rfl)
                          go_simp
                          have BA := below_alloc w5 (.cells #[.slice none 0 0, .slice none 0 0] 27)
                          have SA := S5.alloc (.cells #[.slice none 0 0, .slice none 0 0] 27)
                          refine hK'.out _ _ (HSS.out _ SA.below) (fun _ => ?_)
                          clear hK' K'
                          clear BA SA
                          have hY5 := ho5
                          have BA := below_alloc w5 (.cells #[.slice y1 YY.1.length e1, .slice y2 YY.2.length e2] 27)
                          have S9 := S5.alloc (.cells #[.slice y1 YY.1.length e1, .slice y2 YY.2.length e2] 27)
                          have HY9 := BoxM.of (hY5.toT.stays BA) (D := fun j => j = B8) (fun k hk => Or.inl (by rw [hk]; exact ⟨hBr, hBr⟩))
                          have v0 : (w5.alloc (.cells #[.slice y1 YY.1.length e1, .slice y2 YY.2.length e2] 27)).cell? ⟨w5.heap.size, 0, none⟩ = some (.slice y1 YY.1.length e1) := by go_simp
                          have v1 : (w5.alloc (.cells #[.slice y1 YY.1.length e1, .slice y2 YY.2.length e2] 27)).cell? ⟨w5.heap.size, 1, none⟩ = some (.slice y2 YY.2.length e2) := by go_simp
                          clear hY5
                          refine wpAnyH_ready (rs := [17]) (by kernel_rfl) (by simp) ?_
                          refine AllReadyH.cons (o := ?oa317) ?hoa317 (fun K' hK' => ?ka317) AllReadyH.nil
                          case hoa317 => (simp only [List.getElem?_toArray, List.getElem?_cons_succ, List.getElem?_cons_zero]; rfl)
                          go_simp
                          refine hK'.out _ _ (HSS.out _ S9.below) (fun _ => ?_)
                          clear hK' K'
                          refine wpAnyH_take (i := 18) (v := ?va318) rfl (by kernel_rfl) (by kernel_rfl) (by kernel_rfl) (fun _ _ _ h => h) (Or.inl ⟨by rfl, ?hya318⟩) (by exact HSS.out _ S9.below) ?ra318
                          case hya318 => (intro w hSw; (try dsimp only at hSw); go_simp <;> with_reducible rfl)
                          simp only [Act.put, List.setIfInBounds_toArray, List.set_cons_zero, List.set_cons_succ]
                          refine wpAnyH_done (by kernel_rfl) ?_ _
                          go_simp
                          go_wp2_with fail
                          go_meet
                          exact ⟨rfl, _, _, _, _, _, _, _, rfl, _, rfl, S9, v0, v1, HY9⟩
                        case ka16 =>
                          go_simp
                          have HWA := Lib.hid (((Since.refl wr).alloc (.cells #[.slice none 0 0, .slice none 0 0] 27)).drew)
                          have r0 : ((wr.alloc (.cells #[.slice none 0 0, .slice none 0 0] 27)).drew).cell? ⟨wr.heap.size, 0, none⟩ = some (.slice none 0 0) := by go_simp
                          have r1 : ((wr.alloc (.cells #[.slice none 0 0, .slice none 0 0] 27)).drew).cell? ⟨wr.heap.size, 1, none⟩ = some (.slice none 0 0) := by go_simp
                          have r2 : ((wr.alloc (.cells #[.slice none 0 0, .slice none 0 0] 27)).drew).frozen? ⟨wr.heap.size, 0, none⟩ = false := by go_simp
                          have r3 : ((wr.alloc (.cells #[.slice none 0 0, .slice none 0 0] 27)).drew).frozen? ⟨wr.heap.size, 1, none⟩ = false := by go_simp
                          have hgwa : wr.heap.size < ((wr.alloc (.cells #[.slice none 0 0, .slice none 0 0] 27)).drew).heap.size := by simp
                          have hBwa : B8 < ((wr.alloc (.cells #[.slice none 0 0, .slice none 0 0] 27)).drew).heap.size := Nat.lt_trans hBr hgwa
                          refine hK'.out _ _ (HSS.out _ HWA.out.below) (fun _ => ?_)
                          clear hK' K'
                          generalize (wr.alloc (.cells #[.slice none 0 0, .slice none 0 0] 27)).drew = wa at *
                          refine wpAnyH_ready (rs := [12]) (by kernel_rfl) (by simp) ?_
                          refine AllReadyH.cons (o := ?oa212) ?hoa212 (fun K' hK' => ?ka212) AllReadyH.nil
                          case hoa212 => (simp only [List.getElem?_toArray, List.getElem?_cons_succ, List.getElem?_cons_zero]; rfl)
                          go_simp
                          go_at_call 5
                          go_fit (HDO.out _ HWA.out.below)
                          rintro e w5 ⟨⟨u1, u2, rfl, ho5⟩, hb5⟩
                          obtain ⟨y1, e1, rfl, _⟩ := ho5.vers.opened
                          obtain ⟨y2, e2, rfl, _⟩ := ho5.peers.opened
                          try go_wp2_with fail
                          have S5 := HWA.out.step hb5
                          refine hK'.out _ _ (HSS.out _ S5.below) (fun _ => ?_)
                          clear hK' K'
                          refine wpAnyH_take (i := 13) (v := ?va213) rfl (by kernel_rfl) (by kernel_rfl) (by kernel_rfl) (fun _ _ _ h => h) (Or.inl ⟨by rfl, ?hya213⟩) (by exact HSS.out _ S5.below) ?ra213
                          case hya213 => (intro w hSw; (try dsimp only at hSw); go_simp <;> with_reducible rfl)
                          simp only [Act.put, List.setIfInBounds_toArray, List.set_cons_zero, List.set_cons_succ]
                          refine wpAnyH_take (i := 14) (v := ?va214) rfl (by kernel_rfl) (by kernel_rfl) (by kernel_rfl) (fun _ _ _ h => h) (Or.inl ⟨by rfl, ?hya214⟩) (by exact HSS.out _ S5.below) ?ra214
                          case hya214 => (intro w hSw; (try dsimp only at hSw); go_simp <;> with_reducible rfl)
                          simp only [Act.put, List.setIfInBounds_toArray, List.set_cons_zero, List.set_cons_succ]
                          refine wpAnyH_take (i := 15) (v := ?va215) rfl (by kernel_rfl) (by kernel_rfl) (by kernel_rfl) (fun _ _ _ h => h) (Or.inl ⟨by rfl, ?hya215⟩) (by exact HSS.out _ S5.below) ?ra215
                          case hya215 => (intro w hSw; (try dsimp only at hSw); go_simp <;> with_reducible rfl)
                          simp only [Act.put, List.setIfInBounds_toArray, List.set_cons_zero, List.set_cons_succ]
                          have HYX := Lib.hid (BoxM.of ho5.toT (D := fun j => j = B8 ∨ j = wr.heap.size) (fun k hk => Or.inl (hk.elim (fun e => by rw [e]; exact ⟨hBwa, hBwa⟩) (fun e => by rw [e]; exact ⟨hgwa, hgwa⟩))))
                          have r0 := below_cell hb5 r0
                          have r1 := below_cell hb5 r1
                          have r2 := (hb5.frozen (p := ⟨wr.heap.size, 0, none⟩) hgwa).trans r2
                          have r3 := (hb5.frozen (p := ⟨wr.heap.size, 1, none⟩) hgwa).trans r3
                          clear ho5 hb5
                          have hg9 : wr.heap.size ≤ wr.heap.size := Nat.le_refl _
                          have S9 := (S5.setCell (a := ⟨wr.heap.size, 0, none⟩) hg9 (.slice y1 YY.1.length e1)).setCell (a := ⟨wr.heap.size, 1, none⟩) hg9 (.slice y2 YY.2.length e2)
                          have hd9 : Dirty (fun j => j = wr.heap.size) w5 ((w5.setCell ⟨wr.heap.size, 0, none⟩ (.slice y1 YY.1.length e1)).setCell ⟨wr.heap.size, 1, none⟩ (.slice y2 YY.2.length e2)) := (Dirty.of_grown ((grown_setCell w5 ⟨wr.heap.size, 0, none⟩ (.slice y1 YY.1.length e1)).trans (grown_setCell _ ⟨wr.heap.size, 1, none⟩ (.slice y2 YY.2.length e2)))).mono fun j _ hj => by cases hj; rfl
                          have HY9 := (HYX.out.later (hd9.mono fun _ _ h => Or.inr h)).weak (D' := fun j => j = B8) (fun _ h => Or.inl h)
                          have v0 : ((w5.setCell ⟨wr.heap.size, 0, none⟩ (.slice y1 YY.1.length e1)).setCell ⟨wr.heap.size, 1, none⟩ (.slice y2 YY.2.length e2)).cell? ⟨wr.heap.size, 0, none⟩ = some (.slice y1 YY.1.length e1) := by go_simp
                          have v1 : ((w5.setCell ⟨wr.heap.size, 0, none⟩ (.slice y1 YY.1.length e1)).setCell ⟨wr.heap.size, 1, none⟩ (.slice y2 YY.2.length e2)).cell? ⟨wr.heap.size, 1, none⟩ = some (.slice y2 YY.2.length e2) := by go_simp
                          refine wpAnyH_ready (rs := [17]) (by kernel_rfl) (by simp) ?_
                          refine AllReadyH.cons (o := ?oa2z17) ?hoa2z17 (fun K' hK' => ?ka2z17) AllReadyH.nil
                          case hoa2z17 => (simp only [List.getElem?_toArray, List.getElem?_cons_succ, List.getElem?_cons_zero]; rfl)
                          go_simp
                          refine hK'.out _ _ (HSS.out _ S9.below) (fun _ => ?_)
                          clear hK' K'
                          refine wpAnyH_take (i := 18) (v := ?va2z18) rfl (by kernel_rfl) (by kernel_rfl) (by kernel_rfl) (fun _ _ _ h => h) (Or.inl ⟨by rfl, ?hya2z18⟩) (by exact HSS.out _ S9.below) ?ra2z18
                          case hya2z18 => (intro w hSw; (try dsimp only at hSw); go_simp <;> with_reducible rfl)
                          simp only [Act.put, List.setIfInBounds_toArray, List.set_cons_zero, List.set_cons_succ]
                          refine wpAnyH_done (by kernel_rfl) ?_ _
                          go_simp
                          go_wp2_with fail
                          go_meet
                          exact ⟨rfl, _, _, _, _, _, _, _, rfl, _, rfl, S9, v0, v1, HY9⟩
                      case k16 =>
                        go_simp
                        have HWA := Lib.hid (((Since.refl wr).alloc (.cells #[.slice none 0 0, .slice none 0 0] 27)).drew)
                        have r0 : ((wr.alloc (.cells #[.slice none 0 0, .slice none 0 0] 27)).drew).cell? ⟨wr.heap.size, 0, none⟩ = some (.slice none 0 0) := by go_simp
                        have r1 : ((wr.alloc (.cells #[.slice none 0 0, .slice none 0 0] 27)).drew).cell? ⟨wr.heap.size, 1, none⟩ = some (.slice none 0 0) := by go_simp
                        have r2 : ((wr.alloc (.cells #[.slice none 0 0, .slice none 0 0] 27)).drew).frozen? ⟨wr.heap.size, 0, none⟩ = false := by go_simp
                        have r3 : ((wr.alloc (.cells #[.slice none 0 0, .slice none 0 0] 27)).drew).frozen? ⟨wr.heap.size, 1, none⟩ = false := by go_simp
                        have hgwa : wr.heap.size < ((wr.alloc (.cells #[.slice none 0 0, .slice none 0 0] 27)).drew).heap.size := by simp
                        have hBwa : B8 < ((wr.alloc (.cells #[.slice none 0 0, .slice none 0 0] 27)).drew).heap.size := Nat.lt_trans hBr hgwa
                        refine hK'.out _ _ (HSS.out _ HWA.out.below) (fun _ => ?_)
                        clear hK' K'
                        generalize (wr.alloc (.cells #[.slice none 0 0, .slice none 0 0] 27)).drew = wa at *
                        refine wpAnyH_ready (rs := [10]) (by kernel_rfl) (by simp) ?_
                        refine AllReadyH.cons (o := ?ob10) ?hob10 (fun K' hK' => ?kb10) AllReadyH.nil
                        case hob10 => (simp only [List.getElem?_toArray, List.getElem?_cons_succ, List.getElem?_cons_zero]; rfl)
                        go_simp
                        go_at_call 10
                        go_fit (hAT2.out _)
                        rintro e w' ⟨rfl, rfl⟩
                        rw [HQQ.out]
                        try go_wp2_with fail
                        refine hK'.out _ _ (HSS.out _ HWA.out.below) (fun _ => ?_)
                        clear hK' K'
                        refine wpAnyH_take (i := 11) (v := ?vb11) rfl (by kernel_rfl) (by kernel_rfl) (by kernel_rfl) (fun _ _ _ h => h) (Or.inl ⟨by rfl, ?hyb11⟩) (by exact HSS.out _ HWA.out.below) ?rb11
                        case hyb11 => (intro w hSw; (try dsimp only at hSw); go_simp <;> with_reducible rfl)
                        simp only [Act.put, List.setIfInBounds_toArray, List.set_cons_zero, List.set_cons_succ]
                        refine wpAnyH_ready (rs := [12]) (by kernel_rfl) (by simp) ?_
                        refine AllReadyH.cons (o := ?ob212) ?hob212 (fun K' hK' => ?kb212) AllReadyH.nil
                        case hob212 => (simp only [List.getElem?_toArray, List.getElem?_cons_succ, List.getElem?_cons_zero]; rfl)
                        go_simp
                        go_at_call 5
                        go_fit (HDO.out _ HWA.out.below)
                        rintro e w5 ⟨⟨u1, u2, rfl, ho5⟩, hb5⟩
                        obtain ⟨y1, e1, rfl, _⟩ := ho5.vers.opened
                        obtain ⟨y2, e2, rfl, _⟩ := ho5.peers.opened
                        try go_wp2_with fail
                        have S5 := HWA.out.step hb5
                        refine hK'.out _ _ (HSS.out _ S5.below) (fun _ => ?_)
                        clear hK' K'
                        refine wpAnyH_take (i := 13) (v := ?vb213) rfl (by kernel_rfl) (by kernel_rfl) (by kernel_rfl) (fun _ _ _ h => h) (Or.inl ⟨by rfl, ?hyb213⟩) (by exact HSS.out _ S5.below) ?rb213
                        case hyb213 => (intro w hSw; (try dsimp only at hSw); go_simp <;> with_reducible rfl)
                        simp only [Act.put, List.setIfInBounds_toArray, List.set_cons_zero, List.set_cons_succ]
                        refine wpAnyH_take (i := 14) (v := ?vb214) rfl (by kernel_rfl) (by kernel_rfl) (by kernel_rfl) (fun _ _ _ h => h) (Or.inl ⟨by rfl, ?hyb214⟩) (by exact HSS.out _ S5.below) ?rb214
                        case hyb214 => (intro w hSw; (try dsimp only at hSw); go_simp <;> with_reducible rfl)
                        simp only [Act.put, List.setIfInBounds_toArray, List.set_cons_zero, List.set_cons_succ]
                        refine wpAnyH_take (i := 15) (v := ?vb215) rfl (by kernel_rfl) (by kernel_rfl) (by kernel_rfl) (fun _ _ _ h => h) (Or.inl ⟨by rfl, ?hyb215⟩) (by exact HSS.out _ S5.below) ?rb215
                        case hyb215 => (intro w hSw; (try dsimp only at hSw); go_simp <;> with_reducible rfl)
                        simp only [Act.put, List.setIfInBounds_toArray, List.set_cons_zero, List.set_cons_succ]
                        have HYX := Lib.hid (BoxM.of ho5.toT (D := fun j => j = B8 ∨ j = wr.heap.size) (fun k hk => Or.inl (hk.elim (fun e => by rw [e]; exact ⟨hBwa, hBwa⟩) (fun e => by rw [e]; exact ⟨hgwa, hgwa⟩))))
                        have r0 := below_cell hb5 r0
                        have r1 := below_cell hb5 r1
                        have r2 := (hb5.frozen (p := ⟨wr.heap.size, 0, none⟩) hgwa).trans r2
                        have r3 := (hb5.frozen (p := ⟨wr.heap.size, 1, none⟩) hgwa).trans r3
                        clear ho5 hb5
                        have hg9 : wr.heap.size ≤ wr.heap.size := Nat.le_refl _
                        have S9 := (S5.setCell (a := ⟨wr.heap.size, 0, none⟩) hg9 (.slice y1 YY.1.length e1)).setCell (a := ⟨wr.heap.size, 1, none⟩) hg9 (.slice y2 YY.2.length e2)
                        have hd9 : Dirty (fun j => j = wr.heap.size) w5 ((w5.setCell ⟨wr.heap.size, 0, none⟩ (.slice y1 YY.1.length e1)).setCell ⟨wr.heap.size, 1, none⟩ (.slice y2 YY.2.length e2)) := (Dirty.of_grown ((grown_setCell w5 ⟨wr.heap.size, 0, none⟩ (.slice y1 YY.1.length e1)).trans (grown_setCell _ ⟨wr.heap.size, 1, none⟩ (.slice y2 YY.2.length e2)))).mono fun j _ hj => by cases hj; rfl
                        have HY9 := (HYX.out.later (hd9.mono fun _ _ h => Or.inr h)).weak (D' := fun j => j = B8) (fun _ h => Or.inl h)
                        have v0 : ((w5.setCell ⟨wr.heap.size, 0, none⟩ (.slice y1 YY.1.length e1)).setCell ⟨wr.heap.size, 1, none⟩ (.slice y2 YY.2.length e2)).cell? ⟨wr.heap.size, 0, none⟩ = some (.slice y1 YY.1.length e1) := by go_simp
                        have v1 : ((w5.setCell ⟨wr.heap.size, 0, none⟩ (.slice y1 YY.1.length e1)).setCell ⟨wr.heap.size, 1, none⟩ (.slice y2 YY.2.length e2)).cell? ⟨wr.heap.size, 1, none⟩ = some (.slice y2 YY.2.length e2) := by go_simp
                        refine wpAnyH_ready (rs := [17]) (by kernel_rfl) (by simp) ?_
                        refine AllReadyH.cons (o := ?ob2z17) ?hob2z17 (fun K' hK' => ?kb2z17) AllReadyH.nil
                        case hob2z17 => (simp only [List.getElem?_toArray, List.getElem?_cons_succ, List.getElem?_cons_zero]; rfl)
                        go_simp
                        refine hK'.out _ _ (HSS.out _ S9.below) (fun _ => ?_)
                        clear hK' K'
                        refine wpAnyH_take (i := 18) (v := ?vb2z18) rfl (by kernel_rfl) (by kernel_rfl) (by kernel_rfl) (fun _ _ _ h => h) (Or.inl ⟨by rfl, ?hyb2z18⟩) (by exact HSS.out _ S9.below) ?rb2z18
                        case hyb2z18 => (intro w hSw; (try dsimp only at hSw); go_simp <;> with_reducible rfl)
                        simp only [Act.put, List.setIfInBounds_toArray, List.set_cons_zero, List.set_cons_succ]
                        refine wpAnyH_done (by kernel_rfl) ?_ _
                        go_simp
                        go_wp2_with fail
                        go_meet
                        exact ⟨rfl, _, _, _, _, _, _, _, rfl, _, rfl, S9, v0, v1, HY9⟩
                    case rest =>
                      obtain ⟨rfl, g9, y1, l1, e1, y2, l2, e2, rfl, w6', rfl, S6', v0, v1, hby⟩ := hcut
                      clear hH
                      obtain ⟨y0, y1', _, _⟩ := HSS.out _ S6'.below
                      obtain ⟨hxv, hxp⟩ := (HBX.out.stays S6'.below).now
                      obtain ⟨hyv, hyp⟩ := hby.now
                      have HYB := Lib.hid hby
                      clear hby
                      have hB5 : B8 < w6'.heap.size := Nat.lt_of_lt_of_le hBr S6'.2
                      have HZ7 := Lib.hid (fun j => (S6'.below.frozen (p := ⟨B8, j, none⟩) hBr).trans (HZr.out j))
                      have hs5 : w7.heap.size ≤ w6'.heap.size := Nat.le_trans hsz S6'.2
                      go_upto_region 25 with (go_at_call 11; go_fit (Same_mesh _ _ _ _ (xb, xp) YY _ hxv hxp hyv hyp); rintro e w8 ⟨rfl, hb8⟩; rw [HNE.out])
                      have S8 := (hS.step S6'.below).step hb8
                      have v0 := below_cell hb8 v0
                      have v1 := below_cell hb8 v1
                      have y0 := below_cell hb8 y0
                      have y1' := below_cell hb8 y1'
                      have HZ8 := Lib.hid (fun j => (hb8.frozen (p := ⟨B8, j, none⟩) hB5).trans (HZ7.out j))
                      have HY8 := Lib.hid (HYB.out.stays hb8)
                      have hs8 : w7.heap.size ≤ w8.heap.size := Nat.le_trans hs5 hb8.size
                      have zz0 := HZ8.out 0
                      have zz1 := HZ8.out 1
                      clear hxv hxp hyv hyp HYB hb8 HDO
                      have S9 := (S8.setCell (a := ⟨B8, 0, none⟩) hB6 (.slice y1 l1 e1)).setCell (a := ⟨B8, 1, none⟩) hB6 (.slice y2 l2 e2)
                      have hd9 : Dirty (fun j => j = B8) w8 ((w8.setCell ⟨B8, 0, none⟩ (.slice y1 l1 e1)).setCell ⟨B8, 1, none⟩ (.slice y2 l2 e2)) := (Dirty.of_grown ((grown_setCell w8 ⟨B8, 0, none⟩ (.slice y1 l1 e1)).trans (grown_setCell _ ⟨B8, 1, none⟩ (.slice y2 l2 e2)))).mono fun j _ hj => by cases hj; rfl
                      have HY9 := Lib.hid (HY8.out.later hd9)
                      have hs9 : w7.heap.size ≤ ((w8.setCell ⟨B8, 0, none⟩ (.slice y1 l1 e1)).setCell ⟨B8, 1, none⟩ (.slice y2 l2 e2)).heap.size := by simpa using hs8
                      have u0 : ((w8.setCell ⟨B8, 0, none⟩ (.slice y1 l1 e1)).setCell ⟨B8, 1, none⟩ (.slice y2 l2 e2)).cell? ⟨B8, 0, none⟩ = some (.slice y1 l1 e1) := by go_simp
                      have u1 : ((w8.setCell ⟨B8, 0, none⟩ (.slice y1 l1 e1)).setCell ⟨B8, 1, none⟩ (.slice y2 l2 e2)).cell? ⟨B8, 1, none⟩ = some (.slice y2 l2 e2) := by go_simp
                      have u2 : ∀ j, ((w8.setCell ⟨B8, 0, none⟩ (.slice y1 l1 e1)).setCell ⟨B8, 1, none⟩ (.slice y2 l2 e2)).frozen? ⟨B8, j, none⟩ = false := fun j => by rw [World.frozen?_setCell, World.frozen?_setCell]; exact HZ8.out j
                      have HU := Lib.hid (And.intro u0 (And.intro u1 u2))
                      clear u2
                      go_upto_region 26 with fail
                      clear u0 u1
                      generalize (w8.setCell ⟨B8, 0, none⟩ (.slice y1 l1 e1)).setCell ⟨B8, 1, none⟩ (.slice y2 l2 e2) = w9 at *
                      go_wp2_with fail
                      go_roundw
                      case rel => exact ⟨j + 1, _, _, _, _, _, _, by omega, by go_num, S9, hs9, by rw [HYE.out]; exact HY9.out, HU.out⟩
                      case measure => simp [intOf]; omega
                  · obtain rfl : j = 31 := by omega
                    rw [HBE.out.2] at hbox
                    obtain ⟨hxv, hxp⟩ := hbox.now
                    have HME : Hid (meEq (b, ps) (b, ps) = true) := Lib.hid ((meEq_iff _ _).2 rfl)
                    clear k0 k2
                    go_wp2_with (go_at_call 11; go_fit (Same_mesh _ _ _ _ (b, ps) (b, ps) wr hxv hxp hv1 hp1); rintro e w11 ⟨rfl, hb11⟩; rw [HME.out])
                    go_ret
                    exact ⟨rfl, (S0.step (T2.step (T6.step (hS.step hb11).below).below).below).below⟩
  · have hne : (meshV (b, ps) != 0) = true := by simpa using h0
    go_upto_region 2 with (first | (go_at_call 6; go_fit (HT.out w0); rintro e w1 ⟨rfl, hb1⟩; obtain ⟨d0, d1, hv1, hp1⟩ := HF.out w1 ((Since.refl w0).step hb1)) | (go_at_call 7; go_fit (meshCheck_any _ b _ ps w1 hv1 hp1); rintro e w2 ⟨rfl, hb2⟩; obtain ⟨d2, d3, hv2, hp2⟩ := HF.out w2 (((Since.refl w0).step hb1).step hb2)))
    clear d0 d1 d2 d3 hv1 hp1 hv2 hp2
    go_wp2_with (go_at_call 6; go_fit (HT.out _); rintro e w3 ⟨rfl, hb3⟩)
    go_ret
    exact ⟨rfl, (((S0.step hb1).step hb2).step hb3).below⟩
end Go.Proofs.YtnpdojjffbhalaaGreat
