/-
  What was repaired is whole again.
-/
import Derived.Test.YtnpdojjffbhalaaAuditMendsWalk
import Derived.Test.YtnpdojjffbhalaaDrop
import Derived.Deep.DeepCutAuto
import Derived.Deep.RegionHeld3
namespace Go.Proofs.Ytnpdojjffbhalaa
open Go.RowKit

/-- Repaired again it is as it is. -/
theorem whole_again {b : List Ver} {qs : List Pr} {k n o s : Nat} {pr D : List _} (hm : placeV b qs = 0) (hx : b[k]? = some (pr, (n : Int), (o : Int), (s : Int))) (hs : splitE n o s D = 0) (hw : Whole (k : Int) n o (rowsN n s) D qs) :
    repairE (b, qs) (k : Int) = 0 ∧ repairC (b, qs) (k : Int) = (b, qs) := by
  obtain ⟨h1, h2, _⟩ := whole_audit hm hx hs hw
  have hpl : planAt (b, qs).1 (k : Int) = ((n : Int), (o : Int), (s : Int)) := planAt_get hx
  obtain ⟨e1, e2⟩ := repair_put (m := (b, qs)) (v := (k : Int)) (x := (pr, (n : Int), (o : Int), (s : Int))) h1 hpl (by simp only; rw [h2]; exact hs) rfl
  simp only at e1 e2
  rw [h2, splitL_ok hs, hw.again] at e1 e2
  simp only at e1 e2
  rw [hw.none] at e1 e2
  obtain ⟨e3, e4⟩ := put_nil (m := (b, qs)) (v := (k : Int)) hm
  exact ⟨e1.trans e3, e2.trans e4⟩
theorem onceL_nodup_len {l : List Int} (h : l.Nodup) : (onceL l).length = l.length := nodup_len' (onceL_nodup l) h (fun z => mem_onceL l z)
theorem numsS_take {v : Int} {qs : List Pr} (k : Nat) (h : (numsS v qs).Nodup) : (numsS v (qs.take k)).Nodup := by
  refine List.Nodup.sublist ?_ h
  unfold numsS
  exact List.Sublist.filterMap _ (List.take_sublist k qs)

set_option linter.unusedSimpArgs false in
set_option maxRecDepth 100000 in
set_option maxHeartbeats 8000000 in
theorem MeshMends_walk (vm : Value) (m : Me) (vn : Value) (v : Int) (W : World) (hm : IsMesh W vm m) (hn : IsInt vn v) :
    Calls Try.prog 11 #[vm, vn] W fun e w' => e = .returned (.bool true) ∧ Below W.heap.size W w' := by
  obtain ⟨vb, u, rfl, hb, hu⟩ := hm
  obtain ⟨rfl, hni⟩ := hn
  obtain ⟨b, ps⟩ := m
  simp only at hb hu
  obtain ⟨a, c, rfl, hcb, ⟨hbm, hbc, _⟩, _⟩ := hb.opened
  obtain ⟨a', c', rfl, hcu, ⟨hum, huc, _⟩, _⟩ := hu.opened
  have S0 := (Since.refl W).alloc (.cells #[.slice a b.length c, .slice a' ps.length c'] 53)
  have hb0 := hb.stays RVer.stays S0.below
  have hu0 := hu.stays RPeer.stays S0.below
  have c0 : (W.alloc (.cells #[.slice a b.length c, .slice a' ps.length c'] 53)).cell? ⟨W.heap.size, 0, none⟩ = some (.slice a b.length c) := by go_simp
  have c1 : (W.alloc (.cells #[.slice a b.length c, .slice a' ps.length c'] 53)).cell? ⟨W.heap.size, 1, none⟩ = some (.slice a' ps.length c') := by go_simp
  have HR := Lib.hid (Repair_any _ _ b ps v _ hb0 hu0 hni)
  clear hb hu
  by_cases hE : repairE (b, ps) v = 0
  · have hv0 : 0 ≤ v ∧ v < b.length := by
      have h0 : restE (b, ps) v = 0 := by
        by_cases h0 : restE (b, ps) v = 0
        · exact h0
        · unfold repairE at hE
          rw [if_pos h0] at hE
          exact absurd hE h0
      exact (readyE_ok (restE_ready h0)).2
    obtain ⟨k, rfl⟩ := Int.eq_ofNat_of_zero_le hv0.1
    have hkb : k < b.length := by omega
    obtain ⟨pr, n, o, s, D, qs, h1, h2, h3, h4, h5, h6, h7, h8, h9⟩ := repair_zero hE
    have HC := Lib.hid h6
    have HE := Lib.hid hE
    have HA := Lib.hid (whole_audit h7 h1 h2 h8)
    have HG := Lib.hid (whole_again h7 h1 h2 h8)
    have HME := Lib.hid h9
    have HWH := Lib.hid h8
    have HM7 : Hid (meshV (b, qs) = 0) := Lib.hid h7
    have HM5 : Hid (meshV (b, ps) = 0) := Lib.hid h5
    have HX := Lib.hid h1
    have H3 := Lib.hid h3
    have H4 := Lib.hid h4
    have hpn := planV_bd (splitE_ok h2).1
    have hql : qs.length ≤ ps.length := by rw [h9.len]; exact Nat.le_refl _
    have hql2 : ps.length ≤ qs.length := by rw [h9.len]; exact Nat.le_refl _
    have hp8 : ps.length ≤ 8 := (placeV_ok.1 h5).2.1
    clear h1 h2 h3 h4 h5 h6 h7 h8 h9 hE hv0
    go_enter Try.func11, Try.ntmps11
    go_upto_region 1 with fail
    generalize W.alloc (.cells #[.slice a b.length c, .slice a' ps.length c'] 53) = w0 at *
    obtain ⟨B, hB⟩ : ∃ B, B = W.heap.size := ⟨_, rfl⟩
    rw [← hB] at c0 c1 ⊢
    clear hB
    go_upto_region 2 with (go_at_call 35; go_fit HR.out; rintro e w1 ⟨⟨u1, u2, rfl, ho1⟩, hb1⟩; rw [HE.out]; rw [HC.out] at ho1; obtain ⟨a1, k1, rfl, _⟩ := ho1.vers.opened; obtain ⟨a2, k2, rfl, _⟩ := ho1.peers.opened)
    have S1 := (S0.step hb1).alloc (.cells #[.slice a1 b.length k1, .slice a2 qs.length k2] 53)
    have T1 := ((Since.refl w0).step hb1).alloc (.cells #[.slice a1 b.length k1, .slice a2 qs.length k2] 53)
    have ho2 := ho1.stays (below_alloc w1 (.cells #[.slice a1 b.length k1, .slice a2 qs.length k2] 53))
    have x0 : (w1.alloc (.cells #[.slice a1 b.length k1, .slice a2 qs.length k2] 53)).cell? ⟨w1.heap.size, 0, none⟩ = some (.slice a1 b.length k1) := by go_simp
    have x1 : (w1.alloc (.cells #[.slice a1 b.length k1, .slice a2 qs.length k2] 53)).cell? ⟨w1.heap.size, 1, none⟩ = some (.slice a2 qs.length k2) := by go_simp
    generalize w1.alloc (.cells #[.slice a1 b.length k1, .slice a2 qs.length k2] 53) = w2 at *
    obtain ⟨Bx, hBx⟩ : ∃ Bx, Bx = w1.heap.size := ⟨_, rfl⟩
    rw [← hBx] at x0 x1 ⊢
    have hv2 := ho2.vers
    have hp2 := ho2.peers
    have e0 := below_cell T1.below c0
    have e1 := below_cell T1.below c1
    have hb2 := hb0.stays RVer.stays T1.below
    have hu2 := hu0.stays RPeer.stays T1.below
    have HF : Hid (∀ w', Since w2.heap.size w2 w' → (w'.cell? ⟨B, 0, none⟩ = some (.slice a b.length c) ∧ w'.cell? ⟨B, 1, none⟩ = some (.slice a' ps.length c') ∧ w'.cell? ⟨Bx, 0, none⟩ = some (.slice a1 b.length k1) ∧ w'.cell? ⟨Bx, 1, none⟩ = some (.slice a2 qs.length k2)) ∧ IsVers w' (.slice a b.length c) b ∧ IsPeers w' (.slice a' ps.length c') ps ∧ IsVers w' (.slice a1 b.length k1) b ∧ IsPeers w' (.slice a2 qs.length k2) qs) :=
      Lib.hid (fun w' q => ⟨⟨below_cell q.below e0, below_cell q.below e1, below_cell q.below x0, below_cell q.below x1⟩, hb2.stays RVer.stays q.below, hu2.stays RPeer.stays q.below, hv2.stays RVer.stays q.below, hp2.stays RPeer.stays q.below⟩)
    clear hBx ho1 ho2 hb1 c0 c1 hb0 hu0 HR hv2 hp2 hb2 hu2 x0 x1 e0 e1 T1
    have U2 := Since.refl w2
    go_upto_region 4 with (first
      | (go_at_call 27; go_fit (woven_any w2); rintro e w3 ⟨rfl, hb3⟩))
    have U3 := U2.step hb3
    clear hb3 U2
    obtain ⟨⟨e0, e1, e2, e3⟩, m1, m2, m3, m4⟩ := HF.out w3 U3
    go_upto_region 5 with (go_at_call 29; go_fit (Restore_any _ b _ ps (k : Int) w3 m1 m2); rintro e w4 ⟨⟨z1, z2, rfl, hi1, hi2⟩, hb4⟩; rw [H3.out]; rw [H4.out] at hi1; obtain ⟨ab, cb, rfl, _⟩ := hi1.opened)
    have U4 := U3.step hb4
    have HI1 := Lib.hid hi1
    clear hb4 U3 e0 e1 e2 e3 m1 m2 m3 m4 hi1 hi2
    obtain ⟨⟨e0, e1, e2, e3⟩, m1, m2, m3, m4⟩ := HF.out w4 U4
    go_upto_region 6 with (go_at_call 29; go_fit (Restore_any _ b _ qs (k : Int) w4 m3 m4); rintro e w5 ⟨⟨z3, z4, rfl, hi3, hi4⟩, hb5⟩; rw [HA.out.1]; rw [HA.out.2.1] at hi3; rw [HA.out.2.2.1] at hi4; obtain ⟨ac, cc, rfl, _⟩ := hi3.opened; obtain ⟨ad, cd, rfl, _⟩ := hi4.opened)
    have U5 := U4.step hb5
    have HI1 := Lib.hid (HI1.out.stays hb5)
    have HI3 := Lib.hid hi3
    clear hb5 U4 e0 e1 e2 e3 m1 m2 m3 m4 hi3 hi4
    obtain ⟨⟨e0, e1, e2, e3⟩, m1, m2, m3, m4⟩ := HF.out w5 U5
    go_upto_region 7 with (go_at_call 35; go_fit (Repair_any _ _ b qs (k : Int) w5 m3 m4 ⟨by omega, by omega⟩); rintro e w6 ⟨⟨u3, u4, rfl, ho6⟩, hb6⟩; rw [HG.out.1]; rw [HG.out.2] at ho6; obtain ⟨a3, k3, rfl, _⟩ := ho6.vers.opened; obtain ⟨a4, k4, rfl, _⟩ := ho6.peers.opened)
    have BB := below_alloc w6 (.cells #[.slice a3 b.length k3, .slice a4 qs.length k4] 53)
    have U7 := (U5.step hb6).alloc (.cells #[.slice a3 b.length k3, .slice a4 qs.length k4] 53)
    have HI1 := Lib.hid ((HI1.out.stays hb6).stays BB)
    have HI3 := Lib.hid ((HI3.out.stays hb6).stays BB)
    have y0 : (w6.alloc (.cells #[.slice a3 b.length k3, .slice a4 qs.length k4] 53)).cell? ⟨w6.heap.size, 0, none⟩ = some (.slice a3 b.length k3) := by go_simp
    have y1 : (w6.alloc (.cells #[.slice a3 b.length k3, .slice a4 qs.length k4] 53)).cell? ⟨w6.heap.size, 1, none⟩ = some (.slice a4 qs.length k4) := by go_simp
    have hv7 := ho6.vers.stays RVer.stays BB
    have hp7 := ho6.peers.stays RPeer.stays BB
    generalize w6.alloc (.cells #[.slice a3 b.length k3, .slice a4 qs.length k4] 53) = w7 at *
    obtain ⟨By, hBy⟩ : ∃ By, By = w6.heap.size := ⟨_, rfl⟩
    rw [← hBy] at y0 y1 ⊢
    clear hBy BB ho6 hb6 U5 e0 e1 e2 e3 m1 m2 m3 m4
    have HDD : Hid (eqInts D D = true) := Lib.hid (by simp [eqInts])
    obtain ⟨⟨e0, e1, e2, e3⟩, m1, m2, m3, m4⟩ := HF.out w7 U7
    go_wp2_with fail
    refine (Equal_ints _ _ D D _ HI1.out HI3.out).mono ?_
    rintro e w8 ⟨rfl, hb8⟩
    rw [HDD.out]
    have U8 := U7.step hb8
    have y0 := below_cell hb8 y0
    have y1 := below_cell hb8 y1
    have hv8 := hv7.stays RVer.stays hb8
    have hp8' := hp7.stays RPeer.stays hb8
    clear hb8 U7 e0 e1 e2 e3 m1 m2 m3 m4 hv7 hp7
    obtain ⟨⟨e0, e1, e2, e3⟩, m1, m2, m3, m4⟩ := HF.out w8 U8
    go_wp2_with fail
    refine (Same_mesh _ _ _ _ (b, qs) (b, qs) w8 m3 m4 hv8 hp8').mono ?_
    rintro e w9 ⟨rfl, hb9⟩
    rw [meEq_self]
    have U9 := U8.step hb9
    clear hb9 U8 e0 e1 e2 e3 m1 m2 m3 m4 hv8 hp8' y0 y1
    obtain ⟨⟨e0, e1, e2, e3⟩, m1, m2, m3, m4⟩ := HF.out w9 U9
    have HBB : Hid (eqBy verEq b b = true) := Lib.hid ((eqBy_iff verEq_iff).2 rfl)
    go_wp2_with fail
    refine (Same_book _ _ b b w9 m3 m1).mono ?_
    rintro e w10 ⟨rfl, hb10⟩
    rw [HBB.out]
    have U10 := U9.step hb10
    clear hb10 U9 e0 e1 e2 e3 m1 m2 m3 m4
    obtain ⟨⟨e0, e1, e2, e3⟩, m1, m2, m3, m4⟩ := HF.out w10 U10
    go_wp2_with fail
    refine (meshCheck_any _ b _ qs w10 m3 m4).mono ?_
    rintro e w11 ⟨rfl, hb11⟩
    rw [HM7.out]
    have U11 := U10.step hb11
    clear hb11 U10 e0 e1 e2 e3 m1 m2 m3 m4
    obtain ⟨⟨e0, e1, e2, e3⟩, m1, m2, m3, m4⟩ := HF.out w11 U11
    have hmm := @run_makeMap Try.prog
    have hM0 : OwnsSet Try.prog 3 4 (w11.alloc (.map #[] 0)) w11.heap.size [] := OwnsSet.made w11
    have U12 := U11.alloc (.map #[] 0)
    have S11 := S1.step U11.below
    clear hmm
    have hmm := @run_makeMap Try.prog
    go_upto_region 10 with fail
    generalize w11.alloc (.map #[] 0) = w12 at *
    obtain ⟨Bm, hBm⟩ : ∃ Bm, Bm = w11.heap.size := ⟨_, rfl⟩
    have hBm2 : w2.heap.size ≤ Bm := by have := U11.2; omega
    rw [← hBm] at hM0 ⊢
    clear hBm e0 e1 e2 e3 m1 m2 m3 m4 U11
    obtain ⟨⟨e0, e1, e2, e3⟩, m1, m2, m3, m4⟩ := HF.out w12 U12
    obtain ⟨_, g1, g2, g3, g4⟩ := HF.out w2 (Since.refl w2)
    have HP2 := Lib.hid g2
    have HQ2 := Lib.hid g4
    clear g1 g2 g3 g4 m1 m2 m3 m4
    go_wp2_with fail
    clear e0 e1 e2 e3
    go_loopw [99] (fun i wr => ∃ j : Nat, j ≤ qs.length ∧ i = .int .i64 j ∧ Since w2.heap.size w2 wr ∧ OwnsSet Try.prog 3 4 wr Bm (numsS (k : Int) (qs.take j))) (fun i _ => qs.length - (intOf i).toNat)
    case atStart => exact ⟨0, by omega, rfl, U12, hM0⟩
    case round =>
      obtain ⟨j, hj, rfl, hS, hm⟩ := hrel
      clear hM0 U12 S11
      by_cases hlt : j < qs.length
      · have hget := List.getElem?_eq_getElem hlt
        have hjp : j < ps.length := by omega
        have hgp : ps[j]? = some ps[j] := List.getElem?_eq_getElem hjp
        obtain ⟨d1, d2, d3, d4⟩ := HME.out.each j _ _ hgp hget
        obtain ⟨g, off, uu, cu, ea, q0, q1, q2, hp, j1⟩ := peer_at HQ2.out hget
        subst ea
        obtain ⟨gm, om, um, cm, ea, r0, r1, r2, hpm, j2⟩ := peer_at HP2.out hgp
        subst ea
        have HST := Lib.hid (numsS_step (k : Int) hget)
        have HND := Lib.hid (numsS_take (j + 1) HWH.out.once)
        have hokq := (placeV_ok.1 HM7.out).2.2 _ (List.getElem_mem hlt)
        have hokp := (placeV_ok.1 HM5.out).2.2 _ (List.getElem_mem hjp)
        have hnl := numsS_len (k : Int) (qs.take j)
        have hnl2 : (numsS (k : Int) (qs.take j)).length < 1000000000000000 := by simp at hnl; omega
        generalize hNM : numsS (k : Int) (qs.take j) = NM at *
        generalize qs[j] = q at *
        generalize ps[j] = p at *
        obtain ⟨t, r, ks⟩ := q
        obtain ⟨t', r', ks'⟩ := p
        simp only at d1 d2 d3 d4 q0 q1 q2 hp j1 r0 r1 r2 hpm j2
        subst d1 d2
        have HD3 := Lib.hid d3
        have HD4 : Hid (t = false → ks = ks') := Lib.hid (fun h => by have := d4 h; simp only [Prod.mk.injEq, true_and] at this; exact this)
        have HVQ : Hid (peerV b (t, r, ks) = 0) := Lib.hid (peerV_ok.2 hokq)
        have HVP : Hid (peerV b (t, r, ks') = 0) := Lib.hid (peerV_ok.2 hokp)
        have HDQ : Hid (dropC b (t, r, ks) (k : Int) = (t, r, dropK (k : Int) ks)) := Lib.hid (by unfold dropC; rw [if_pos HVQ.out])
        have HDP : Hid (dropC b (t, r, ks') (k : Int) = (t, r, dropK (k : Int) ks)) := Lib.hid (by unfold dropC; rw [if_pos HVP.out, HD3.out])
        have HPQ : Hid (∀ w', Since w2.heap.size w2 w' → (w'.cell? ⟨g, off + j * 3, none⟩ = some (.bool t) ∧ w'.cell? ⟨g, off + j * 3 + 1, none⟩ = some (.int .i64 r) ∧ w'.cell? ⟨g, off + j * 3 + 2, none⟩ = some (.slice uu ks.length cu)) ∧ IsKepts w' (.slice uu ks.length cu) ks ∧ (w'.cell? ⟨gm, om + j * 3, none⟩ = some (.bool t) ∧ w'.cell? ⟨gm, om + j * 3 + 1, none⟩ = some (.int .i64 r) ∧ w'.cell? ⟨gm, om + j * 3 + 2, none⟩ = some (.slice um ks'.length cm)) ∧ IsKepts w' (.slice um ks'.length cm) ks') :=
          Lib.hid (fun w' q => ⟨⟨below_cell q.below q0, below_cell q.below q1, below_cell q.below q2⟩, hp.stays RKept.stays q.below, ⟨below_cell q.below r0, below_cell q.below r1, below_cell q.below r2⟩, hpm.stays RKept.stays q.below⟩)
        clear d3 d4 q0 q1 q2 r0 r1 r2 hp hpm hget hgp hokq hokp hnl
        obtain ⟨⟨k0, k1', k2'⟩, hp, _, _⟩ := HPQ.out wr hS
        obtain ⟨⟨e0, e1, e2, e3⟩, _, _, _, _⟩ := HF.out wr hS
        have BB := below_alloc wr (.cells #[.bool t, .int .i64 r, .slice uu ks.length cu] 61)
        have S1' := hS.alloc (.cells #[.bool t, .int .i64 r, .slice uu ks.length cu] 61)
        have hpi := hp.stays RKept.stays BB
        have f0 : (wr.alloc (.cells #[.bool t, .int .i64 r, .slice uu ks.length cu] 61)).cell? ⟨wr.heap.size, 0, none⟩ = some (.bool t) := by go_simp
        have f1 : (wr.alloc (.cells #[.bool t, .int .i64 r, .slice uu ks.length cu] 61)).cell? ⟨wr.heap.size, 1, none⟩ = some (.int .i64 r) := by go_simp
        have f2 : (wr.alloc (.cells #[.bool t, .int .i64 r, .slice uu ks.length cu] 61)).cell? ⟨wr.heap.size, 2, none⟩ = some (.slice uu ks.length cu) := by go_simp
        have hm1 := hm.below BB
        have hml := hm.lt
        go_upto_region 13 with fail
        clear k0 k1' k2' hp hm BB e0 e1 e2 e3
        generalize wr.alloc (.cells #[.bool t, .int .i64 r, .slice uu ks.length cu] 61) = w3 at *
        obtain ⟨Bt, hBt⟩ : ∃ Bt, Bt = wr.heap.size := ⟨_, rfl⟩
        have hBtm : Bt ≠ Bm := by omega
        rw [← hBt] at f0 f1 f2 ⊢
        clear hBt hml
        have HPI := Lib.hid hpi
        go_upto_region 14 with (go_at_call 30; go_fit (Find_any t r _ ks (k : Int) _ hpi); rintro e w4 ⟨rfl, hb4⟩)
        have S4 := S1'.step hb4
        have f0 := below_cell hb4 f0
        have f1 := below_cell hb4 f1
        have f2 := below_cell hb4 f2
        have hm4 := hm1.below hb4
        have HP4 := Lib.hid (HPI.out.stays RKept.stays hb4)
        clear hb4 hpi hm1 S1'
        obtain ⟨T, hT⟩ : ∃ T, T = (t && decide (0 ≤ findV (k : Int) ks 0)) := ⟨_, rfl⟩
        go_cut [112] (fun s wx => s = .bool T ∧ w4 = wx)
        case first =>
          cases t with
          | false =>
            go_wp2_with fail
            go_meet
            exact ⟨by rw [hT]; rfl, rfl⟩
          | true =>
            by_cases hF : 0 ≤ findV (k : Int) ks 0
            · go_wp2_with fail
              go_meet
              exact ⟨by rw [hT]; simp [hF], rfl⟩
            · go_wp2_with fail
              go_meet
              exact ⟨by rw [hT]; simp [hF], rfl⟩
        case rest =>
          obtain ⟨rfl, rfl⟩ := hcut
          go_upto_if 112 with fail
          go_cut [17] (fun _ wx => ∃ wz, wz = wx ∧ Since w2.heap.size w2 wx ∧ OwnsSet Try.prog 3 4 wx Bm (numsS (k : Int) (qs.take (j + 1))) ∧ wx.cell? ⟨Bt, 0, none⟩ = some (.bool t) ∧ wx.cell? ⟨Bt, 1, none⟩ = some (.int .i64 r) ∧ wx.cell? ⟨Bt, 2, none⟩ = some (.slice uu ks.length cu))
          case first =>
            cases T with
            | false =>
              have HN : Hid (pickS (k : Int) (t, r, ks) = none) := Lib.hid (by
                have := hasB_pick (k : Int) (t, r, ks)
                rw [show hasB (k : Int) (t, r, ks) = false from hT.symm] at this
                cases h : pickS (k : Int) (t, r, ks) with
                | none => rfl
                | some s => rw [h] at this; cases this)
              go_wp2_with fail
              go_meet
              exact ⟨_, rfl, S4, by rw [HST.out, numsS_none HN.out, List.append_nil]; exact hm4, f0, f1, f2⟩
            | true =>
              obtain rfl : t = true := by cases t; cases hT; rfl
              have hF : 0 ≤ findV (k : Int) ks 0 := by simpa using hT.symm
              rcases findV_keptAt (k : Int) ks 0 with ⟨hn, hf⟩ | ⟨mm, y, hx, hxv, hn, hf⟩
              · omega
              · obtain ⟨gk, ok, uk, ck, rfl, x0, x1, x2, hxi, ix0, ix1⟩ := kept_at HP4.out hx
                have hml := (List.getElem?_eq_some_iff.1 hx).1
                have HN := Lib.hid (numsS_some (v := (k : Int)) (p := (true, r, ks)) (s := y.2) (by simp [pickS, hn]))
                rw [HST.out, HN.out] at HND
                have HNO : Hid (decide (y.2.1 ∈ NM) = false) := Lib.hid (by
                  have := HND.out
                  rw [List.nodup_append] at this
                  simp only [decide_eq_false_iff_not]
                  intro h
                  exact this.2.2 _ h _ (by simp) rfl)
                have hlk := hm4.lookup (t := 75) Try.underlying3 Try.underlying4 Try.underlying75 (zero_boolT _) y.2.1 ix1
                rw [HNO.out] at hlk
                rw [Nat.zero_add] at hf
                rw [hf]
                have hBtn : some (Addr.mk Bt 0 none).block ≠ some Bm := by intro e; exact hBtm (Option.some.inj e)
                clear hn hf hx hxv hF hT x0 x2 hxi
                go_wp2_with (at_mapUpdate; refine wpList_store_set _ rfl _ _ _ 75 rfl Try.underlying3 Try.underlying4 Try.underlying75 _ _ rfl hm4 hnl2 _ rfl rfl ix1 ?_; intro w9 hm9 hg9)
                have S9 := S4.grown hg9 (fun k hk => by cases hk; exact hBm2)
                have f0' := hg9.cell f0 hBtn
                have f1' := hg9.cell f1 hBtn
                have f2' := hg9.cell f2 hBtn
                go_wp2_with fail
                go_meet
                exact ⟨_, rfl, S9, by rw [HST.out, HN.out]; exact hm9, f0', f1', f2'⟩
          case rest =>
            obtain ⟨wc, rfl, S5, hm5, p0, p1, p2⟩ := hcut
            clear f0 f1 f2 hm4 HP4 S4
            obtain ⟨_, hkq, _, _⟩ := HPQ.out _ S5
            obtain ⟨⟨e0, e1, e2, e3⟩, n1, _, n3, _⟩ := HF.out _ S5
            have HM5' := Lib.hid hm5
            clear hm5
            go_upto_region 19 with (go_at_call 38; go_fit (Drop_any (.slice a1 b.length k1) b (.slice uu ks.length cu) (t, r, ks) (k : Int) wc n3 hkq j1); rintro e w6 ⟨⟨v6, rfl, ho6⟩, hb6⟩; rw [HVQ.out]; rw [HDQ.out] at ho6 ⊢; simp only at ho6 ⊢; obtain ⟨a6, c6, rfl, _⟩ := ho6.isRow.opened)
            have BB := below_alloc w6 (.cells #[.bool t, .int .i64 r, .slice a6 (dropK (k : Int) ks).length c6] 61)
            have S6 := (S5.step hb6).alloc (.cells #[.bool t, .int .i64 r, .slice a6 (dropK (k : Int) ks).length c6] 61)
            have hk6 := (ho6.isRow).later RKept.stays (Dirty.old BB (fun _ => False))
            have y0 : (w6.alloc (.cells #[.bool t, .int .i64 r, .slice a6 (dropK (k : Int) ks).length c6] 61)).cell? ⟨w6.heap.size, 0, none⟩ = some (.bool t) := by go_simp
            have y1 : (w6.alloc (.cells #[.bool t, .int .i64 r, .slice a6 (dropK (k : Int) ks).length c6] 61)).cell? ⟨w6.heap.size, 1, none⟩ = some (.int .i64 r) := by go_simp
            have y2 : (w6.alloc (.cells #[.bool t, .int .i64 r, .slice a6 (dropK (k : Int) ks).length c6] 61)).cell? ⟨w6.heap.size, 2, none⟩ = some (.slice a6 (dropK (k : Int) ks).length c6) := by go_simp
            have p0 := below_cell BB (below_cell hb6 p0)
            have p1 := below_cell BB (below_cell hb6 p1)
            have p2 := below_cell BB (below_cell hb6 p2)
            have HM6 := Lib.hid ((HM5'.out.below hb6).below BB)
            generalize w6.alloc (.cells #[.bool t, .int .i64 r, .slice a6 (dropK (k : Int) ks).length c6] 61) = w7 at *
            obtain ⟨B8, hB8⟩ : ∃ B8, B8 = w6.heap.size := ⟨_, rfl⟩
            rw [← hB8] at y0 y1 y2 ⊢
            clear hB8 BB ho6 hb6 S5 e0 e1 e2 e3 n1 n3 hkq HM5'
            obtain ⟨_, hkq, ⟨r0, r1, r2⟩, hkp⟩ := HPQ.out _ S6
            obtain ⟨⟨e0, e1, e2, e3⟩, n1, _, n3, _⟩ := HF.out _ S6
            have HB1' := Lib.hid n1
            have HKP := Lib.hid hkp
            have hjp2 : (j : Int) < (ps.length : Int) := by omega
            have hl0 := cell_lt e0
            have hl1 := cell_lt r0
            simp only at hl0 hl1
            have hBn : B ≠ w7.heap.size := by omega
            have hgn : gm ≠ w7.heap.size := by omega
            go_cut [20, 21] (fun s20 s21 wx => ∃ B9 a9 c9, s20 = .pointer (some ⟨B9, 0, none⟩) ∧ s21 = .int .i64 0 ∧ Since w7.heap.size w7 wx ∧ wx.cell? ⟨B9, 0, none⟩ = some (.bool t) ∧ wx.cell? ⟨B9, 1, none⟩ = some (.int .i64 r) ∧ wx.cell? ⟨B9, 2, none⟩ = some (.slice a9 (dropK (k : Int) ks).length c9) ∧ IsKepts wx (.slice a9 (dropK (k : Int) ks).length c9) (dropK (k : Int) ks))
            case first =>
              have s3 : w7.drew.cell? ⟨B, 0, none⟩ = some (.slice a b.length c) ∧ w7.drew.cell? ⟨B, 1, none⟩ = some (.slice (some ⟨gm, om, none⟩) ps.length c') ∧ w7.drew.cell? ⟨gm, om + j * 3, none⟩ = some (.bool t) ∧ w7.drew.cell? ⟨gm, om + j * 3 + 1, none⟩ = some (.int .i64 r) ∧ w7.drew.cell? ⟨gm, om + j * 3 + 2, none⟩ = some (.slice um ks'.length cm) := ⟨e0, e1, r0, r1, r2⟩
              have HU := Lib.hid (Since.refl w7).drew
              clear e0 e1 e2 e3 r0 r1 r2 y0 y1 y2 p0 p1 p2 n1 n3 hkq hkp hk6 S6
              go_region_held3 (fun w' => w'.cell? ⟨B, 0, none⟩ = some (.slice a b.length c) ∧ w'.cell? ⟨B, 1, none⟩ = some (.slice (some ⟨gm, om, none⟩) ps.length c') ∧ w'.cell? ⟨gm, om + j * 3, none⟩ = some (.bool t) ∧ w'.cell? ⟨gm, om + j * 3 + 1, none⟩ = some (.int .i64 r) ∧ w'.cell? ⟨gm, om + j * 3 + 2, none⟩ = some (.slice um ks'.length cm)) (first | exact s3 | exact ⟨alloc_cell s3.1 _, alloc_cell s3.2.1 _, alloc_cell s3.2.2.1 _, alloc_cell s3.2.2.2.1 _, alloc_cell s3.2.2.2.2 _⟩ | exact s5 | exact ⟨alloc_cell s5.1 _, alloc_cell s5.2.1 _, alloc_cell s5.2.2.1 _, alloc_cell s5.2.2.2.1 _, alloc_cell s5.2.2.2.2 _⟩ | exact ⟨(set3_other _ _ _ _ _ _ hBn).trans s5.1, (set3_other _ _ _ _ _ _ hBn).trans s5.2.1, (set3_other _ _ _ _ _ _ hgn).trans s5.2.2.1, (set3_other _ _ _ _ _ _ hgn).trans s5.2.2.2.1, (set3_other _ _ _ _ _ _ hgn).trans s5.2.2.2.2⟩) (first
                | (go_simp; go_at_call 38; refine (Drop_any (.slice a b.length c) b (.slice um ks'.length cm) (t, r, ks') (k : Int) w7.drew (HB1'.out.stays RVer.stays HU.out.below) (HKP.out.stays RKept.stays HU.out.below) j2).mono ?_; rintro e w9 ⟨⟨v9, rfl, ho9⟩, hb9⟩; rw [HVP.out]; rw [HDP.out] at ho9 ⊢; simp only at ho9 ⊢; obtain ⟨a9, c9, rfl, _⟩ := ho9.isRow.opened; have q9 := HU.out.step hb9; have s5 : w9.cell? ⟨B, 0, none⟩ = some (.slice a b.length c) ∧ w9.cell? ⟨B, 1, none⟩ = some (.slice (some ⟨gm, om, none⟩) ps.length c') ∧ w9.cell? ⟨gm, om + j * 3, none⟩ = some (.bool t) ∧ w9.cell? ⟨gm, om + j * 3 + 1, none⟩ = some (.int .i64 r) ∧ w9.cell? ⟨gm, om + j * 3 + 2, none⟩ = some (.slice um ks'.length cm) := ⟨below_cell hb9 s3.1, below_cell hb9 s3.2.1, below_cell hb9 s3.2.2.1, below_cell hb9 s3.2.2.2.1, below_cell hb9 s3.2.2.2.2⟩)
                | (go_simp; go_at_call 38; refine (Drop_any (.slice a b.length c) b (.slice um ks'.length cm) (t, r, ks') (k : Int) (w7.drew.alloc (.cells #[.bool false, .int .i64 0, .slice none 0 0] 61)) (HB1'.out.stays RVer.stays (HU.out.alloc _).below) (HKP.out.stays RKept.stays (HU.out.alloc _).below) j2).mono ?_; rintro e w9 ⟨⟨v9, rfl, ho9⟩, hb9⟩; rw [HVP.out]; rw [HDP.out] at ho9 ⊢; simp only at ho9 ⊢; obtain ⟨a9, c9, rfl, _⟩ := ho9.isRow.opened; have q9 := (HU.out.alloc (.cells #[.bool false, .int .i64 0, .slice none 0 0] 61)).step hb9; have s5 : w9.cell? ⟨B, 0, none⟩ = some (.slice a b.length c) ∧ w9.cell? ⟨B, 1, none⟩ = some (.slice (some ⟨gm, om, none⟩) ps.length c') ∧ w9.cell? ⟨gm, om + j * 3, none⟩ = some (.bool t) ∧ w9.cell? ⟨gm, om + j * 3 + 1, none⟩ = some (.int .i64 r) ∧ w9.cell? ⟨gm, om + j * 3 + 2, none⟩ = some (.slice um ks'.length cm) := ⟨below_cell hb9 (alloc_cell s3.1 _), below_cell hb9 (alloc_cell s3.2.1 _), below_cell hb9 (alloc_cell s3.2.2.1 _), below_cell hb9 (alloc_cell s3.2.2.2.1 _), below_cell hb9 (alloc_cell s3.2.2.2.2 _)⟩; have z0 := below_cell hb9 (show (w7.drew.alloc (.cells #[.bool false, .int .i64 0, .slice none 0 0] 61)).cell? ⟨w7.heap.size, 0, none⟩ = some (.bool false) by go_simp); have z1 := below_cell hb9 (show (w7.drew.alloc (.cells #[.bool false, .int .i64 0, .slice none 0 0] 61)).cell? ⟨w7.heap.size, 1, none⟩ = some (.int .i64 0) by go_simp); have z2 := below_cell hb9 (show (w7.drew.alloc (.cells #[.bool false, .int .i64 0, .slice none 0 0] 61)).cell? ⟨w7.heap.size, 2, none⟩ = some (.slice none 0 0) by go_simp); have z3 := below_free hb9 (show (w7.drew.alloc (.cells #[.bool false, .int .i64 0, .slice none 0 0] 61)).cell? ⟨w7.heap.size, 0, none⟩ = some (.bool false) by go_simp) (by go_simp); have z4 := below_free hb9 (show (w7.drew.alloc (.cells #[.bool false, .int .i64 0, .slice none 0 0] 61)).cell? ⟨w7.heap.size, 1, none⟩ = some (.int .i64 0) by go_simp) (by go_simp); have z5 := below_free hb9 (show (w7.drew.alloc (.cells #[.bool false, .int .i64 0, .slice none 0 0] 61)).cell? ⟨w7.heap.size, 2, none⟩ = some (.slice none 0 0) by go_simp) (by go_simp)))
              all_goals
                go_wp2_with fail
                go_meet
                first
                  | (exact ⟨_, _, _, rfl, rfl, q9.alloc _, by go_simp, by go_simp, by go_simp, ho9.isRow.later RKept.stays (Dirty.old (below_alloc _ _) _)⟩)
                  | (exact ⟨_, _, _, rfl, rfl, ((q9.setCell (a := ⟨w7.heap.size, 0, none⟩) (Nat.le_refl _) _).setCell (a := ⟨w7.heap.size, 1, none⟩) (Nat.le_refl _) _).setCell (a := ⟨w7.heap.size, 1 + 1, none⟩) (Nat.le_refl _) _, by go_simp, by go_simp, by go_simp, (ho9.later ((Dirty.of_grown (((grown_setCell w9 ⟨w7.heap.size, 0, none⟩ _).trans (grown_setCell _ ⟨w7.heap.size, 1, none⟩ _)).trans (grown_setCell _ ⟨w7.heap.size, 1 + 1, none⟩ _))).mono fun k _ hk => by cases hk; simp) (fun k hk => by have := (ho9.lt k hk).1; omega)).isRow⟩)
            case rest =>
              obtain ⟨B9, a9, c9, rfl, rfl, S9, z0, z1, z2, hk9⟩ := hcut
              have S9' := S6.step S9.below
              have HM9 := Lib.hid (HM6.out.below S9.below)
              have y0 := below_cell S9.below y0
              have y1 := below_cell S9.below y1
              have y2 := below_cell S9.below y2
              have p0 := below_cell S9.below p0
              have p1 := below_cell S9.below p1
              have p2 := below_cell S9.below p2
              clear e0 e1 e2 e3 r0 r1 r2 n1 n3 hkq hkp
              obtain ⟨_, hkq, ⟨r0, r1, r2⟩, hkp⟩ := HPQ.out _ S9'
              obtain ⟨⟨_, e1, _, _⟩, _, _, _, _⟩ := HF.out _ S9'
              have HK6 := Lib.hid ((hk6.later RKept.stays (Dirty.old S9.below _)).later RKept.stays (Dirty.old (Since.refl wc).drew.below (fun _ => False)))
              have HK9 := Lib.hid (hk9.later RKept.stays (Dirty.old (Since.refl wc).drew.below (fun _ => False)))
              have HKQ := Lib.hid (hkq.later RKept.stays (Dirty.old (Since.refl wc).drew.below (fun _ => False)))
              have HKP2 := Lib.hid (hkp.later RKept.stays (Dirty.old (Since.refl wc).drew.below (fun _ => False)))
              have HU := Lib.hid (Since.refl wc).drew
              have s3 : (wc.drew.cell? ⟨B8, 0, none⟩ = some (.bool t) ∧ wc.drew.cell? ⟨B8, 1, none⟩ = some (.int .i64 r) ∧ wc.drew.cell? ⟨B8, 2, none⟩ = some (.slice a6 (dropK (k : Int) ks).length c6)) ∧ (wc.drew.cell? ⟨B9, 0, none⟩ = some (.bool t) ∧ wc.drew.cell? ⟨B9, 1, none⟩ = some (.int .i64 r) ∧ wc.drew.cell? ⟨B9, 2, none⟩ = some (.slice a9 (dropK (k : Int) ks).length c9)) ∧ (wc.drew.cell? ⟨Bt, 0, none⟩ = some (.bool t) ∧ wc.drew.cell? ⟨Bt, 1, none⟩ = some (.int .i64 r) ∧ wc.drew.cell? ⟨Bt, 2, none⟩ = some (.slice uu ks.length cu)) ∧ wc.drew.cell? ⟨B, 1, none⟩ = some (.slice (some ⟨gm, om, none⟩) ps.length c') ∧ (wc.drew.cell? ⟨gm, om + j * 3, none⟩ = some (.bool t) ∧ wc.drew.cell? ⟨gm, om + j * 3 + 1, none⟩ = some (.int .i64 r) ∧ wc.drew.cell? ⟨gm, om + j * 3 + 2, none⟩ = some (.slice um ks'.length cm)) := ⟨⟨y0, y1, y2⟩, ⟨z0, z1, z2⟩, ⟨p0, p1, p2⟩, e1, ⟨r0, r1, r2⟩⟩
              have HS4 : Hid (∀ w', Since wc.heap.size wc w' → (w'.cell? ⟨B8, 0, none⟩ = some (.bool t) ∧ w'.cell? ⟨B8, 1, none⟩ = some (.int .i64 r) ∧ w'.cell? ⟨B8, 2, none⟩ = some (.slice a6 (dropK (k : Int) ks).length c6)) ∧ (w'.cell? ⟨B9, 0, none⟩ = some (.bool t) ∧ w'.cell? ⟨B9, 1, none⟩ = some (.int .i64 r) ∧ w'.cell? ⟨B9, 2, none⟩ = some (.slice a9 (dropK (k : Int) ks).length c9)) ∧ (w'.cell? ⟨Bt, 0, none⟩ = some (.bool t) ∧ w'.cell? ⟨Bt, 1, none⟩ = some (.int .i64 r) ∧ w'.cell? ⟨Bt, 2, none⟩ = some (.slice uu ks.length cu)) ∧ w'.cell? ⟨B, 1, none⟩ = some (.slice (some ⟨gm, om, none⟩) ps.length c') ∧ (w'.cell? ⟨gm, om + j * 3, none⟩ = some (.bool t) ∧ w'.cell? ⟨gm, om + j * 3 + 1, none⟩ = some (.int .i64 r) ∧ w'.cell? ⟨gm, om + j * 3 + 2, none⟩ = some (.slice um ks'.length cm))) :=
                Lib.hid (fun w' q => ⟨⟨below_cell q.below y0, below_cell q.below y1, below_cell q.below y2⟩, ⟨below_cell q.below z0, below_cell q.below z1, below_cell q.below z2⟩, ⟨below_cell q.below p0, below_cell q.below p1, below_cell q.below p2⟩, below_cell q.below e1, ⟨below_cell q.below r0, below_cell q.below r1, below_cell q.below r2⟩⟩)
              clear y0 y1 y2 z0 z1 z2 p0 p1 p2 e1 r0 r1 r2 hk6 hk9 hkq hkp S6 HM6
              have HPE : Hid (prEq (t, r, dropK (k : Int) ks) (t, r, dropK (k : Int) ks) = true) := Lib.hid (prEq_self _)
              go_upto_region 20 with fail
              cases t with
              | true =>
                have HSM := Lib.hid (SamePr_any (.agg #[.bool true, .int .i64 r, .slice a6 (dropK (k : Int) ks).length c6]) (.agg #[.bool true, .int .i64 r, .slice a9 (dropK (k : Int) ks).length c9]) (true, r, dropK (k : Int) ks) (true, r, dropK (k : Int) ks) wc.drew ⟨_, rfl, HK6.out, j1⟩ ⟨_, rfl, HK9.out, j1⟩)
                refine wp_region_held_drew (S := fun w' => (w'.cell? ⟨B8, 0, none⟩ = some (.bool true) ∧ w'.cell? ⟨B8, 1, none⟩ = some (.int .i64 r) ∧ w'.cell? ⟨B8, 2, none⟩ = some (.slice a6 (dropK (k : Int) ks).length c6)) ∧ (w'.cell? ⟨B9, 0, none⟩ = some (.bool true) ∧ w'.cell? ⟨B9, 1, none⟩ = some (.int .i64 r) ∧ w'.cell? ⟨B9, 2, none⟩ = some (.slice a9 (dropK (k : Int) ks).length c9)) ∧ (w'.cell? ⟨Bt, 0, none⟩ = some (.bool true) ∧ w'.cell? ⟨Bt, 1, none⟩ = some (.int .i64 r) ∧ w'.cell? ⟨Bt, 2, none⟩ = some (.slice uu ks.length cu)) ∧ w'.cell? ⟨B, 1, none⟩ = some (.slice (some ⟨gm, om, none⟩) ps.length c') ∧ (w'.cell? ⟨gm, om + j * 3, none⟩ = some (.bool true) ∧ w'.cell? ⟨gm, om + j * 3 + 1, none⟩ = some (.int .i64 r) ∧ w'.cell? ⟨gm, om + j * 3 + 2, none⟩ = some (.slice um ks'.length cm))) (by kernel_rfl) s3 (fun _ => ?_)
                refine wpAnyH_take (i := 0) (v := ?vA0) rfl (by kernel_rfl) (by kernel_rfl) (by kernel_rfl) (fun _ _ _ h => h) (Or.inl ⟨by rfl, ?hyA0⟩) (by exact s3) ?rA0
                case hyA0 => (intro w hSw; (try dsimp only at hSw); go_simp <;> with_reducible rfl)
                simp only [Act.put, List.setIfInBounds_toArray, List.set_cons_zero, List.set_cons_succ]
                refine wpAnyH_take (i := 1) (v := ?vA1) rfl (by kernel_rfl) (by kernel_rfl) (by kernel_rfl) (fun _ _ _ h => h) (Or.inl ⟨by rfl, ?hyA1⟩) (by exact s3) ?rA1
                case hyA1 => (intro w hSw; (try dsimp only at hSw); go_simp <;> with_reducible rfl)
                simp only [Act.put, List.setIfInBounds_toArray, List.set_cons_zero, List.set_cons_succ]
                refine wpAnyH_take (i := 2) (v := ?vA2) rfl (by kernel_rfl) (by kernel_rfl) (by kernel_rfl) (fun _ _ _ h => h) (Or.inl ⟨by rfl, ?hyA2⟩) (by exact s3) ?rA2
                case hyA2 => (intro w hSw; (try dsimp only at hSw); go_simp <;> with_reducible rfl)
                simp only [Act.put, List.setIfInBounds_toArray, List.set_cons_zero, List.set_cons_succ]
                refine wpAnyH_take (i := 3) (v := ?vA3) rfl (by kernel_rfl) (by kernel_rfl) (by kernel_rfl) (fun _ _ _ h => h) (Or.inl ⟨by kernel_rfl, ?hyA3⟩) (by exact s3) ?rA3
                case hyA3 => (intro w hSw; (try dsimp only at hSw); go_simp <;> with_reducible rfl)
                simp only [Act.put, List.setIfInBounds_toArray, List.set_cons_zero, List.set_cons_succ]
                refine wpAnyH_take (i := 4) (v := ?vA4) rfl (by kernel_rfl) (by kernel_rfl) (by kernel_rfl) (fun _ _ _ h => h) (Or.inl ⟨by kernel_rfl, ?hyA4⟩) (by exact s3) ?rA4
                case hyA4 => (intro w hSw; (try dsimp only at hSw); go_simp <;> with_reducible rfl)
                simp only [Act.put, List.setIfInBounds_toArray, List.set_cons_zero, List.set_cons_succ]
                refine wpAnyH_take (i := 5) (v := ?vA5) rfl (by kernel_rfl) (by kernel_rfl) (by kernel_rfl) (fun _ _ _ h => h) (Or.inl ⟨by rfl, ?hyA5⟩) (by exact s3) ?rA5
                case hyA5 => (intro w hSw; (try dsimp only at hSw); go_simp <;> with_reducible rfl)
                simp only [Act.put, List.setIfInBounds_toArray, List.set_cons_zero, List.set_cons_succ]
                refine wpAnyH_take (i := 6) (v := ?vA6) rfl (by kernel_rfl) (by kernel_rfl) (by kernel_rfl) (fun _ _ _ h => h) (Or.inl ⟨by rfl, ?hyA6⟩) (by exact s3) ?rA6
                case hyA6 => (intro w hSw; (try dsimp only at hSw); go_simp <;> with_reducible rfl)
                simp only [Act.put, List.setIfInBounds_toArray, List.set_cons_zero, List.set_cons_succ]
                refine wpAnyH_take (i := 7) (v := ?vA7) rfl (by kernel_rfl) (by kernel_rfl) (by kernel_rfl) (fun _ _ _ h => h) (Or.inl ⟨by kernel_rfl, ?hyA7⟩) (by exact s3) ?rA7
                case hyA7 => (intro w hSw; (try dsimp only at hSw); go_simp <;> with_reducible rfl)
                simp only [Act.put, List.setIfInBounds_toArray, List.set_cons_zero, List.set_cons_succ]
                refine wpAnyH_take (i := 8) (v := ?vA8) rfl (by kernel_rfl) (by kernel_rfl) (by kernel_rfl) (fun _ _ _ h => h) (Or.inl ⟨by kernel_rfl, ?hyA8⟩) (by exact s3) ?rA8
                case hyA8 => (intro w hSw; (try dsimp only at hSw); go_simp <;> with_reducible rfl)
                simp only [Act.put, List.setIfInBounds_toArray, List.set_cons_zero, List.set_cons_succ]
                refine wpAnyH_ready (rs := [9]) (by kernel_rfl) (by simp) ?_
                refine AllReadyH.cons (o := ?oA9) ?hoA9 (fun K' hK' => ?kA9) AllReadyH.nil
                case hoA9 => (simp only [List.getElem?_toArray, List.getElem?_cons_succ, List.getElem?_cons_zero]; rfl)
                go_simp
                go_at_call 39
                go_fit HSM.out
                rintro e w10 ⟨rfl, hb10⟩
                rw [HPE.out]
                have q10 := HU.out.step hb10
                have s4 := HS4.out w10 q10
                try go_wp2_with fail
                refine hK'.out _ _ s4 (fun _ => ?_)
                clear hK' K'
                refine wpAnyH_take (i := 10) (v := ?vB10) rfl (by kernel_rfl) (by kernel_rfl) (by kernel_rfl) (fun _ _ _ h => h) (Or.inl ⟨by rfl, ?hyB10⟩) (by exact s4) ?rB10
                case hyB10 => (intro w hSw; (try dsimp only at hSw); go_simp <;> with_reducible rfl)
                simp only [Act.put, List.setIfInBounds_toArray, List.set_cons_zero, List.set_cons_succ]
                refine wpAnyH_take (i := 11) (v := ?vB11) rfl (by kernel_rfl) (by kernel_rfl) (by kernel_rfl) (fun _ _ _ h => h) (Or.inl ⟨by rfl, ?hyB11⟩) (by exact s4) ?rB11
                case hyB11 => (intro w hSw; (try dsimp only at hSw); go_simp <;> with_reducible rfl)
                simp only [Act.put, List.setIfInBounds_toArray, List.set_cons_zero, List.set_cons_succ]
                refine wpAnyH_take (i := 12) (v := ?vB12) rfl (by kernel_rfl) (by kernel_rfl) (by kernel_rfl) (fun _ _ _ h => h) (Or.inl ⟨by rfl, ?hyB12⟩) (by exact s4) ?rB12
                case hyB12 => (intro w hSw; (try dsimp only at hSw); go_simp <;> with_reducible rfl)
                simp only [Act.put, List.setIfInBounds_toArray, List.set_cons_zero, List.set_cons_succ]
                refine wpAnyH_take (i := 13) (v := ?vB13) rfl (by kernel_rfl) (by kernel_rfl) (by kernel_rfl) (fun _ _ _ h => h) (Or.inl ⟨by kernel_rfl, ?hyB13⟩) (by exact s4) ?rB13
                case hyB13 => (intro w hSw; (try dsimp only at hSw); go_simp <;> with_reducible rfl)
                simp only [Act.put, List.setIfInBounds_toArray, List.set_cons_zero, List.set_cons_succ]
                refine wpAnyH_take (i := 14) (v := ?vB14) rfl (by kernel_rfl) (by kernel_rfl) (by kernel_rfl) (fun _ _ _ h => h) (Or.inl ⟨by kernel_rfl, ?hyB14⟩) (by exact s4) ?rB14
                case hyB14 => (intro w hSw; (try dsimp only at hSw); go_simp <;> with_reducible rfl)
                simp only [Act.put, List.setIfInBounds_toArray, List.set_cons_zero, List.set_cons_succ]
                refine wpAnyH_take (i := 15) (v := ?vB15) rfl (by kernel_rfl) (by kernel_rfl) (by kernel_rfl) (fun _ _ _ h => h) (Or.inl ⟨by kernel_rfl, ?hyB15⟩) (by exact s4) ?rB15
                case hyB15 => (intro w hSw; (try dsimp only at hSw); go_simp <;> with_reducible rfl)
                simp only [Act.put, List.setIfInBounds_toArray, List.set_cons_zero, List.set_cons_succ]
                refine wpAnyH_take (i := 16) (v := ?vB16) rfl (by kernel_rfl) (by kernel_rfl) (by kernel_rfl) (fun _ _ _ h => h) (Or.inl ⟨by kernel_rfl, ?hyB16⟩) (by exact s4) ?rB16
                case hyB16 => (intro w hSw; (try dsimp only at hSw); go_simp <;> with_reducible rfl)
                simp only [Act.put, List.setIfInBounds_toArray, List.set_cons_zero, List.set_cons_succ]
                refine wpAnyH_take (i := 17) rfl (by kernel_rfl) (by kernel_rfl) (by kernel_rfl) (fun _ _ _ h => h) (Or.inr ⟨by kernel_rfl, rfl⟩) (by exact s4) ?rB17
                simp only [Act.put, List.setIfInBounds_toArray, List.set_cons_zero, List.set_cons_succ]
                refine wpAnyH_take (i := 18) rfl (by kernel_rfl) (by kernel_rfl) (by kernel_rfl) (fun _ _ _ h => h) (Or.inr ⟨by kernel_rfl, rfl⟩) (by exact s4) ?rB18
                simp only [Act.put, List.setIfInBounds_toArray, List.set_cons_zero, List.set_cons_succ]
                refine wpAnyH_take (i := 19) rfl (by kernel_rfl) (by kernel_rfl) (by kernel_rfl) (fun _ _ _ h => h) (Or.inr ⟨by kernel_rfl, rfl⟩) (by exact s4) ?rB19
                simp only [Act.put, List.setIfInBounds_toArray, List.set_cons_zero, List.set_cons_succ]
                refine wpAnyH_take (i := 20) rfl (by kernel_rfl) (by kernel_rfl) (by kernel_rfl) (fun _ _ _ h => h) (Or.inr ⟨by kernel_rfl, rfl⟩) (by exact s4) ?rB20
                simp only [Act.put, List.setIfInBounds_toArray, List.set_cons_zero, List.set_cons_succ]
                refine wpAnyH_take (i := 21) rfl (by kernel_rfl) (by kernel_rfl) (by kernel_rfl) (fun _ _ _ h => h) (Or.inr ⟨by kernel_rfl, rfl⟩) (by exact s4) ?rB21
                simp only [Act.put, List.setIfInBounds_toArray, List.set_cons_zero, List.set_cons_succ]
                refine wpAnyH_take (i := 22) rfl (by kernel_rfl) (by kernel_rfl) (by kernel_rfl) (fun _ _ _ h => h) (Or.inr ⟨by kernel_rfl, rfl⟩) (by exact s4) ?rB22
                simp only [Act.put, List.setIfInBounds_toArray, List.set_cons_zero, List.set_cons_succ]
                refine wpAnyH_take (i := 23) rfl (by kernel_rfl) (by kernel_rfl) (by kernel_rfl) (fun _ _ _ h => h) (Or.inr ⟨by kernel_rfl, rfl⟩) (by exact s4) ?rB23
                simp only [Act.put, List.setIfInBounds_toArray, List.set_cons_zero, List.set_cons_succ]
                refine wpAnyH_take (i := 24) rfl (by kernel_rfl) (by kernel_rfl) (by kernel_rfl) (fun _ _ _ h => h) (Or.inr ⟨by kernel_rfl, rfl⟩) (by exact s4) ?rB24
                simp only [Act.put, List.setIfInBounds_toArray, List.set_cons_zero, List.set_cons_succ]
                refine wpAnyH_take (i := 25) (v := ?vB25) rfl (by kernel_rfl) (by kernel_rfl) (by kernel_rfl) (fun _ _ _ h => h) (Or.inl ⟨by kernel_rfl, ?hyB25⟩) (by exact s4) ?rB25
                case hyB25 => (intro w hSw; (try dsimp only at hSw); go_simp <;> with_reducible rfl)
                simp only [Act.put, List.setIfInBounds_toArray, List.set_cons_zero, List.set_cons_succ]
                refine wpAnyH_take (i := 26) (v := ?vB26) rfl (by kernel_rfl) (by kernel_rfl) (by kernel_rfl) (fun _ _ _ h => h) (Or.inl ⟨by rfl, ?hyB26⟩) (by exact s4) ?rB26
                case hyB26 => (intro w hSw; (try dsimp only at hSw); go_simp <;> with_reducible rfl)
                simp only [Act.put, List.setIfInBounds_toArray, List.set_cons_zero, List.set_cons_succ]
                refine wpAnyH_done (by kernel_rfl) ?_ _
                go_simp
                have S10 := S9'.step q10.below
                have HM10 := Lib.hid (HM9.out.below q10.below)
                clear s3 s4 hb10
                go_wp2_with fail
                go_roundw
                case rel => exact ⟨j + 1, by omega, by go_num, S10, HM10.out⟩
                case measure => simp [intOf]; omega
              | false =>
                have hkk := HD4.out rfl
                subst hkk
                have HPE2 : Hid (prEq (false, r, ks) (false, r, ks) = true) := Lib.hid (prEq_self _)
                have HSM := Lib.hid (SamePr_any (.agg #[.bool false, .int .i64 r, .slice a6 (dropK (k : Int) ks).length c6]) (.agg #[.bool false, .int .i64 r, .slice a9 (dropK (k : Int) ks).length c9]) (false, r, dropK (k : Int) ks) (false, r, dropK (k : Int) ks) wc.drew ⟨_, rfl, HK6.out, j1⟩ ⟨_, rfl, HK9.out, j1⟩)
                refine wp_region_held_drew (S := fun w' => (w'.cell? ⟨B8, 0, none⟩ = some (.bool false) ∧ w'.cell? ⟨B8, 1, none⟩ = some (.int .i64 r) ∧ w'.cell? ⟨B8, 2, none⟩ = some (.slice a6 (dropK (k : Int) ks).length c6)) ∧ (w'.cell? ⟨B9, 0, none⟩ = some (.bool false) ∧ w'.cell? ⟨B9, 1, none⟩ = some (.int .i64 r) ∧ w'.cell? ⟨B9, 2, none⟩ = some (.slice a9 (dropK (k : Int) ks).length c9)) ∧ (w'.cell? ⟨Bt, 0, none⟩ = some (.bool false) ∧ w'.cell? ⟨Bt, 1, none⟩ = some (.int .i64 r) ∧ w'.cell? ⟨Bt, 2, none⟩ = some (.slice uu ks.length cu)) ∧ w'.cell? ⟨B, 1, none⟩ = some (.slice (some ⟨gm, om, none⟩) ps.length c') ∧ (w'.cell? ⟨gm, om + j * 3, none⟩ = some (.bool false) ∧ w'.cell? ⟨gm, om + j * 3 + 1, none⟩ = some (.int .i64 r) ∧ w'.cell? ⟨gm, om + j * 3 + 2, none⟩ = some (.slice um ks.length cm))) (by kernel_rfl) s3 (fun _ => ?_)
                refine wpAnyH_take (i := 0) (v := ?vC0) rfl (by kernel_rfl) (by kernel_rfl) (by kernel_rfl) (fun _ _ _ h => h) (Or.inl ⟨by rfl, ?hyC0⟩) (by exact s3) ?rC0
                case hyC0 => (intro w hSw; (try dsimp only at hSw); go_simp <;> with_reducible rfl)
                simp only [Act.put, List.setIfInBounds_toArray, List.set_cons_zero, List.set_cons_succ]
                refine wpAnyH_take (i := 1) (v := ?vC1) rfl (by kernel_rfl) (by kernel_rfl) (by kernel_rfl) (fun _ _ _ h => h) (Or.inl ⟨by rfl, ?hyC1⟩) (by exact s3) ?rC1
                case hyC1 => (intro w hSw; (try dsimp only at hSw); go_simp <;> with_reducible rfl)
                simp only [Act.put, List.setIfInBounds_toArray, List.set_cons_zero, List.set_cons_succ]
                refine wpAnyH_take (i := 2) (v := ?vC2) rfl (by kernel_rfl) (by kernel_rfl) (by kernel_rfl) (fun _ _ _ h => h) (Or.inl ⟨by rfl, ?hyC2⟩) (by exact s3) ?rC2
                case hyC2 => (intro w hSw; (try dsimp only at hSw); go_simp <;> with_reducible rfl)
                simp only [Act.put, List.setIfInBounds_toArray, List.set_cons_zero, List.set_cons_succ]
                refine wpAnyH_take (i := 3) (v := ?vC3) rfl (by kernel_rfl) (by kernel_rfl) (by kernel_rfl) (fun _ _ _ h => h) (Or.inl ⟨by kernel_rfl, ?hyC3⟩) (by exact s3) ?rC3
                case hyC3 => (intro w hSw; (try dsimp only at hSw); go_simp <;> with_reducible rfl)
                simp only [Act.put, List.setIfInBounds_toArray, List.set_cons_zero, List.set_cons_succ]
                refine wpAnyH_take (i := 4) (v := ?vC4) rfl (by kernel_rfl) (by kernel_rfl) (by kernel_rfl) (fun _ _ _ h => h) (Or.inl ⟨by kernel_rfl, ?hyC4⟩) (by exact s3) ?rC4
                case hyC4 => (intro w hSw; (try dsimp only at hSw); go_simp <;> with_reducible rfl)
                simp only [Act.put, List.setIfInBounds_toArray, List.set_cons_zero, List.set_cons_succ]
                refine wpAnyH_take (i := 5) (v := ?vC5) rfl (by kernel_rfl) (by kernel_rfl) (by kernel_rfl) (fun _ _ _ h => h) (Or.inl ⟨by rfl, ?hyC5⟩) (by exact s3) ?rC5
                case hyC5 => (intro w hSw; (try dsimp only at hSw); go_simp <;> with_reducible rfl)
                simp only [Act.put, List.setIfInBounds_toArray, List.set_cons_zero, List.set_cons_succ]
                refine wpAnyH_take (i := 6) (v := ?vC6) rfl (by kernel_rfl) (by kernel_rfl) (by kernel_rfl) (fun _ _ _ h => h) (Or.inl ⟨by rfl, ?hyC6⟩) (by exact s3) ?rC6
                case hyC6 => (intro w hSw; (try dsimp only at hSw); go_simp <;> with_reducible rfl)
                simp only [Act.put, List.setIfInBounds_toArray, List.set_cons_zero, List.set_cons_succ]
                refine wpAnyH_take (i := 7) (v := ?vC7) rfl (by kernel_rfl) (by kernel_rfl) (by kernel_rfl) (fun _ _ _ h => h) (Or.inl ⟨by kernel_rfl, ?hyC7⟩) (by exact s3) ?rC7
                case hyC7 => (intro w hSw; (try dsimp only at hSw); go_simp <;> with_reducible rfl)
                simp only [Act.put, List.setIfInBounds_toArray, List.set_cons_zero, List.set_cons_succ]
                refine wpAnyH_take (i := 8) (v := ?vC8) rfl (by kernel_rfl) (by kernel_rfl) (by kernel_rfl) (fun _ _ _ h => h) (Or.inl ⟨by kernel_rfl, ?hyC8⟩) (by exact s3) ?rC8
                case hyC8 => (intro w hSw; (try dsimp only at hSw); go_simp <;> with_reducible rfl)
                simp only [Act.put, List.setIfInBounds_toArray, List.set_cons_zero, List.set_cons_succ]
                refine wpAnyH_ready (rs := [9]) (by kernel_rfl) (by simp) ?_
                refine AllReadyH.cons (o := ?oC9) ?hoC9 (fun K' hK' => ?kC9) AllReadyH.nil
                case hoC9 => (simp only [List.getElem?_toArray, List.getElem?_cons_succ, List.getElem?_cons_zero]; rfl)
                go_simp
                go_at_call 39
                go_fit HSM.out
                rintro e w10 ⟨rfl, hb10⟩
                rw [HPE.out]
                have q10 := HU.out.step hb10
                have s4 := HS4.out w10 q10
                have HSN := Lib.hid (SamePr_any (.agg #[.bool false, .int .i64 r, .slice uu ks.length cu]) (.agg #[.bool false, .int .i64 r, .slice um ks.length cm]) (false, r, ks) (false, r, ks) w10 ⟨_, rfl, HKQ.out.later RKept.stays (Dirty.old hb10 _), j1⟩ ⟨_, rfl, HKP2.out.later RKept.stays (Dirty.old hb10 _), j1⟩)
                try go_wp2_with fail
                refine hK'.out _ _ s4 (fun _ => ?_)
                clear hK' K'
                refine wpAnyH_take (i := 10) (v := ?vD10) rfl (by kernel_rfl) (by kernel_rfl) (by kernel_rfl) (fun _ _ _ h => h) (Or.inl ⟨by rfl, ?hyD10⟩) (by exact s4) ?rD10
                case hyD10 => (intro w hSw; (try dsimp only at hSw); go_simp <;> with_reducible rfl)
                simp only [Act.put, List.setIfInBounds_toArray, List.set_cons_zero, List.set_cons_succ]
                refine wpAnyH_take (i := 11) (v := ?vD11) rfl (by kernel_rfl) (by kernel_rfl) (by kernel_rfl) (fun _ _ _ h => h) (Or.inl ⟨by rfl, ?hyD11⟩) (by exact s4) ?rD11
                case hyD11 => (intro w hSw; (try dsimp only at hSw); go_simp <;> with_reducible rfl)
                simp only [Act.put, List.setIfInBounds_toArray, List.set_cons_zero, List.set_cons_succ]
                refine wpAnyH_take (i := 12) (v := ?vD12) rfl (by kernel_rfl) (by kernel_rfl) (by kernel_rfl) (fun _ _ _ h => h) (Or.inl ⟨by rfl, ?hyD12⟩) (by exact s4) ?rD12
                case hyD12 => (intro w hSw; (try dsimp only at hSw); go_simp <;> with_reducible rfl)
                simp only [Act.put, List.setIfInBounds_toArray, List.set_cons_zero, List.set_cons_succ]
                refine wpAnyH_take (i := 13) (v := ?vD13) rfl (by kernel_rfl) (by kernel_rfl) (by kernel_rfl) (fun _ _ _ h => h) (Or.inl ⟨by kernel_rfl, ?hyD13⟩) (by exact s4) ?rD13
                case hyD13 => (intro w hSw; (try dsimp only at hSw); go_simp <;> with_reducible rfl)
                simp only [Act.put, List.setIfInBounds_toArray, List.set_cons_zero, List.set_cons_succ]
                refine wpAnyH_take (i := 14) (v := ?vD14) rfl (by kernel_rfl) (by kernel_rfl) (by kernel_rfl) (fun _ _ _ h => h) (Or.inl ⟨by kernel_rfl, ?hyD14⟩) (by exact s4) ?rD14
                case hyD14 => (intro w hSw; (try dsimp only at hSw); go_simp <;> with_reducible rfl)
                simp only [Act.put, List.setIfInBounds_toArray, List.set_cons_zero, List.set_cons_succ]
                refine wpAnyH_take (i := 15) (v := ?vD15) rfl (by kernel_rfl) (by kernel_rfl) (by kernel_rfl) (fun _ _ _ h => h) (Or.inl ⟨by kernel_rfl, ?hyD15⟩) (by exact s4) ?rD15
                case hyD15 => (intro w hSw; (try dsimp only at hSw); go_simp <;> with_reducible rfl)
                simp only [Act.put, List.setIfInBounds_toArray, List.set_cons_zero, List.set_cons_succ]
                refine wpAnyH_take (i := 16) (v := ?vD16) rfl (by kernel_rfl) (by kernel_rfl) (by kernel_rfl) (fun _ _ _ h => h) (Or.inl ⟨by kernel_rfl, ?hyD16⟩) (by exact s4) ?rD16
                case hyD16 => (intro w hSw; (try dsimp only at hSw); go_simp <;> with_reducible rfl)
                simp only [Act.put, List.setIfInBounds_toArray, List.set_cons_zero, List.set_cons_succ]
                refine wpAnyH_take (i := 17) (v := ?vD17) rfl (by kernel_rfl) (by kernel_rfl) (by kernel_rfl) (fun _ _ _ h => h) (Or.inl ⟨by kernel_rfl, ?hyD17⟩) (by exact s4) ?rD17
                case hyD17 => (intro w hSw; (try dsimp only at hSw); go_simp <;> with_reducible rfl)
                simp only [Act.put, List.setIfInBounds_toArray, List.set_cons_zero, List.set_cons_succ]
                refine wpAnyH_take (i := 18) (v := ?vD18) rfl (by kernel_rfl) (by kernel_rfl) (by kernel_rfl) (fun _ _ _ h => h) (Or.inl ⟨by kernel_rfl, ?hyD18⟩) (by exact s4) ?rD18
                case hyD18 => (intro w hSw; (try dsimp only at hSw); go_simp <;> with_reducible rfl)
                simp only [Act.put, List.setIfInBounds_toArray, List.set_cons_zero, List.set_cons_succ]
                refine wpAnyH_take (i := 19) (v := ?vD19) rfl (by kernel_rfl) (by kernel_rfl) (by kernel_rfl) (fun _ _ _ h => h) (Or.inl ⟨by kernel_rfl, ?hyD19⟩) (by exact s4) ?rD19
                case hyD19 => (intro w hSw; (try dsimp only at hSw); go_simp <;> with_reducible rfl)
                simp only [Act.put, List.setIfInBounds_toArray, List.set_cons_zero, List.set_cons_succ]
                refine wpAnyH_take (i := 20) (v := ?vD20) rfl (by kernel_rfl) (by kernel_rfl) (by kernel_rfl) (fun _ _ _ h => h) (Or.inl ⟨by kernel_rfl, ?hyD20⟩) (by exact s4) ?rD20
                case hyD20 => (intro w hSw; (try dsimp only at hSw); go_simp <;> with_reducible rfl)
                simp only [Act.put, List.setIfInBounds_toArray, List.set_cons_zero, List.set_cons_succ]
                refine wpAnyH_take (i := 21) (v := ?vD21) rfl (by kernel_rfl) (by kernel_rfl) (by kernel_rfl) (fun _ _ _ h => h) (Or.inl ⟨by kernel_rfl, ?hyD21⟩) (by exact s4) ?rD21
                case hyD21 => (intro w hSw; (try dsimp only at hSw); go_simp <;> with_reducible rfl)
                simp only [Act.put, List.setIfInBounds_toArray, List.set_cons_zero, List.set_cons_succ]
                refine wpAnyH_take (i := 22) (v := ?vD22) rfl (by kernel_rfl) (by kernel_rfl) (by kernel_rfl) (fun _ _ _ h => h) (Or.inl ⟨by kernel_rfl, ?hyD22⟩) (by exact s4) ?rD22
                case hyD22 => (intro w hSw; (try dsimp only at hSw); go_simp <;> with_reducible rfl)
                simp only [Act.put, List.setIfInBounds_toArray, List.set_cons_zero, List.set_cons_succ]
                refine wpAnyH_ready (rs := [23]) (by kernel_rfl) (by simp) ?_
                refine AllReadyH.cons (o := ?oD23) ?hoD23 (fun K' hK' => ?kD23) AllReadyH.nil
                case hoD23 => (simp only [List.getElem?_toArray, List.getElem?_cons_succ, List.getElem?_cons_zero]; rfl)
                go_simp
                go_at_call 39
                go_fit HSN.out
                rintro e w11 ⟨rfl, hb11⟩
                rw [HPE2.out]
                have q11 := q10.step hb11
                have s5 := HS4.out w11 q11
                try go_wp2_with fail
                refine hK'.out _ _ s5 (fun _ => ?_)
                clear hK' K'
                refine wpAnyH_take (i := 24) (v := ?vE24) rfl (by kernel_rfl) (by kernel_rfl) (by kernel_rfl) (fun _ _ _ h => h) (Or.inl ⟨by kernel_rfl, ?hyE24⟩) (by exact s5) ?rE24
                case hyE24 => (intro w hSw; (try dsimp only at hSw); go_simp <;> with_reducible rfl)
                simp only [Act.put, List.setIfInBounds_toArray, List.set_cons_zero, List.set_cons_succ]
                refine wpAnyH_take (i := 25) (v := ?vE25) rfl (by kernel_rfl) (by kernel_rfl) (by kernel_rfl) (fun _ _ _ h => h) (Or.inl ⟨by kernel_rfl, ?hyE25⟩) (by exact s5) ?rE25
                case hyE25 => (intro w hSw; (try dsimp only at hSw); go_simp <;> with_reducible rfl)
                simp only [Act.put, List.setIfInBounds_toArray, List.set_cons_zero, List.set_cons_succ]
                refine wpAnyH_take (i := 26) (v := ?vE26) rfl (by kernel_rfl) (by kernel_rfl) (by kernel_rfl) (fun _ _ _ h => h) (Or.inl ⟨by rfl, ?hyE26⟩) (by exact s5) ?rE26
                case hyE26 => (intro w hSw; (try dsimp only at hSw); go_simp <;> with_reducible rfl)
                simp only [Act.put, List.setIfInBounds_toArray, List.set_cons_zero, List.set_cons_succ]
                refine wpAnyH_done (by kernel_rfl) ?_ _
                go_simp
                have S11 := S9'.step q11.below
                have HM11 := Lib.hid (HM9.out.below q11.below)
                clear s3 s4 s5 hb10 hb11
                go_wp2_with fail
                go_roundw
                case rel => exact ⟨j + 1, by omega, by go_num, S11, HM11.out⟩
                case measure => simp [intOf]; omega
      · obtain rfl : qs.length = j := by omega
        rw [List.take_length] at hm
        have hlen := (show OwnsSet Try.prog 3 4 wr.drew Bm (numsS (k : Int) qs) from hm.block rfl).lenOnce (t := 75) Try.underlying75 3
        rw [once_len, HWH.out.len] at hlen
        obtain ⟨⟨e0, e1, e2, e3⟩, n1, _, _, _⟩ := HF.out wr hS
        obtain ⟨gv, ov, uv, cv, ea, k0, k1', k2', k3', _, _, _, _⟩ := vers_at n1 HX.out
        subst ea
        have s3 : wr.drew.cell? ⟨B, 0, none⟩ = some (.slice (some ⟨gv, ov, none⟩) b.length c) ∧ wr.drew.cell? ⟨gv, ov + k * 4 + 2, none⟩ = some (.int .i64 (o : Int)) := ⟨e0, k2'⟩
        have b3 : (k : Int) < (b.length : Int) := by omega
        have S9 := S1.step hS.below
        clear hm hlt n1
        go_upto_region 23 with fail
        clear e0 e1 e2 e3 k0 k1' k2' k3'
        go_region_held3 (fun w' => (w'.cell? ⟨B, 0, none⟩ = some (.slice (some ⟨gv, ov, none⟩) b.length c) ∧ w'.cell? ⟨gv, ov + k * 4 + 2, none⟩ = some (.int .i64 (o : Int))) ∧ (Builtin.len_ #[75] 3 #[.map (some Bm)]).run Try.prog w' = .ok (.int .i64 (o : Int)) w') (first | exact ⟨s3, hlen⟩) (fail)
        all_goals
          go_wp2_with fail
          go_ret
          exact ⟨ret_bool (by simp), (S9.drew).below⟩
  · go_enter Try.func11, Try.ntmps11
    go_upto_region 1 with fail
    generalize W.alloc (.cells #[.slice a b.length c, .slice a' ps.length c'] 53) = w0 at *
    obtain ⟨B, hB⟩ : ∃ B, B = W.heap.size := ⟨_, rfl⟩
    rw [← hB] at c0 c1 ⊢
    clear hB hb0 hu0
    go_wp2_with (first
      | (go_at_call 35; go_fit HR.out; rintro e w1 ⟨⟨u1, u2, rfl, ho1⟩, hb1⟩; obtain ⟨a1, k1, rfl, _⟩ := ho1.vers.opened; obtain ⟨a2, k2, rfl, _⟩ := ho1.peers.opened; have S1 := (S0.step hb1).alloc (.cells #[.slice a1 (repairC (b, ps) v).1.length k1, .slice a2 (repairC (b, ps) v).2.length k2] 53))
      | (go_at_call 27; go_fit (woven_any (w1.alloc (.cells #[.slice a1 (repairC (b, ps) v).1.length k1, .slice a2 (repairC (b, ps) v).2.length k2] 53))); rintro e w2 ⟨rfl, hb2⟩)
      | (go_at_call 27; go_fit (woven_any w2); rintro e w3 ⟨rfl, hb3⟩))
    go_ret
    exact ⟨rfl, ((S1.step hb2).step hb3).below⟩
end Go.Proofs.Ytnpdojjffbhalaa
