/-
  The walk of MeshSays: what is said of meshes is said as the reference says it. (Printed by wip/tools/mkmeshsays.py.)
-/
import Derived.Test.YtjakdgchfimhkaaGreatRepaired
import Derived.Test.YtjakdgchfimhkaaGreatSavedIn
import Derived.Test.YtjakdgchfimhkaaGreatSameMesh
import Derived.Test.YtjakdgchfimhkaaGreatThere3
import Derived.Test.YtjakdgchfimhkaaGreatRepair
import Derived.Test.YtjakdgchfimhkaaGreatMends
import Derived.Test.YtjakdgchfimhkaaGreatSaves
import Derived.Test.YtjakdgchfimhkaaGreatWovens
import Derived.Test.YtjakdgchfimhkaaGreatReadMesh
import Derived.Deep.RegionHeld3
namespace Go.Proofs.YtjakdgchfimhkaaGreat
open Go.RowKit

set_option linter.unusedSimpArgs false in
set_option maxRecDepth 100000 in
set_option maxHeartbeats 16000000 in
theorem meshSays_all (vb u : Value) (b : List Ver) (ps : List Pr) (v : Int) (vd : Value) (data : List Int) (vp : Value) (pr : List Int) (n o s : Int) (vr : Value) (room : List Int) (vb2 u2 : Value) (b2 : List Ver) (ps2 : List Pr) (W : World) (hb : IsVers W vb b) (hu : IsPeers W u ps) (hv : I64 v) (hd : IsInts W vd data) (hp : IsInts W vp pr) (hn : I64 n) (ho : I64 o) (hr : IsInts W vr room) (hb2 : IsVers W vb2 b2) (hu2 : IsPeers W u2 ps2) (hrb : room.length ≤ 1900000) :
    Calls Tryz.prog 3 #[.agg #[vb, u], .int .i64 v, vd, vp, .agg #[.int .i64 n, .int .i64 o, .int .i64 s], vr, .agg #[vb2, u2]] W fun e w' => e = .returned (.bool true) ∧ Below W.heap.size W w' := by
  obtain ⟨a, c, rfl, _⟩ := hb.opened
  obtain ⟨a', c', rfl, _⟩ := hu.opened
  obtain ⟨ad, cd, rfl, _⟩ := hd.opened
  obtain ⟨ap, cp, rfl, _⟩ := hp.opened
  obtain ⟨ar, cr, rfl, _⟩ := hr.opened
  obtain ⟨oa, oc, rfl, _⟩ := hb2.opened
  obtain ⟨ob, od, rfl, _⟩ := hu2.opened
  obtain ⟨w0, hw0⟩ : ∃ w0, w0 = ((W.alloc (.cells #[.slice a b.length c, .slice a' ps.length c'] 27)).alloc (.cells #[.int .i64 n, .int .i64 o, .int .i64 s] 30)).alloc (.cells #[.slice oa b2.length oc, .slice ob ps2.length od] 27) := ⟨_, rfl⟩
  have S0 : Since W.heap.size W w0 := by rw [hw0]; exact (((Since.refl W).alloc _).alloc _).alloc _
  have c0 : w0.cell? ⟨W.heap.size, 0, none⟩ = some (.slice a b.length c) := by rw [hw0]; go_simp
  have c1 : w0.cell? ⟨W.heap.size, 1, none⟩ = some (.slice a' ps.length c') := by rw [hw0]; go_simp
  have c2 : w0.cell? ⟨W.heap.size + 1, 0, none⟩ = some (.int .i64 n) := by rw [hw0]; go_simp
  have c3 : w0.cell? ⟨W.heap.size + 1, 1, none⟩ = some (.int .i64 o) := by rw [hw0]; go_simp
  have c4 : w0.cell? ⟨W.heap.size + 2, 0, none⟩ = some (.slice oa b2.length oc) := by rw [hw0]; go_simp
  have c5 : w0.cell? ⟨W.heap.size + 2, 1, none⟩ = some (.slice ob ps2.length od) := by rw [hw0]; go_simp
  have HW := Lib.hid hw0
  clear hw0
  obtain ⟨B, hB⟩ : ∃ B, B = W.heap.size := ⟨_, rfl⟩
  obtain ⟨B2, hB2⟩ : ∃ B, B = W.heap.size + 1 := ⟨_, rfl⟩
  obtain ⟨B3, hB3⟩ : ∃ B, B = W.heap.size + 2 := ⟨_, rfl⟩
  rw [← hB] at c0 c1
  rw [← hB2] at c2 c3
  rw [← hB3] at c4 c5
  have HB := Lib.hid hB
  have HB2 := Lib.hid hB2
  have HB3 := Lib.hid hB3
  clear hB hB2 hB3
  have HF : Hid (∀ w', Since w0.heap.size w0 w' → w'.cell? ⟨B, 0, none⟩ = some (.slice a b.length c) ∧ w'.cell? ⟨B, 1, none⟩ = some (.slice a' ps.length c') ∧ w'.cell? ⟨B2, 0, none⟩ = some (.int .i64 n) ∧ w'.cell? ⟨B2, 1, none⟩ = some (.int .i64 o) ∧ w'.cell? ⟨B3, 0, none⟩ = some (.slice oa b2.length oc) ∧ w'.cell? ⟨B3, 1, none⟩ = some (.slice ob ps2.length od)) := Lib.hid (fun w' q => ⟨below_cell q.below c0, below_cell q.below c1, below_cell q.below c2, below_cell q.below c3, below_cell q.below c4, below_cell q.below c5⟩)
  have HV : Hid (∀ w', Since w0.heap.size w0 w' → IsVers w' (.slice a b.length c) b) := Lib.hid (fun w' q => hb.stays RVer.stays (S0.step q.below).below)
  have HU : Hid (∀ w', Since w0.heap.size w0 w' → IsPeers w' (.slice a' ps.length c') ps) := Lib.hid (fun w' q => hu.stays RPeer.stays (S0.step q.below).below)
  have HD : Hid (∀ w', Since w0.heap.size w0 w' → IsInts w' (.slice ad data.length cd) data) := Lib.hid (fun w' q => hd.stays (S0.step q.below).below)
  have HP : Hid (∀ w', Since w0.heap.size w0 w' → IsInts w' (.slice ap pr.length cp) pr) := Lib.hid (fun w' q => hp.stays (S0.step q.below).below)
  have HRM : Hid (∀ w', Since w0.heap.size w0 w' → IsInts w' (.slice ar room.length cr) room) := Lib.hid (fun w' q => hr.stays (S0.step q.below).below)
  have HV2 : Hid (∀ w', Since w0.heap.size w0 w' → IsVers w' (.slice oa b2.length oc) b2) := Lib.hid (fun w' q => hb2.stays RVer.stays (S0.step q.below).below)
  have HU2 : Hid (∀ w', Since w0.heap.size w0 w' → IsPeers w' (.slice ob ps2.length od) ps2) := Lib.hid (fun w' q => hu2.stays RPeer.stays (S0.step q.below).below)
  clear hb hu hd hp hr hb2 hu2 c0 c1 c2 c3 c4 c5
  go_enter Tryz.func3, Tryz.ntmps3
  go_upto_region 1 with fail
  rw [← HW.out, ← HB3.out, ← HB2.out, ← HB.out]
  have T0 := Since.refl w0
  obtain ⟨EA, hEA⟩ : ∃ x, x = newE room := ⟨_, rfl⟩
  have HEA := Lib.hid hEA
  clear hEA
  obtain ⟨CA, hCA⟩ : ∃ x, x = newC room := ⟨_, rfl⟩
  have HCA := Lib.hid hCA
  clear hCA
  obtain ⟨ER, hER⟩ : ∃ x, x = restE (b, ps) v := ⟨_, rfl⟩
  have HER := Lib.hid hER
  clear hER
  obtain ⟨BR, hBR⟩ : ∃ x, x = restB (b, ps) v := ⟨_, rfl⟩
  have HBR := Lib.hid hBR
  clear hBR
  obtain ⟨WR, hWR⟩ : ∃ x, x = restW (b, ps) v := ⟨_, rfl⟩
  have HWR := Lib.hid hWR
  clear hWR
  obtain ⟨EP, hEP⟩ : ∃ x, x = repairE (b, ps) v := ⟨_, rfl⟩
  have HEP := Lib.hid hEP
  clear hEP
  obtain ⟨CP, hCP⟩ : ∃ x, x = repairC (b, ps) v := ⟨_, rfl⟩
  have HCP := Lib.hid hCP
  clear hCP
  obtain ⟨ES, hES⟩ : ∃ x, x = saveE (b, ps) data pr n o := ⟨_, rfl⟩
  have HES := Lib.hid hES
  clear hES
  obtain ⟨CS, hCS⟩ : ∃ x, x = saveC (b, ps) data pr n o := ⟨_, rfl⟩
  have HCS := Lib.hid hCS
  clear hCS
  go_upto_region 2 with (go_at_call 4; go_fit (New_any _ room w0 (HRM.out w0 T0) hrb); rintro e x1 ⟨⟨u1, u2, rfl, ho1⟩, hx1⟩; rw [← HEA.out]; obtain ⟨p1, q1, rfl, _⟩ := ho1.vers.opened; obtain ⟨r1, s1, rfl, _⟩ := ho1.peers.opened)
  have hv1 := ho1.vers
  have hp1 := ho1.peers
  rw [← HCA.out] at hv1 hp1 ⊢
  have BA1 := below_alloc x1 (.cells #[.slice p1 CA.1.length q1, .slice r1 CA.2.length s1] 27)
  have T1 := (T0.step hx1).alloc (.cells #[.slice p1 CA.1.length q1, .slice r1 CA.2.length s1] 27)
  have z0 : (x1.alloc (.cells #[.slice p1 CA.1.length q1, .slice r1 CA.2.length s1] 27)).cell? ⟨x1.heap.size, 0, none⟩ = some (.slice p1 CA.1.length q1) := by go_simp
  have z1 : (x1.alloc (.cells #[.slice p1 CA.1.length q1, .slice r1 CA.2.length s1] 27)).cell? ⟨x1.heap.size, 1, none⟩ = some (.slice r1 CA.2.length s1) := by go_simp
  have hv1 := hv1.stays RVer.stays BA1
  have hp1 := hp1.stays RPeer.stays BA1
  generalize x1.alloc (.cells #[.slice p1 CA.1.length q1, .slice r1 CA.2.length s1] 27) = w1 at *
  obtain ⟨Q1, hQ1⟩ : ∃ Q, Q = x1.heap.size := ⟨_, rfl⟩
  rw [← hQ1] at z0 z1 ⊢
  clear hQ1
  have HM1 : Hid (∀ w', Since w1.heap.size w1 w' → w'.cell? ⟨Q1, 0, none⟩ = some (.slice p1 CA.1.length q1) ∧ w'.cell? ⟨Q1, 1, none⟩ = some (.slice r1 CA.2.length s1) ∧ IsVers w' (.slice p1 CA.1.length q1) CA.1 ∧ IsPeers w' (.slice r1 CA.2.length s1) CA.2) := Lib.hid (fun w' h => ⟨below_cell h.below z0, below_cell h.below z1, hv1.stays RVer.stays h.below, hp1.stays RPeer.stays h.below⟩)
  have V1 := Since.refl w1
  clear z0 z1 hv1 hp1 BA1 hx1 ho1 
  obtain ⟨d0, d1, d2, d3, d4, d5⟩ := HF.out w1 T1
  go_upto_region 3 with (go_at_call 5; go_fit (Restore_any _ b _ ps v w1 (HV.out w1 T1) (HU.out w1 T1)); rintro e w2 ⟨⟨u1, u2, rfl, hi2, hj2⟩, hx2⟩; rw [← HER.out]; obtain ⟨p2, q2, rfl, _⟩ := hi2.opened; obtain ⟨r2, s2, rfl, _⟩ := hj2.opened)
  rw [← HBR.out] at hi2 ⊢
  rw [← HWR.out] at hj2 ⊢
  have T2 := T1.step hx2
  have V1 := V1.step hx2
  have V2 := Since.refl w2
  have HI2 : Hid (∀ w', Since w2.heap.size w2 w' → IsInts w' (.slice p2 BR.length q2) BR ∧ IsInts w' (.slice r2 WR.length s2) WR) := Lib.hid (fun w' h => ⟨hi2.stays h.below, hj2.stays h.below⟩)
  clear hi2 hj2 hx2 d0 d1 d2 d3 d4 d5
  obtain ⟨d0, d1, d2, d3, d4, d5⟩ := HF.out w2 T2
  go_upto_region 4 with (go_at_call 6; go_fit (Repair_any _ _ b ps v w2 (HV.out w2 T2) (HU.out w2 T2) hv); rintro e x3 ⟨⟨u1, u2, rfl, ho3⟩, hx3⟩; rw [← HEP.out]; obtain ⟨p3, q3, rfl, _⟩ := ho3.vers.opened; obtain ⟨r3, s3, rfl, _⟩ := ho3.peers.opened)
  have hv3 := ho3.vers
  have hp3 := ho3.peers
  rw [← HCP.out] at hv3 hp3 ⊢
  have BA3 := below_alloc x3 (.cells #[.slice p3 CP.1.length q3, .slice r3 CP.2.length s3] 27)
  have T3 := (T2.step hx3).alloc (.cells #[.slice p3 CP.1.length q3, .slice r3 CP.2.length s3] 27)
  have V1 := (V1.step hx3).alloc (.cells #[.slice p3 CP.1.length q3, .slice r3 CP.2.length s3] 27)
  have V2 := (V2.step hx3).alloc (.cells #[.slice p3 CP.1.length q3, .slice r3 CP.2.length s3] 27)
  have z0 : (x3.alloc (.cells #[.slice p3 CP.1.length q3, .slice r3 CP.2.length s3] 27)).cell? ⟨x3.heap.size, 0, none⟩ = some (.slice p3 CP.1.length q3) := by go_simp
  have z1 : (x3.alloc (.cells #[.slice p3 CP.1.length q3, .slice r3 CP.2.length s3] 27)).cell? ⟨x3.heap.size, 1, none⟩ = some (.slice r3 CP.2.length s3) := by go_simp
  have hv3 := hv3.stays RVer.stays BA3
  have hp3 := hp3.stays RPeer.stays BA3
  generalize x3.alloc (.cells #[.slice p3 CP.1.length q3, .slice r3 CP.2.length s3] 27) = w3 at *
  obtain ⟨Q3, hQ3⟩ : ∃ Q, Q = x3.heap.size := ⟨_, rfl⟩
  rw [← hQ3] at z0 z1 ⊢
  clear hQ3
  have HM3 : Hid (∀ w', Since w3.heap.size w3 w' → w'.cell? ⟨Q3, 0, none⟩ = some (.slice p3 CP.1.length q3) ∧ w'.cell? ⟨Q3, 1, none⟩ = some (.slice r3 CP.2.length s3) ∧ IsVers w' (.slice p3 CP.1.length q3) CP.1 ∧ IsPeers w' (.slice r3 CP.2.length s3) CP.2) := Lib.hid (fun w' h => ⟨below_cell h.below z0, below_cell h.below z1, hv3.stays RVer.stays h.below, hp3.stays RPeer.stays h.below⟩)
  have V3 := Since.refl w3
  clear z0 z1 hv3 hp3 BA3 hx3 ho3 d0 d1 d2 d3 d4 d5
  obtain ⟨d0, d1, d2, d3, d4, d5⟩ := HF.out w3 T3
  go_upto_region 5 with (go_at_call 7; go_fit (Save_any _ _ _ _ b ps data pr n o w3 (HV.out w3 T3) (HU.out w3 T3) (HD.out w3 T3) (HP.out w3 T3) hn ho); rintro e x4 ⟨⟨u1, u2, rfl, ho4⟩, hx4⟩; rw [← HES.out]; obtain ⟨p4, q4, rfl, _⟩ := ho4.vers.opened; obtain ⟨r4, s4, rfl, _⟩ := ho4.peers.opened)
  have hv4 := ho4.vers
  have hp4 := ho4.peers
  rw [← HCS.out] at hv4 hp4 ⊢
  have BA4 := below_alloc x4 (.cells #[.slice p4 CS.1.length q4, .slice r4 CS.2.length s4] 27)
  have T4 := (T3.step hx4).alloc (.cells #[.slice p4 CS.1.length q4, .slice r4 CS.2.length s4] 27)
  have V1 := (V1.step hx4).alloc (.cells #[.slice p4 CS.1.length q4, .slice r4 CS.2.length s4] 27)
  have V2 := (V2.step hx4).alloc (.cells #[.slice p4 CS.1.length q4, .slice r4 CS.2.length s4] 27)
  have V3 := (V3.step hx4).alloc (.cells #[.slice p4 CS.1.length q4, .slice r4 CS.2.length s4] 27)
  have z0 : (x4.alloc (.cells #[.slice p4 CS.1.length q4, .slice r4 CS.2.length s4] 27)).cell? ⟨x4.heap.size, 0, none⟩ = some (.slice p4 CS.1.length q4) := by go_simp
  have z1 : (x4.alloc (.cells #[.slice p4 CS.1.length q4, .slice r4 CS.2.length s4] 27)).cell? ⟨x4.heap.size, 1, none⟩ = some (.slice r4 CS.2.length s4) := by go_simp
  have hv4 := hv4.stays RVer.stays BA4
  have hp4 := hp4.stays RPeer.stays BA4
  generalize x4.alloc (.cells #[.slice p4 CS.1.length q4, .slice r4 CS.2.length s4] 27) = w4 at *
  obtain ⟨Q4, hQ4⟩ : ∃ Q, Q = x4.heap.size := ⟨_, rfl⟩
  rw [← hQ4] at z0 z1 ⊢
  clear hQ4
  have HM4 : Hid (∀ w', Since w4.heap.size w4 w' → w'.cell? ⟨Q4, 0, none⟩ = some (.slice p4 CS.1.length q4) ∧ w'.cell? ⟨Q4, 1, none⟩ = some (.slice r4 CS.2.length s4) ∧ IsVers w' (.slice p4 CS.1.length q4) CS.1 ∧ IsPeers w' (.slice r4 CS.2.length s4) CS.2) := Lib.hid (fun w' h => ⟨below_cell h.below z0, below_cell h.below z1, hv4.stays RVer.stays h.below, hp4.stays RPeer.stays h.below⟩)
  have V4 := Since.refl w4
  clear z0 z1 hv4 hp4 BA4 hx4 ho4 d0 d1 d2 d3 d4 d5
  go_upto_region 6 with (go_at_call 8; go_fit (FreshMesh_any _ room w4 (HRM.out w4 T4) hrb); rintro e x5 ⟨⟨u1, u2, rfl, ho5⟩, hx5⟩; rw [← HEA.out]; obtain ⟨p5, q5, rfl, _⟩ := ho5.vers.opened; obtain ⟨r5, s5, rfl, _⟩ := ho5.peers.opened)
  have hv5 := ho5.vers
  have hp5 := ho5.peers
  rw [← HCA.out] at hv5 hp5 ⊢
  have BA5 := below_alloc x5 (.cells #[.slice p5 CA.1.length q5, .slice r5 CA.2.length s5] 27)
  have T5 := (T4.step hx5).alloc (.cells #[.slice p5 CA.1.length q5, .slice r5 CA.2.length s5] 27)
  have V1 := (V1.step hx5).alloc (.cells #[.slice p5 CA.1.length q5, .slice r5 CA.2.length s5] 27)
  have V2 := (V2.step hx5).alloc (.cells #[.slice p5 CA.1.length q5, .slice r5 CA.2.length s5] 27)
  have V3 := (V3.step hx5).alloc (.cells #[.slice p5 CA.1.length q5, .slice r5 CA.2.length s5] 27)
  have V4 := (V4.step hx5).alloc (.cells #[.slice p5 CA.1.length q5, .slice r5 CA.2.length s5] 27)
  have z0 : (x5.alloc (.cells #[.slice p5 CA.1.length q5, .slice r5 CA.2.length s5] 27)).cell? ⟨x5.heap.size, 0, none⟩ = some (.slice p5 CA.1.length q5) := by go_simp
  have z1 : (x5.alloc (.cells #[.slice p5 CA.1.length q5, .slice r5 CA.2.length s5] 27)).cell? ⟨x5.heap.size, 1, none⟩ = some (.slice r5 CA.2.length s5) := by go_simp
  have hv5 := hv5.stays RVer.stays BA5
  have hp5 := hp5.stays RPeer.stays BA5
  generalize x5.alloc (.cells #[.slice p5 CA.1.length q5, .slice r5 CA.2.length s5] 27) = w5 at *
  obtain ⟨Q5, hQ5⟩ : ∃ Q, Q = x5.heap.size := ⟨_, rfl⟩
  rw [← hQ5] at z0 z1 ⊢
  clear hQ5
  have HM5 : Hid (∀ w', Since w5.heap.size w5 w' → w'.cell? ⟨Q5, 0, none⟩ = some (.slice p5 CA.1.length q5) ∧ w'.cell? ⟨Q5, 1, none⟩ = some (.slice r5 CA.2.length s5) ∧ IsVers w' (.slice p5 CA.1.length q5) CA.1 ∧ IsPeers w' (.slice r5 CA.2.length s5) CA.2) := Lib.hid (fun w' h => ⟨below_cell h.below z0, below_cell h.below z1, hv5.stays RVer.stays h.below, hp5.stays RPeer.stays h.below⟩)
  have V5 := Since.refl w5
  clear z0 z1 hv5 hp5 BA5 hx5 ho5 
  obtain ⟨d0, d1, d2, d3, d4, d5⟩ := HF.out w5 T5
  go_upto_region 7 with (go_at_call 9; go_fit (Restored_any _ _ b ps v w5 (HV.out w5 T5) (HU.out w5 T5)); rintro e w6 ⟨⟨u1, u2, rfl, hi6, hj6⟩, hx6⟩; rw [← HER.out]; obtain ⟨p6, q6, rfl, _⟩ := hi6.opened; obtain ⟨r6, s6, rfl, _⟩ := hj6.opened)
  rw [← HBR.out] at hi6 ⊢
  rw [← HWR.out] at hj6 ⊢
  have T6 := T5.step hx6
  have V1 := V1.step hx6
  have V2 := V2.step hx6
  have V3 := V3.step hx6
  have V4 := V4.step hx6
  have V5 := V5.step hx6
  have V6 := Since.refl w6
  have HI6 : Hid (∀ w', Since w6.heap.size w6 w' → IsInts w' (.slice p6 BR.length q6) BR ∧ IsInts w' (.slice r6 WR.length s6) WR) := Lib.hid (fun w' h => ⟨hi6.stays h.below, hj6.stays h.below⟩)
  clear hi6 hj6 hx6 d0 d1 d2 d3 d4 d5
  obtain ⟨d0, d1, d2, d3, d4, d5⟩ := HF.out w6 T6
  go_upto_region 8 with (go_at_call 10; go_fit (Repaired_any _ _ b ps v w6 (HV.out w6 T6) (HU.out w6 T6)); rintro e x7 ⟨⟨u1, u2, rfl, hv7, hp7⟩, hx7⟩; rw [← HEP.out]; obtain ⟨p7, q7, rfl, _⟩ := hv7.opened; obtain ⟨r7, s7, rfl, _⟩ := hp7.opened)
  rw [← HCP.out] at hv7 hp7 ⊢
  have BA7 := below_alloc x7 (.cells #[.slice p7 CP.1.length q7, .slice r7 CP.2.length s7] 27)
  have T7 := (T6.step hx7).alloc (.cells #[.slice p7 CP.1.length q7, .slice r7 CP.2.length s7] 27)
  have V1 := (V1.step hx7).alloc (.cells #[.slice p7 CP.1.length q7, .slice r7 CP.2.length s7] 27)
  have V2 := (V2.step hx7).alloc (.cells #[.slice p7 CP.1.length q7, .slice r7 CP.2.length s7] 27)
  have V3 := (V3.step hx7).alloc (.cells #[.slice p7 CP.1.length q7, .slice r7 CP.2.length s7] 27)
  have V4 := (V4.step hx7).alloc (.cells #[.slice p7 CP.1.length q7, .slice r7 CP.2.length s7] 27)
  have V5 := (V5.step hx7).alloc (.cells #[.slice p7 CP.1.length q7, .slice r7 CP.2.length s7] 27)
  have V6 := (V6.step hx7).alloc (.cells #[.slice p7 CP.1.length q7, .slice r7 CP.2.length s7] 27)
  have z0 : (x7.alloc (.cells #[.slice p7 CP.1.length q7, .slice r7 CP.2.length s7] 27)).cell? ⟨x7.heap.size, 0, none⟩ = some (.slice p7 CP.1.length q7) := by go_simp
  have z1 : (x7.alloc (.cells #[.slice p7 CP.1.length q7, .slice r7 CP.2.length s7] 27)).cell? ⟨x7.heap.size, 1, none⟩ = some (.slice r7 CP.2.length s7) := by go_simp
  have hv7 := hv7.stays RVer.stays BA7
  have hp7 := hp7.stays RPeer.stays BA7
  generalize x7.alloc (.cells #[.slice p7 CP.1.length q7, .slice r7 CP.2.length s7] 27) = w7 at *
  obtain ⟨Q7, hQ7⟩ : ∃ Q, Q = x7.heap.size := ⟨_, rfl⟩
  rw [← hQ7] at z0 z1 ⊢
  clear hQ7
  have HM7 : Hid (∀ w', Since w7.heap.size w7 w' → w'.cell? ⟨Q7, 0, none⟩ = some (.slice p7 CP.1.length q7) ∧ w'.cell? ⟨Q7, 1, none⟩ = some (.slice r7 CP.2.length s7) ∧ IsVers w' (.slice p7 CP.1.length q7) CP.1 ∧ IsPeers w' (.slice r7 CP.2.length s7) CP.2) := Lib.hid (fun w' h => ⟨below_cell h.below z0, below_cell h.below z1, hv7.stays RVer.stays h.below, hp7.stays RPeer.stays h.below⟩)
  have V7 := Since.refl w7
  clear z0 z1 hv7 hp7 BA7 hx7  d0 d1 d2 d3 d4 d5
  obtain ⟨d0, d1, d2, d3, d4, d5⟩ := HF.out w7 T7
  go_upto_region 9 with (go_at_call 11; go_fit (SavedIn_any _ _ _ _ b ps data pr n o w7 (HV.out w7 T7) (HU.out w7 T7) (HD.out w7 T7) (HP.out w7 T7) hn ho); rintro e x8 ⟨⟨u1, u2, rfl, hv8, hp8⟩, hx8⟩; rw [← HES.out]; obtain ⟨p8, q8, rfl, _⟩ := hv8.opened; obtain ⟨r8, s8, rfl, _⟩ := hp8.opened)
  rw [← HCS.out] at hv8 hp8 ⊢
  have BA8 := below_alloc x8 (.cells #[.slice p8 CS.1.length q8, .slice r8 CS.2.length s8] 27)
  have T8 := (T7.step hx8).alloc (.cells #[.slice p8 CS.1.length q8, .slice r8 CS.2.length s8] 27)
  have V1 := (V1.step hx8).alloc (.cells #[.slice p8 CS.1.length q8, .slice r8 CS.2.length s8] 27)
  have V2 := (V2.step hx8).alloc (.cells #[.slice p8 CS.1.length q8, .slice r8 CS.2.length s8] 27)
  have V3 := (V3.step hx8).alloc (.cells #[.slice p8 CS.1.length q8, .slice r8 CS.2.length s8] 27)
  have V4 := (V4.step hx8).alloc (.cells #[.slice p8 CS.1.length q8, .slice r8 CS.2.length s8] 27)
  have V5 := (V5.step hx8).alloc (.cells #[.slice p8 CS.1.length q8, .slice r8 CS.2.length s8] 27)
  have V6 := (V6.step hx8).alloc (.cells #[.slice p8 CS.1.length q8, .slice r8 CS.2.length s8] 27)
  have V7 := (V7.step hx8).alloc (.cells #[.slice p8 CS.1.length q8, .slice r8 CS.2.length s8] 27)
  have z0 : (x8.alloc (.cells #[.slice p8 CS.1.length q8, .slice r8 CS.2.length s8] 27)).cell? ⟨x8.heap.size, 0, none⟩ = some (.slice p8 CS.1.length q8) := by go_simp
  have z1 : (x8.alloc (.cells #[.slice p8 CS.1.length q8, .slice r8 CS.2.length s8] 27)).cell? ⟨x8.heap.size, 1, none⟩ = some (.slice r8 CS.2.length s8) := by go_simp
  have hv8 := hv8.stays RVer.stays BA8
  have hp8 := hp8.stays RPeer.stays BA8
  generalize x8.alloc (.cells #[.slice p8 CS.1.length q8, .slice r8 CS.2.length s8] 27) = w8 at *
  obtain ⟨Q8, hQ8⟩ : ∃ Q, Q = x8.heap.size := ⟨_, rfl⟩
  rw [← hQ8] at z0 z1 ⊢
  clear hQ8
  have HM8 : Hid (∀ w', Since w8.heap.size w8 w' → w'.cell? ⟨Q8, 0, none⟩ = some (.slice p8 CS.1.length q8) ∧ w'.cell? ⟨Q8, 1, none⟩ = some (.slice r8 CS.2.length s8) ∧ IsVers w' (.slice p8 CS.1.length q8) CS.1 ∧ IsPeers w' (.slice r8 CS.2.length s8) CS.2) := Lib.hid (fun w' h => ⟨below_cell h.below z0, below_cell h.below z1, hv8.stays RVer.stays h.below, hp8.stays RPeer.stays h.below⟩)
  have V8 := Since.refl w8
  clear z0 z1 hv8 hp8 BA8 hx8  d0 d1 d2 d3 d4 d5
  obtain ⟨EM, hEM⟩ : ∃ x, x = meshV (b, ps) := ⟨_, rfl⟩
  obtain ⟨QM, hQM⟩ : ∃ x, x = meEq (b, ps) (b2, ps2) := ⟨_, rfl⟩
  have HEM := Lib.hid hEM
  have HQM := Lib.hid hQM
  clear hEM hQM
  have z1 : (EM != EM) = false := by simp
  have z2 : (QM != QM) = false := by simp
  have HS : Hid (∀ w', Since w8.heap.size w8 w' → w'.cell? ⟨B, 0, none⟩ = some (.slice a b.length c) ∧ w'.cell? ⟨B, 1, none⟩ = some (.slice a' ps.length c') ∧ w'.cell? ⟨B3, 0, none⟩ = some (.slice oa b2.length oc) ∧ w'.cell? ⟨B3, 1, none⟩ = some (.slice ob ps2.length od)) := Lib.hid (fun w' h => by
    obtain ⟨z0, z1, _, _, z4, z5⟩ := HF.out w' (T8.step h.below)
    exact ⟨z0, z1, z4, z5⟩)
  have sa := HS.out w8.drew (Since.refl w8).drew
  go_cut [108] (fun s108 wx => ∃ wz, wz = wx ∧ s108 = .bool false ∧ Since w8.heap.size w8 wx)
  case first =>
    go_region_held3 (fun w' => w'.cell? ⟨B, 0, none⟩ = some (.slice a b.length c) ∧ w'.cell? ⟨B, 1, none⟩ = some (.slice a' ps.length c') ∧ w'.cell? ⟨B3, 0, none⟩ = some (.slice oa b2.length oc) ∧ w'.cell? ⟨B3, 1, none⟩ = some (.slice ob ps2.length od)) (first | exact sa | exact s1 | exact t1 | exact s2 | exact t2 | exact s3) (first
      | (go_at_call 12; refine (woven_any _).mono ?_; rintro e g1 ⟨rfl, hg1⟩; have p1 := (Since.refl w8).drew.step hg1; have s1 := HS.out g1 p1)
      | (go_at_call 13; refine (meshCheck_any _ b _ ps _ (HV.out _ (T8.step q1.below)) (HU.out _ (T8.step q1.below))).mono ?_; rintro e g3 ⟨rfl, hg3⟩; rw [← HEM.out]; have p2 := q1.step hg3; have s2 := HS.out g3 p2)
      | (go_at_call 13; refine (meshCheck_any _ b _ ps _ (HV.out _ (T8.step p1.below)) (HU.out _ (T8.step p1.below))).mono ?_; rintro e g2 ⟨rfl, hg2⟩; rw [← HEM.out]; have q1 := p1.step hg2; have t1 := HS.out g2 q1)
      | (go_at_call 14; refine (CheckMesh_any _ b _ ps _ (HV.out _ (T8.step q1.below)) (HU.out _ (T8.step q1.below))).mono ?_; rintro e g3 ⟨rfl, hg3⟩; rw [← HEM.out]; have p2 := q1.step hg3; have s2 := HS.out g3 p2)
      | (go_at_call 14; refine (CheckMesh_any _ b _ ps _ (HV.out _ (T8.step p1.below)) (HU.out _ (T8.step p1.below))).mono ?_; rintro e g2 ⟨rfl, hg2⟩; rw [← HEM.out]; have q1 := p1.step hg2; have t1 := HS.out g2 q1)
      | (go_at_call 15; refine (Same_mesh _ _ _ _ (b, ps) (b2, ps2) _ (HV.out _ (T8.step q2.below)) (HU.out _ (T8.step q2.below)) (HV2.out _ (T8.step q2.below)) (HU2.out _ (T8.step q2.below))).mono ?_; rintro e g5 ⟨rfl, hg5⟩; rw [← HQM.out]; have p3 := q2.step hg5; have s3 := HS.out g5 p3)
      | (go_at_call 15; refine (Same_mesh _ _ _ _ (b, ps) (b2, ps2) _ (HV.out _ (T8.step p2.below)) (HU.out _ (T8.step p2.below)) (HV2.out _ (T8.step p2.below)) (HU2.out _ (T8.step p2.below))).mono ?_; rintro e g4 ⟨rfl, hg4⟩; rw [← HQM.out]; have q2 := p2.step hg4; have t2 := HS.out g4 q2)
      | (go_at_call 16; refine (SameMesh_any _ _ _ _ (b, ps) (b2, ps2) _ (HV.out _ (T8.step q2.below)) (HU.out _ (T8.step q2.below)) (HV2.out _ (T8.step q2.below)) (HU2.out _ (T8.step q2.below))).mono ?_; rintro e g5 ⟨rfl, hg5⟩; rw [← HQM.out]; have p3 := q2.step hg5; have s3 := HS.out g5 p3)
      | (go_at_call 16; refine (SameMesh_any _ _ _ _ (b, ps) (b2, ps2) _ (HV.out _ (T8.step p2.below)) (HU.out _ (T8.step p2.below)) (HV2.out _ (T8.step p2.below)) (HU2.out _ (T8.step p2.below))).mono ?_; rintro e g4 ⟨rfl, hg4⟩; rw [← HQM.out]; have q2 := p2.step hg4; have t2 := HS.out g4 q2))
    all_goals
      clear sa s1 s2 s3 t1 t2
      cases QM with
      | true =>
        go_wp2_with fail
        go_meet
        exact ⟨_, rfl, rfl, p3⟩
      | false =>
        go_wp2_with fail
        go_meet
        exact ⟨_, rfl, rfl, p3⟩
  case rest =>
    obtain ⟨w9, rfl, rfl, U9⟩ := hcut
    clear sa
    have V1 := V1.step U9.below
    have V2 := V2.step U9.below
    have V3 := V3.step U9.below
    have V4 := V4.step U9.below
    have V5 := V5.step U9.below
    have V6 := V6.step U9.below
    have V7 := V7.step U9.below
    have HAll : Hid (∀ w', Since w9.heap.size w9 w' → Since w1.heap.size w1 w' ∧ Since w2.heap.size w2 w' ∧ Since w3.heap.size w3 w' ∧ Since w4.heap.size w4 w' ∧ Since w5.heap.size w5 w' ∧ Since w6.heap.size w6 w' ∧ Since w7.heap.size w7 w' ∧ Since w8.heap.size w8 w') := Lib.hid (fun w' h => ⟨V1.step h.below, V2.step h.below, V3.step h.below, V4.step h.below, V5.step h.below, V6.step h.below, V7.step h.below, U9.step h.below⟩)
    have y1 : (EA == EA) = true := by simp
    have y2' : (ER == ER) = true := by simp
    have y3' : (EP == EP) = true := by simp
    have y4 : (ES == ES) = true := by simp
    have HQ1 := Lib.hid (show eqInts BR BR = true by simp [eqInts])
    have HQ2 := Lib.hid (show eqInts WR WR = true by simp [eqInts])
    have HC : Hid (∀ w', Since w9.heap.size w9 w' → w'.cell? ⟨Q1, 0, none⟩ = some (.slice p1 CA.1.length q1) ∧ w'.cell? ⟨Q1, 1, none⟩ = some (.slice r1 CA.2.length s1) ∧ w'.cell? ⟨Q5, 0, none⟩ = some (.slice p5 CA.1.length q5) ∧ w'.cell? ⟨Q5, 1, none⟩ = some (.slice r5 CA.2.length s5) ∧ w'.cell? ⟨Q3, 0, none⟩ = some (.slice p3 CP.1.length q3) ∧ w'.cell? ⟨Q3, 1, none⟩ = some (.slice r3 CP.2.length s3) ∧ w'.cell? ⟨Q7, 0, none⟩ = some (.slice p7 CP.1.length q7) ∧ w'.cell? ⟨Q7, 1, none⟩ = some (.slice r7 CP.2.length s7) ∧ w'.cell? ⟨Q4, 0, none⟩ = some (.slice p4 CS.1.length q4) ∧ w'.cell? ⟨Q4, 1, none⟩ = some (.slice r4 CS.2.length s4) ∧ w'.cell? ⟨Q8, 0, none⟩ = some (.slice p8 CS.1.length q8) ∧ w'.cell? ⟨Q8, 1, none⟩ = some (.slice r8 CS.2.length s8)) := Lib.hid (fun w' h => by
      obtain ⟨h1, _, h3, h4, h5, _, h7, h8⟩ := HAll.out w' h
      obtain ⟨a1, a2, _⟩ := HM1.out w' h1
      obtain ⟨a3, a4, _⟩ := HM5.out w' h5
      obtain ⟨a5, a6, _⟩ := HM3.out w' h3
      obtain ⟨a7, a8, _⟩ := HM7.out w' h7
      obtain ⟨a9, a10, _⟩ := HM4.out w' h4
      obtain ⟨a11, a12, _⟩ := HM8.out w' h8
      exact ⟨a1, a2, a3, a4, a5, a6, a7, a8, a9, a10, a11, a12⟩)
    have HK1 : Hid (∀ w', Since w9.heap.size w9 w' → Calls Tryz.prog 16 #[.agg #[.slice p1 CA.1.length q1, .slice r1 CA.2.length s1], .agg #[.slice p5 CA.1.length q5, .slice r5 CA.2.length s5]] w' fun e w'' => e = .returned (.bool true) ∧ Below w'.heap.size w' w'') := Lib.hid (fun w' h => by
      obtain ⟨h1, _, h3, h4, h5, _, h7, h8⟩ := HAll.out w' h
      have hh := SameMesh_any _ _ _ _ CA CA w' (HM1.out w' h1).2.2.1 (HM1.out w' h1).2.2.2 (HM5.out w' h5).2.2.1 (HM5.out w' h5).2.2.2
      rw [meEq_self] at hh
      exact hh)
    have HK2 : Hid (∀ w', Since w9.heap.size w9 w' → Calls Tryz.prog 16 #[.agg #[.slice p3 CP.1.length q3, .slice r3 CP.2.length s3], .agg #[.slice p7 CP.1.length q7, .slice r7 CP.2.length s7]] w' fun e w'' => e = .returned (.bool true) ∧ Below w'.heap.size w' w'') := Lib.hid (fun w' h => by
      obtain ⟨h1, _, h3, h4, h5, _, h7, h8⟩ := HAll.out w' h
      have hh := SameMesh_any _ _ _ _ CP CP w' (HM3.out w' h3).2.2.1 (HM3.out w' h3).2.2.2 (HM7.out w' h7).2.2.1 (HM7.out w' h7).2.2.2
      rw [meEq_self] at hh
      exact hh)
    have HK3 : Hid (∀ w', Since w9.heap.size w9 w' → Calls Tryz.prog 16 #[.agg #[.slice p4 CS.1.length q4, .slice r4 CS.2.length s4], .agg #[.slice p8 CS.1.length q8, .slice r8 CS.2.length s8]] w' fun e w'' => e = .returned (.bool true) ∧ Below w'.heap.size w' w'') := Lib.hid (fun w' h => by
      obtain ⟨h1, _, h3, h4, h5, _, h7, h8⟩ := HAll.out w' h
      have hh := SameMesh_any _ _ _ _ CS CS w' (HM4.out w' h4).2.2.1 (HM4.out w' h4).2.2.2 (HM8.out w' h8).2.2.1 (HM8.out w' h8).2.2.2
      rw [meEq_self] at hh
      exact hh)
    have HE1 : Hid (∀ w', Since w9.heap.size w9 w' → IsInts w' (.slice p2 BR.length q2) BR ∧ IsInts w' (.slice p6 BR.length q6) BR ∧ IsInts w' (.slice r2 WR.length s2) WR ∧ IsInts w' (.slice r6 WR.length s6) WR) := Lib.hid (fun w' h => by
      obtain ⟨_, h2, _, _, _, h6, _, _⟩ := HAll.out w' h
      exact ⟨(HI2.out w' h2).1, (HI6.out w' h6).1, (HI2.out w' h2).2, (HI6.out w' h6).2⟩)
    obtain ⟨m1, m2, m3, m4, m5, m6, m7, m8, m9, m10, m11, m12⟩ := HC.out w9 (Since.refl w9)
    go_wp2_with (first
      | (go_at_call 16; go_fit (HK1.out w9 (Since.refl w9)); rintro e k1 ⟨rfl, hk1⟩; have l1 := (Since.refl w9).step hk1)
      | (go_at_call 17; go_fit (Equal_ints _ _ BR BR k1 (HE1.out k1 l1).1 (HE1.out k1 l1).2.1); rintro e k2 ⟨rfl, hk2⟩; rw [HQ1.out]; have l2 := l1.step hk2)
      | (go_at_call 17; go_fit (Equal_ints _ _ WR WR k2 (HE1.out k2 l2).2.2.1 (HE1.out k2 l2).2.2.2); rintro e k3 ⟨rfl, hk3⟩; rw [HQ2.out]; have l3 := l2.step hk3; clear m1 m2 m3 m4 m5 m6 m7 m8 m9 m10 m11 m12; obtain ⟨m1, m2, m3, m4, m5, m6, m7, m8, m9, m10, m11, m12⟩ := HC.out k3 l3)
      | (go_at_call 16; go_fit (HK2.out k3 l3); rintro e k4 ⟨rfl, hk4⟩; have l4 := l3.step hk4; clear m1 m2 m3 m4 m5 m6 m7 m8 m9 m10 m11 m12; obtain ⟨m1, m2, m3, m4, m5, m6, m7, m8, m9, m10, m11, m12⟩ := HC.out k4 l4)
      | (go_at_call 16; go_fit (HK3.out k4 l4); rintro e k5 ⟨rfl, hk5⟩; have l5 := l4.step hk5))
    go_ret
    exact ⟨rfl, (S0.step (T8.step (U9.step l5.below).below).below).below⟩

theorem MeshSays_walk (v0 : Value) (m : Me) (v1 : Value) (n : Int) (v2 : Value) (data : List Int) (v3 : Value) (pr : List Int) (v4 : Value) (p : Plan3) (v5 : Value) (room : List Int) (v6 : Value) (o : Me) (W : World) (h0 : IsMesh W v0 m) (h1 : IsInt v1 n) (h2 : IsInts W v2 data) (h3 : IsInts W v3 pr) (h4 : IsPlan v4 p) (h5 : IsInts W v5 room) (h6 : IsMesh W v6 o) (hrb : room.length ≤ 1900000) :
    Calls Tryz.prog 3 #[v0, v1, v2, v3, v4, v5, v6] W fun e w' => e = .returned (.bool true) ∧ Below W.heap.size W w' := by
  obtain ⟨vb, u, rfl, hb, hu⟩ := h0
  obtain ⟨rfl, hv0, hv1⟩ := h1
  obtain ⟨rfl, hn, ho, _⟩ := h4
  obtain ⟨vb2, u2, rfl, hb2, hu2⟩ := h6
  exact meshSays_all _ _ m.1 m.2 n v2 data v3 pr _ _ _ v5 room _ _ o.1 o.2 W hb hu ⟨hv0, hv1⟩ h2 h3 hn ho h5 hb2 hu2 hrb
end Go.Proofs.YtjakdgchfimhkaaGreat
