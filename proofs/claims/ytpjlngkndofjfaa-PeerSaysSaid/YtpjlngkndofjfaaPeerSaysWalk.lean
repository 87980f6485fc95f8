/-
  The walk of PeerSays.
-/
import Derived.Test.YtpjlngkndofjfaaBooks
import Derived.Test.YtpjlngkndofjfaaStored
import Derived.Test.YtpjlngkndofjfaaKeepsR
import Derived.Test.YtpjlngkndofjfaaPeer3
namespace Go.Proofs.Ytpjlngkndofjfaa
open Go.RowKit

set_option maxRecDepth 100000 in
set_option maxHeartbeats 8000000 in
theorem PeerSays_walk (v0 : Value) (b : List Ver) (v1 : Value) (p : Pr) (v2 : Value) (k : Kp) (v3 : Value) (v : Int) (v4 : Value) (q : Pr) (W : World) (h0 : IsBook W v0 b) (h1 : IsPeer W v1 p) (h2 : IsKept W v2 k) (h3 : IsInt v3 v) (h4 : IsPeer W v4 q) :
    Calls Try.prog 6 #[v0, v1, v2, v3, v4] W fun e w' => e = .returned (.bool true) ∧ Below W.heap.size W w' := by
  obtain ⟨u0, rfl, hv⟩ := h0
  obtain ⟨u1, rfl, hp, hi⟩ := h1
  obtain ⟨u2, rfl, hk, hk1, hk2⟩ := h2
  obtain ⟨rfl, _⟩ := h3
  obtain ⟨u4, rfl, hq, hiq⟩ := h4
  obtain ⟨ab, cb, rfl, _⟩ := hv.opened
  obtain ⟨au, cu, rfl, hcu, ⟨hum, huc, _⟩, _⟩ := hp.opened
  obtain ⟨ak, ck, rfl, _⟩ := hk.opened
  obtain ⟨aq, cq, rfl, _⟩ := hq.opened
  obtain ⟨t, r, l⟩ := p
  obtain ⟨kv, kn, kl⟩ := k
  obtain ⟨t', r', l'⟩ := q
  simp only at hp hi hk hk1 hk2 hcu hum hq hiq ⊢
  have S0 := ((((Since.refl W).alloc (.cells #[.slice ab b.length cb] 24)).alloc (.cells #[.bool t, .int .i64 r, .slice au l.length cu] 37)).alloc (.cells #[.int .i64 kv, .int .i64 kn, .slice ak kl.length ck] 44)).alloc (.cells #[.bool t', .int .i64 r', .slice aq l'.length cq] 37)
  obtain ⟨w0, hw0⟩ : ∃ w0, w0 = (((W.alloc (.cells #[.slice ab b.length cb] 24)).alloc (.cells #[.bool t, .int .i64 r, .slice au l.length cu] 37)).alloc (.cells #[.int .i64 kv, .int .i64 kn, .slice ak kl.length ck] 44)).alloc (.cells #[.bool t', .int .i64 r', .slice aq l'.length cq] 37) := ⟨_, rfl⟩
  rw [← hw0] at S0
  have a0 : w0.cell? ⟨W.heap.size, 0, none⟩ = some (.slice ab b.length cb) := by rw [hw0]; go_simp
  have p0 : w0.cell? ⟨W.heap.size + 1, 0, none⟩ = some (.bool t) := by rw [hw0]; go_simp
  have p1 : w0.cell? ⟨W.heap.size + 1, 1, none⟩ = some (.int .i64 r) := by rw [hw0]; go_simp
  have p2 : w0.cell? ⟨W.heap.size + 1, 2, none⟩ = some (.slice au l.length cu) := by rw [hw0]; go_simp
  have k0 : w0.cell? ⟨W.heap.size + 2, 0, none⟩ = some (.int .i64 kv) := by rw [hw0]; go_simp
  have k1 : w0.cell? ⟨W.heap.size + 2, 1, none⟩ = some (.int .i64 kn) := by rw [hw0]; go_simp
  have k2 : w0.cell? ⟨W.heap.size + 2, 2, none⟩ = some (.slice ak kl.length ck) := by rw [hw0]; go_simp
  have q0 : w0.cell? ⟨W.heap.size + 3, 0, none⟩ = some (.bool t') := by rw [hw0]; go_simp
  have q1 : w0.cell? ⟨W.heap.size + 3, 1, none⟩ = some (.int .i64 r') := by rw [hw0]; go_simp
  have q2 : w0.cell? ⟨W.heap.size + 3, 2, none⟩ = some (.slice aq l'.length cq) := by rw [hw0]; go_simp
  have HW := Lib.hid hw0
  clear hw0
  obtain ⟨B5, hB5⟩ : ∃ B5, B5 = W.heap.size := ⟨_, rfl⟩
  obtain ⟨B6, hB6⟩ : ∃ B6, B6 = W.heap.size + 1 := ⟨_, rfl⟩
  obtain ⟨B7, hB7⟩ : ∃ B7, B7 = W.heap.size + 2 := ⟨_, rfl⟩
  obtain ⟨B9, hB9⟩ : ∃ B9, B9 = W.heap.size + 3 := ⟨_, rfl⟩
  rw [← hB9] at q0 q1 q2
  rw [← hB7] at k0 k1 k2
  rw [← hB6] at p0 p1 p2
  rw [← hB5] at a0
  have HB5 := Lib.hid hB5
  have HB6 := Lib.hid hB6
  have HB7 := Lib.hid hB7
  have HB9 := Lib.hid hB9
  clear hB5 hB6 hB7 hB9
  have HVB : Hid (∀ w', Since w0.heap.size w0 w' → IsVers w' (.slice ab b.length cb) b) := Lib.hid (fun w' h => (hv.stays RVer.stays S0.below).stays RVer.stays h.below)
  have HVP : Hid (∀ w', Since w0.heap.size w0 w' → IsKepts w' (.slice au l.length cu) l) := Lib.hid (fun w' h => (hp.stays RKept.stays S0.below).stays RKept.stays h.below)
  have HVK : Hid (∀ w', Since w0.heap.size w0 w' → IsInts w' (.slice ak kl.length ck) kl) := Lib.hid (fun w' h => (hk.stays S0.below).stays h.below)
  have HVQ : Hid (∀ w', Since w0.heap.size w0 w' → IsKepts w' (.slice aq l'.length cq) l') := Lib.hid (fun w' h => (hq.stays RKept.stays S0.below).stays RKept.stays h.below)
  have HC : Hid (∀ w', Since w0.heap.size w0 w' → w'.cell? ⟨B5, 0, none⟩ = some (.slice ab b.length cb) ∧ w'.cell? ⟨B6, 0, none⟩ = some (.bool t) ∧ w'.cell? ⟨B6, 1, none⟩ = some (.int .i64 r) ∧ w'.cell? ⟨B6, 2, none⟩ = some (.slice au l.length cu) ∧ w'.cell? ⟨B7, 0, none⟩ = some (.int .i64 kv) ∧ w'.cell? ⟨B7, 1, none⟩ = some (.int .i64 kn) ∧ w'.cell? ⟨B7, 2, none⟩ = some (.slice ak kl.length ck) ∧ w'.cell? ⟨B9, 0, none⟩ = some (.bool t') ∧ w'.cell? ⟨B9, 1, none⟩ = some (.int .i64 r') ∧ w'.cell? ⟨B9, 2, none⟩ = some (.slice aq l'.length cq)) :=
    Lib.hid (fun w' q => ⟨below_cell q.below a0, below_cell q.below p0, below_cell q.below p1, below_cell q.below p2, below_cell q.below k0, below_cell q.below k1, below_cell q.below k2, below_cell q.below q0, below_cell q.below q1, below_cell q.below q2⟩)
  clear a0 p0 p1 p2 k0 k1 k2 q0 q1 q2 hv hp hk hq
  have T0 := Since.refl w0
  obtain ⟨E, hE⟩ : ∃ E, E = keepE b (t, r, l) (kv, kn, kl) := ⟨_, rfl⟩
  obtain ⟨Q, hQ⟩ : ∃ Q, Q = keepC b (t, r, l) (kv, kn, kl) := ⟨_, rfl⟩
  obtain ⟨D, hD⟩ : ∃ D, D = dropC b (t, r, l) v := ⟨_, rfl⟩
  obtain ⟨V, hV⟩ : ∃ V, V = peerV b (t, r, l) := ⟨_, rfl⟩
  have HE := Lib.hid hE
  have HQ := Lib.hid hQ
  have HD := Lib.hid hD
  have HV := Lib.hid hV
  clear hE hQ hD hV
  obtain ⟨qt, qr, L8⟩ := Q
  obtain ⟨dt, dr, L9⟩ := D
  have HBOX : ∀ (x : Bool) (y : Int) (z : Value) (w : World) (B : Nat), B = w.heap.size → ∀ w', Since (w.alloc (.cells #[.bool x, .int .i64 y, z] 37)).heap.size (w.alloc (.cells #[.bool x, .int .i64 y, z] 37)) w' → w'.cell? ⟨B, 0, none⟩ = some (.bool x) ∧ w'.cell? ⟨B, 1, none⟩ = some (.int .i64 y) ∧ w'.cell? ⟨B, 2, none⟩ = some z := by
    intro x y z w B hB w' h
    subst hB
    exact ⟨below_cell h.below (by go_simp), below_cell h.below (by go_simp), below_cell h.below (by go_simp)⟩
  have HBX := Lib.hid HBOX
  clear HBOX
  go_enter Try.func6, Try.ntmps6
  go_upto_region 1 with fail
  rw [← HW.out, ← HB9.out, ← HB7.out, ← HB6.out, ← HB5.out]
  obtain ⟨c5, c60, c61, c62, c70, c71, c72, c90, c91, c92⟩ := HC.out w0 T0
  go_upto_region 2 with (go_at_call 15; refine (Keep_any _ b _ (t, r, l) _ (kv, kn, kl) _ (HVB.out w0 T0) (HVP.out w0 T0) hi (HVK.out w0 T0) hk1 hk2).mono ?_; rintro e w1 ⟨⟨v1, rfl, ho1⟩, hb1⟩; rw [← HE.out, ← HQ.out]; rw [← HQ.out] at ho1; obtain ⟨a8, c8, rfl, hc8, ⟨hm8, hcm8, _⟩, _⟩ := ho1.isRow.opened)
  have T1 := (T0.step hb1).alloc (.cells #[.bool qt, .int .i64 qr, .slice a8 L8.length c8] 37)
  have HK1 := ho1.isRow.stays RKept.stays (below_alloc w1 (.cells #[.bool qt, .int .i64 qr, .slice a8 L8.length c8] 37))
  obtain ⟨B11, hB11⟩ : ∃ B11, B11 = w1.heap.size := ⟨_, rfl⟩
  rw [← hB11]
  have HX := HBX.out qt qr (.slice a8 L8.length c8) w1 B11 hB11
  clear c5 c60 c61 c62 c70 c71 c72 c90 c91 c92 hb1 ho1 hB11
  generalize w1.alloc (.cells #[.bool qt, .int .i64 qr, .slice a8 L8.length c8] 37) = w2 at *
  have HX2 := Lib.hid HX
  clear HX
  obtain ⟨c5, c60, c61, c62, c70, c71, c72, c90, c91, c92⟩ := HC.out w2 T1
  have U2 := Since.refl w2
  go_upto_region 3 with (go_at_call 19; refine (Drop_any _ b _ (t, r, l) v _ (HVB.out w2 T1) (HVP.out w2 T1) hi).mono ?_; rintro e w3 ⟨⟨v3, rfl, ho3⟩, hb3⟩; rw [← HD.out, ← HV.out]; rw [← HD.out] at ho3; obtain ⟨a9, c9, rfl, _⟩ := ho3.isRow.opened)
  have T3 := (T1.step hb3).alloc (.cells #[.bool dt, .int .i64 dr, .slice a9 L9.length c9] 37)
  have U3 := (U2.step hb3).alloc (.cells #[.bool dt, .int .i64 dr, .slice a9 L9.length c9] 37)
  have HK3 := ho3.isRow.stays RKept.stays (below_alloc w3 (.cells #[.bool dt, .int .i64 dr, .slice a9 L9.length c9] 37))
  obtain ⟨B13, hB13⟩ : ∃ B13, B13 = w3.heap.size := ⟨_, rfl⟩
  rw [← hB13]
  have HY := HBX.out dt dr (.slice a9 L9.length c9) w3 B13 hB13
  clear c5 c60 c61 c62 c70 c71 c72 c90 c91 c92 hb3 ho3 hB13
  generalize w3.alloc (.cells #[.bool dt, .int .i64 dr, .slice a9 L9.length c9] 37) = w4 at *
  have HY4 := Lib.hid HY
  clear HY
  obtain ⟨c5, c60, c61, c62, c70, c71, c72, c90, c91, c92⟩ := HC.out w4 T3
  have X4 := Since.refl w4
  go_upto_region 4 with (go_at_call 21; refine (KeepsR_any _ b _ (t, r, l) _ (kv, kn, kl) _ (HVB.out w4 T3) (HVP.out w4 T3) hi (HVK.out w4 T3) hk1 hk2).mono ?_; rintro e w5 ⟨⟨v5, rfl, ho5⟩, hb5⟩; rw [← HE.out, ← HQ.out]; rw [← HQ.out] at ho5; obtain ⟨a5, c5', rfl, _⟩ := ho5.opened)
  have T5 := (T3.step hb5).alloc (.cells #[.bool qt, .int .i64 qr, .slice a5 L8.length c5'] 37)
  have U5 := (U3.step hb5).alloc (.cells #[.bool qt, .int .i64 qr, .slice a5 L8.length c5'] 37)
  have X5 := (X4.step hb5).alloc (.cells #[.bool qt, .int .i64 qr, .slice a5 L8.length c5'] 37)
  have HK5 := ho5.stays RKept.stays (below_alloc w5 (.cells #[.bool qt, .int .i64 qr, .slice a5 L8.length c5'] 37))
  obtain ⟨B15, hB15⟩ : ∃ B15, B15 = w5.heap.size := ⟨_, rfl⟩
  rw [← hB15]
  have HZ := HBX.out qt qr (.slice a5 L8.length c5') w5 B15 hB15
  clear c5 c60 c61 c62 c70 c71 c72 c90 c91 c92 hb5 ho5 hB15
  generalize w5.alloc (.cells #[.bool qt, .int .i64 qr, .slice a5 L8.length c5'] 37) = w6 at *
  have HZ6 := Lib.hid HZ
  clear HZ
  obtain ⟨c5, c60, c61, c62, c70, c71, c72, c90, c91, c92⟩ := HC.out w6 T5
  have Y6 := Since.refl w6
  go_upto_region 5 with (go_at_call 22; refine (CheckPeer_any _ b _ (t, r, l) _ (HVB.out w6 T5) (HVP.out w6 T5) hi).mono ?_; rintro e w7 ⟨rfl, hb7⟩; rw [← HV.out])
  have T7 := T5.step hb7
  have U7 := U5.step hb7
  have X7 := X5.step hb7
  have Y7 := Y6.step hb7
  have hiq8 : I64 qr := by
    have := congrArg (fun q : Pr => q.2.1) HQ.out
    simp only at this
    rw [this]
    by_cases hz : keepE b (t, r, l) (kv, kn, kl) = 0
    · rw [keepC_ok hz]; exact hi
    · rw [keepC_no hz]; constructor <;> decide
  have hid9 : I64 dr := by
    have := congrArg (fun q : Pr => q.2.1) HD.out
    simp only [dropC] at this
    rw [this]
    by_cases hz : peerV b (t, r, l) = 0
    · rw [if_pos hz]; exact hi
    · rw [if_neg hz]; constructor <;> decide
  have HSW : Hid (∀ w', Since w7.heap.size w7 w' → Since w0.heap.size w0 w' ∧ IsPeer w' (.agg #[.bool t, .int .i64 r, .slice au l.length cu]) (t, r, l) ∧ IsPeer w' (.agg #[.bool t', .int .i64 r', .slice aq l'.length cq]) (t', r', l') ∧ IsPeer w' (.agg #[.bool qt, .int .i64 qr, .slice a8 L8.length c8]) (qt, qr, L8) ∧ IsPeer w' (.agg #[.bool qt, .int .i64 qr, .slice a5 L8.length c5']) (qt, qr, L8) ∧ IsPeer w' (.agg #[.bool dt, .int .i64 dr, .slice a9 L9.length c9]) (dt, dr, L9)) := Lib.hid (fun w' h => by
    have hs := SWof T7 h
    exact ⟨hs, ⟨_, rfl, HVP.out _ hs, hi⟩, ⟨_, rfl, HVQ.out _ hs, hiq⟩, ⟨_, rfl, HK1.stays RKept.stays (SWof U7 h).below, hiq8⟩, ⟨_, rfl, HK5.stays RKept.stays (SWof Y7 h).below, hiq8⟩, ⟨_, rfl, HK3.stays RKept.stays (SWof X7 h).below, hid9⟩⟩)
  have HS : Hid (∀ w', Since w7.heap.size w7 w' → w'.cell? ⟨B5, 0, none⟩ = some (.slice ab b.length cb) ∧ w'.cell? ⟨B6, 0, none⟩ = some (.bool t) ∧ w'.cell? ⟨B6, 1, none⟩ = some (.int .i64 r) ∧ w'.cell? ⟨B6, 2, none⟩ = some (.slice au l.length cu) ∧ w'.cell? ⟨B9, 0, none⟩ = some (.bool t') ∧ w'.cell? ⟨B9, 1, none⟩ = some (.int .i64 r') ∧ w'.cell? ⟨B9, 2, none⟩ = some (.slice aq l'.length cq) ∧ w'.cell? ⟨B11, 0, none⟩ = some (.bool qt) ∧ w'.cell? ⟨B11, 1, none⟩ = some (.int .i64 qr) ∧ w'.cell? ⟨B11, 2, none⟩ = some (.slice a8 L8.length c8) ∧ w'.cell? ⟨B15, 0, none⟩ = some (.bool qt) ∧ w'.cell? ⟨B15, 1, none⟩ = some (.int .i64 qr) ∧ w'.cell? ⟨B15, 2, none⟩ = some (.slice a5 L8.length c5')) := Lib.hid (fun w' h => by
    obtain ⟨c5, c60, c61, c62, c70, c71, c72, c90, c91, c92⟩ := HC.out w' (SWof T7 h)
    obtain ⟨x0, x1, x2⟩ := HX2.out w' (SWof U7 h)
    obtain ⟨z0, z1, z2⟩ := HZ6.out w' (SWof Y7 h)
    exact ⟨c5, c60, c61, c62, c90, c91, c92, x0, x1, x2, z0, z1, z2⟩)
  have HY : Hid (∀ w', Since w7.heap.size w7 w' → w'.cell? ⟨B13, 0, none⟩ = some (.bool dt) ∧ w'.cell? ⟨B13, 1, none⟩ = some (.int .i64 dr) ∧ w'.cell? ⟨B13, 2, none⟩ = some (.slice a9 L9.length c9)) := Lib.hid (fun w' h => HY4.out w' (SWof X7 h))
  have HSZ := Lib.hid (S0.step T7.below)
  obtain ⟨F, hF⟩ : ∃ F, F = findV v l 0 := ⟨_, rfl⟩
  obtain ⟨G, hG⟩ : ∃ G, G = prEq (t, r, l) (t', r', l') := ⟨_, rfl⟩
  have HF := Lib.hid hF
  have HG := Lib.hid hG
  have HP1 := Lib.hid (prEq_self (qt, qr, L8))
  clear hF hG c5 c60 c61 c62 c70 c71 c72 c90 c91 c92 hb7 HX2 HY4 HZ6 HK1 HK3 HK5 T1 U2 T3 U3 X4 T5 U5 X5 Y6 U7 X7 Y7 hiq8 hid9 HVQ HVK
  have e1 : (V != V) = false := by simp
  have e2 : (F != F) = false := by simp
  have e3 : (G != G) = false := by simp
  have e4 : (E != E) = false := by simp
  have P0 := Since.refl w7
  have s0 := HS.out w7.drew P0.drew
  go_region_held3 (fun w' => w'.cell? ⟨B5, 0, none⟩ = some (.slice ab b.length cb) ∧ w'.cell? ⟨B6, 0, none⟩ = some (.bool t) ∧ w'.cell? ⟨B6, 1, none⟩ = some (.int .i64 r) ∧ w'.cell? ⟨B6, 2, none⟩ = some (.slice au l.length cu) ∧ w'.cell? ⟨B9, 0, none⟩ = some (.bool t') ∧ w'.cell? ⟨B9, 1, none⟩ = some (.int .i64 r') ∧ w'.cell? ⟨B9, 2, none⟩ = some (.slice aq l'.length cq) ∧ w'.cell? ⟨B11, 0, none⟩ = some (.bool qt) ∧ w'.cell? ⟨B11, 1, none⟩ = some (.int .i64 qr) ∧ w'.cell? ⟨B11, 2, none⟩ = some (.slice a8 L8.length c8) ∧ w'.cell? ⟨B15, 0, none⟩ = some (.bool qt) ∧ w'.cell? ⟨B15, 1, none⟩ = some (.int .i64 qr) ∧ w'.cell? ⟨B15, 2, none⟩ = some (.slice a5 L8.length c5')) (first | exact s0 | exact s1 | exact s2 | exact s3 | exact s4 | exact s5 | exact s6 | exact s7) (first
    | (go_at_call 16; refine (stored_any _).mono ?_; rintro e wa1 ⟨rfl, hba1⟩; have p1 := P0.drew.step hba1; have s1 := HS.out wa1 p1)
    | (go_at_call 17; refine (peerCheck_any _ b _ (t, r, l) _ (HVB.out _ (HSW.out _ p1).1) (HVP.out _ (HSW.out _ p1).1) hi).mono ?_; rintro e wa2 ⟨rfl, hba2⟩; rw [← HV.out]; have p2 := p1.step hba2; have s2 := HS.out wa2 p2)
    | (go_at_call 24; refine (SamePeerR_any _ _ (qt, qr, L8) (qt, qr, L8) _ (HSW.out _ p6).2.2.2.1 (HSW.out _ p6).2.2.2.2.1).mono ?_; rintro e wa7 ⟨rfl, hba7⟩; rw [HP1.out]; have p7 := p6.step hba7; have s7 := HS.out wa7 p7)
    | (go_at_call 20; refine (SamePr_any _ _ (t, r, l) (t', r', l') _ (HSW.out _ p5).2.1 (HSW.out _ p5).2.2.1).mono ?_; rintro e wa6 ⟨rfl, hba6⟩; rw [← HG.out]; have p6 := p5.step hba6; have s6 := HS.out wa6 p6)
    | (go_at_call 20; refine (SamePr_any _ _ (t, r, l) (t', r', l') _ (HSW.out _ p4).2.1 (HSW.out _ p4).2.2.1).mono ?_; rintro e wa5 ⟨rfl, hba5⟩; rw [← HG.out]; have p5 := p4.step hba5; have s5 := HS.out wa5 p5)
    | (go_at_call 24; refine (SamePeerR_any _ _ (t, r, l) (t', r', l') _ (HSW.out _ p5).2.1 (HSW.out _ p5).2.2.1).mono ?_; rintro e wa6 ⟨rfl, hba6⟩; rw [← HG.out]; have p6 := p5.step hba6; have s6 := HS.out wa6 p6)
    | (go_at_call 24; refine (SamePeerR_any _ _ (t, r, l) (t', r', l') _ (HSW.out _ p4).2.1 (HSW.out _ p4).2.2.1).mono ?_; rintro e wa5 ⟨rfl, hba5⟩; rw [← HG.out]; have p5 := p4.step hba5; have s5 := HS.out wa5 p5)
    | (go_at_call 14; refine (Find_any t r _ l v _ (HVP.out _ (HSW.out _ p3).1)).mono ?_; rintro e wa4 ⟨rfl, hba4⟩; rw [← HF.out]; have p4 := p3.step hba4; have s4 := HS.out wa4 p4)
    | (go_at_call 14; refine (Find_any t r _ l v _ (HVP.out _ (HSW.out _ p2).1)).mono ?_; rintro e wa3 ⟨rfl, hba3⟩; rw [← HF.out]; have p3 := p2.step hba3; have s3 := HS.out wa3 p3)
    | (go_at_call 23; refine (At_any t r _ l v _ (HVP.out _ (HSW.out _ p3).1)).mono ?_; rintro e wa4 ⟨rfl, hba4⟩; rw [← HF.out]; have p4 := p3.step hba4; have s4 := HS.out wa4 p4)
    | (go_at_call 23; refine (At_any t r _ l v _ (HVP.out _ (HSW.out _ p2).1)).mono ?_; rintro e wa3 ⟨rfl, hba3⟩; rw [← HF.out]; have p3 := p2.step hba3; have s3 := HS.out wa3 p3))
  all_goals
    obtain ⟨y0, y1, y2⟩ := HY.out _ p7
    obtain ⟨_, d0, d1, d2, _⟩ := HS.out _ p7
    clear s0 s1 s2 s3 s4 s5 s6 s7 hba1 hba2 hba3 hba4 hba5 hba6 hba7 p1 p2 p3 p4 p5 p6 e1 e2 e3 e4
    by_cases hz : V = 0
    · have h0 : peerV b (t, r, l) = 0 := by rw [← HV.out]; exact hz
      have hlen : l.length ≤ 1000 := by
        have := (peerV_ok.1 h0).few
        have := (peerV_ok.1 h0).room
        simp only at *
        omega
      have hd : ((dt, dr, L9) : Pr) = (t, r, dropK v l) := by rw [HD.out]; unfold dropC; rw [if_pos h0]
      simp only [Prod.mk.injEq] at hd
      obtain ⟨rfl, rfl, hL9⟩ := hd
      have HL9 := Lib.hid hL9
      subst hz
      have HP2 := Lib.hid (prEq_self (dt, dr, L9))
      have HZ : Hid (∀ w', Since w7.heap.size w7 w' → w'.cell? ⟨B13, 0, none⟩ = some (.bool dt) ∧ w'.cell? ⟨B13, 1, none⟩ = some (.int .i64 dr) ∧ w'.cell? ⟨B13, 2, none⟩ = some (.slice a9 L9.length c9) ∧ w'.cell? ⟨B6, 0, none⟩ = some (.bool dt) ∧ w'.cell? ⟨B6, 1, none⟩ = some (.int .i64 dr) ∧ w'.cell? ⟨B6, 2, none⟩ = some (.slice au l.length cu)) := Lib.hid (fun w' h => by
        obtain ⟨y0, y1, y2⟩ := HY.out _ h
        obtain ⟨_, d0, d1, d2, _⟩ := HS.out _ h
        exact ⟨y0, y1, y2, d0, d1, d2⟩)
      have s8 := HZ.out _ p7.drew
      clear h0 hL9 y0 y1 y2 d0 d1 d2
      go_upto_region 9 with fail
      go_region_held3 (fun w' => w'.cell? ⟨B13, 0, none⟩ = some (.bool dt) ∧ w'.cell? ⟨B13, 1, none⟩ = some (.int .i64 dr) ∧ w'.cell? ⟨B13, 2, none⟩ = some (.slice a9 L9.length c9) ∧ w'.cell? ⟨B6, 0, none⟩ = some (.bool dt) ∧ w'.cell? ⟨B6, 1, none⟩ = some (.int .i64 dr) ∧ w'.cell? ⟨B6, 2, none⟩ = some (.slice au l.length cu)) (first | exact s8 | exact s9 | exact s10) (first
        | (go_at_call 25; refine (Without_any dt dr _ l v _ (HVP.out _ (HSW.out _ p7.drew).1) hlen).mono ?_; rintro e wa8 ⟨⟨v8, rfl, ho8⟩, hba8⟩; have p8 := p7.drew.step hba8; have s9 := HZ.out _ p8; rw [← HL9.out] at ho8; obtain ⟨a10, c10, rfl, _⟩ := ho8.opened)
        | (go_at_call 24; refine (SamePeerR_any _ _ (dt, dr, L9) (dt, dr, L9) _ (HSW.out _ p8).2.2.2.2.2 ⟨_, rfl, ho8, hi⟩).mono ?_; rintro e wa9 ⟨rfl, hba9⟩; rw [HP2.out]; have p9 := p8.step hba9; have s10 := HZ.out _ p9))
      all_goals
        go_wp2_with fail
        go_ret
        exact ⟨rfl, (HSZ.out.step p9.below).below⟩
    · have hd : ((dt, dr, L9) : Pr) = (false, 0, []) := by rw [HD.out]; unfold dropC; rw [if_neg (by rw [← HV.out]; exact hz)]
      simp only [Prod.mk.injEq] at hd
      obtain ⟨rfl, rfl, rfl⟩ := hd
      have hne : (V != 0) = true := by simpa using hz
      have hee : (V == V) = true := by simp
      have HP2 := Lib.hid (prEq_self (false, 0, []))
      clear hz
      go_wp2_with (go_at_call 24; refine (SamePeerR_any _ _ (false, 0, []) (false, 0, []) _ (HSW.out _ p7).2.2.2.2.2 ⟨_, rfl, IsRow.nil _, by constructor <;> decide⟩).mono ?_; rintro e wa8 ⟨rfl, hba8⟩; rw [HP2.out]; have p8 := p7.step hba8)
      go_ret
      exact ⟨rfl, (HSZ.out.step p8.below).below⟩

end Go.Proofs.Ytpjlngkndofjfaa
