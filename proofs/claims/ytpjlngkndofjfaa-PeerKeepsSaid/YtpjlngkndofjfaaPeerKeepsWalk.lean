/-
  The walk of PeerKeeps.
-/
import Derived.Test.YtpjlngkndofjfaaReadBook
import Derived.Test.YtpjlngkndofjfaaStored
namespace Go.Proofs.Ytpjlngkndofjfaa
open Go.RowKit

theorem keepE_zero {b : List Ver} {p : Pr} {k : Kp} (h : keepE b p k = 0) : peerV b p = 0 ∧ (∀ y ∈ p.2.2, y.1 ≠ k.1) ∧ peerV b (keepQ p k) = 0 := by
  unfold keepE at h
  by_cases h0 : peerV b p = 0
  · rw [if_neg (by simpa using h0)] at h
    by_cases h1 : (p.2.2.length : Int) = p.2.1
    · rw [if_pos h1] at h; simp at h
    · rw [if_neg h1] at h
      by_cases h2 : 0 ≤ findV k.1 p.2.2 0
      · rw [if_pos h2] at h; simp at h
      · rw [if_neg h2] at h
        exact ⟨h0, (findV_neg (v := k.1) (l := p.2.2) (k := 0)).1 (by omega), h⟩
  · rw [if_pos h0] at h
    exact absurd h h0
theorem findV_keepK (k : Kp) : ∀ (l : List Kp) (o : Nat), (∀ y ∈ l, y.1 ≠ k.1) → ∃ j, findV k.1 (keepK k l) o = ((o + j : Nat) : Int) ∧ (keepK k l)[j]? = some k
  | [], o, _ => ⟨0, by simp [keepK, findV], by simp [keepK]⟩
  | y :: r, o, h => by
    have hy := h y (by simp)
    by_cases hlt : y.1 < k.1
    · rw [keepK_go hlt]
      obtain ⟨j, h1, h2⟩ := findV_keepK k r (o + 1) (fun z hz => h z (by simp [hz]))
      refine ⟨j + 1, ?_, by simpa using h2⟩
      unfold findV
      rw [if_neg hy, h1]
      congr 1
      omega
    · rw [keepK_stop hlt]
      exact ⟨0, by unfold findV; rw [if_pos rfl]; simp, by simp⟩

set_option maxRecDepth 100000 in
set_option maxHeartbeats 4000000 in
theorem PeerKeeps_walk (v0 : Value) (b : List Ver) (v1 : Value) (p : Pr) (v2 : Value) (k : Kp) (W : World) (h0 : IsBook W v0 b) (h1 : IsPeer W v1 p) (h2 : IsKept W v2 k) :
    Calls Try.prog 5 #[v0, v1, v2] W fun e w' => e = .returned (.bool true) ∧ Below W.heap.size W w' := by
  obtain ⟨u0, rfl, hv⟩ := h0
  obtain ⟨u1, rfl, hp, hi⟩ := h1
  obtain ⟨u2, rfl, hk, hk1, hk2⟩ := h2
  obtain ⟨ab, cb, rfl, _⟩ := hv.opened
  obtain ⟨au, cu, rfl, hcu, ⟨hum, huc, _⟩, _⟩ := hp.opened
  obtain ⟨ak, ck, rfl, _⟩ := hk.opened
  obtain ⟨t, r, l⟩ := p
  obtain ⟨kv, kn, kl⟩ := k
  simp only at hp hi hk hk1 hk2 hcu hum ⊢
  have S0 := (((Since.refl W).alloc (.cells #[.slice ab b.length cb] 24)).alloc (.cells #[.bool t, .int .i64 r, .slice au l.length cu] 37)).alloc (.cells #[.int .i64 kv, .int .i64 kn, .slice ak kl.length ck] 44)
  obtain ⟨w0, hw0⟩ : ∃ w0, w0 = ((W.alloc (.cells #[.slice ab b.length cb] 24)).alloc (.cells #[.bool t, .int .i64 r, .slice au l.length cu] 37)).alloc (.cells #[.int .i64 kv, .int .i64 kn, .slice ak kl.length ck] 44) := ⟨_, rfl⟩
  rw [← hw0] at S0
  have a0 : w0.cell? ⟨W.heap.size, 0, none⟩ = some (.slice ab b.length cb) := by rw [hw0]; go_simp
  have p0 : w0.cell? ⟨W.heap.size + 1, 0, none⟩ = some (.bool t) := by rw [hw0]; go_simp
  have p1 : w0.cell? ⟨W.heap.size + 1, 1, none⟩ = some (.int .i64 r) := by rw [hw0]; go_simp
  have p2 : w0.cell? ⟨W.heap.size + 1, 2, none⟩ = some (.slice au l.length cu) := by rw [hw0]; go_simp
  have k0 : w0.cell? ⟨W.heap.size + 2, 0, none⟩ = some (.int .i64 kv) := by rw [hw0]; go_simp
  have k1 : w0.cell? ⟨W.heap.size + 2, 1, none⟩ = some (.int .i64 kn) := by rw [hw0]; go_simp
  have k2 : w0.cell? ⟨W.heap.size + 2, 2, none⟩ = some (.slice ak kl.length ck) := by rw [hw0]; go_simp
  have HW := Lib.hid hw0
  clear hw0
  obtain ⟨B3, hB3⟩ : ∃ B3, B3 = W.heap.size := ⟨_, rfl⟩
  obtain ⟨B4, hB4⟩ : ∃ B4, B4 = W.heap.size + 1 := ⟨_, rfl⟩
  obtain ⟨B5, hB5⟩ : ∃ B5, B5 = W.heap.size + 2 := ⟨_, rfl⟩
  rw [← hB5] at k0 k1 k2
  rw [← hB4] at p0 p1 p2
  rw [← hB3] at a0
  have HB3 := Lib.hid hB3
  have HB4 := Lib.hid hB4
  have HB5 := Lib.hid hB5
  clear hB3 hB4 hB5
  have HVB := Lib.hid (hv.stays RVer.stays S0.below)
  have HVP := Lib.hid (hp.stays RKept.stays S0.below)
  have HVK := Lib.hid (hk.stays S0.below)
  have HC : Hid (∀ w', Since w0.heap.size w0 w' → w'.cell? ⟨B3, 0, none⟩ = some (.slice ab b.length cb) ∧ w'.cell? ⟨B4, 0, none⟩ = some (.bool t) ∧ w'.cell? ⟨B4, 1, none⟩ = some (.int .i64 r) ∧ w'.cell? ⟨B4, 2, none⟩ = some (.slice au l.length cu) ∧ w'.cell? ⟨B5, 0, none⟩ = some (.int .i64 kv) ∧ w'.cell? ⟨B5, 1, none⟩ = some (.int .i64 kn) ∧ w'.cell? ⟨B5, 2, none⟩ = some (.slice ak kl.length ck)) :=
    Lib.hid (fun w' q => ⟨below_cell q.below a0, below_cell q.below p0, below_cell q.below p1, below_cell q.below p2, below_cell q.below k0, below_cell q.below k1, below_cell q.below k2⟩)
  clear a0 p0 p1 p2 k0 k1 k2 hv hp hk
  have T0 := Since.refl w0
  go_enter Try.func5, Try.ntmps5
  go_upto_region 1 with fail
  rw [← HW.out, ← HB5.out, ← HB4.out, ← HB3.out]
  obtain ⟨c3, c40, c41, c42, c50, c51, c52⟩ := HC.out w0 T0
  obtain ⟨E, hE⟩ : ∃ E, E = keepE b (t, r, l) (kv, kn, kl) := ⟨_, rfl⟩
  obtain ⟨Q, hQ⟩ : ∃ Q, Q = keepC b (t, r, l) (kv, kn, kl) := ⟨_, rfl⟩
  have HE := Lib.hid hE
  have HQ := Lib.hid hQ
  clear hE hQ
  obtain ⟨qt, qr, L8⟩ := Q
  go_upto_region 2 with (go_at_call 15; refine (Keep_any _ b _ (t, r, l) _ (kv, kn, kl) _ HVB.out HVP.out hi HVK.out hk1 hk2).mono ?_; rintro e w1 ⟨⟨v1, rfl, ho1⟩, hb1⟩; rw [← HE.out, ← HQ.out]; rw [← HQ.out] at ho1; obtain ⟨a8, c8, rfl, hc8, ⟨hm8, hcm8, _⟩, _⟩ := ho1.isRow.opened)
  have T1 := (T0.step hb1).alloc (.cells #[.bool qt, .int .i64 qr, .slice a8 L8.length c8] 37)
  have HO1 := Lib.hid (ho1.stays (below_alloc w1 (.cells #[.bool qt, .int .i64 qr, .slice a8 L8.length c8] 37)))
  have x0 : (w1.alloc (.cells #[.bool qt, .int .i64 qr, .slice a8 L8.length c8] 37)).cell? ⟨w1.heap.size, 0, none⟩ = some (.bool qt) := by go_simp
  have x1 : (w1.alloc (.cells #[.bool qt, .int .i64 qr, .slice a8 L8.length c8] 37)).cell? ⟨w1.heap.size, 1, none⟩ = some (.int .i64 qr) := by go_simp
  have x2 : (w1.alloc (.cells #[.bool qt, .int .i64 qr, .slice a8 L8.length c8] 37)).cell? ⟨w1.heap.size, 2, none⟩ = some (.slice a8 L8.length c8) := by go_simp
  obtain ⟨B7, hB7⟩ : ∃ B7, B7 = w1.heap.size := ⟨_, rfl⟩
  rw [← hB7] at x0 x1 x2 ⊢
  clear c3 c40 c41 c42 c50 c51 c52 hb1 ho1 hB7
  generalize w1.alloc (.cells #[.bool qt, .int .i64 qr, .slice a8 L8.length c8] 37) = w2 at *
  by_cases hz : E = 0
  · subst hz
    obtain ⟨z0, z1, z2⟩ := keepE_zero HE.out.symm
    have hq : ((qt, qr, L8) : Pr) = keepQ (t, r, l) (kv, kn, kl) := HQ.out.trans (keepC_ok HE.out.symm)
    simp only [keepQ, Prod.mk.injEq] at hq
    obtain ⟨rfl, rfl, hL8⟩ := hq
    simp only at z1
    obtain ⟨j, hfj, hgj⟩ := findV_keepK (kv, kn, kl) l 0 z1
    rw [← hL8] at hfj hgj
    simp only [Nat.zero_add] at hfj
    have Z0 := Lib.hid z0
    have Z2 := Lib.hid (show peerV b (qt, qr, L8) = 0 by rw [hL8]; exact z2)
    have HLEN := Lib.hid (show L8.length = l.length + 1 by rw [hL8]; exact keepK_len _ _)
    have HD1 := Lib.hid (show dropC b (qt, qr, L8) kv = (qt, qr, l) by
      unfold dropC
      rw [if_pos Z2.out, hL8]
      exact congrArg (fun q => ((qt, qr, q) : Pr)) (dropK_keepK (x := (kv, kn, kl)) z1))
    have HD2 := Lib.hid (show dropC b (qt, qr, l) kv = (qt, qr, l) by
      unfold dropC
      rw [if_pos Z0.out]
      exact congrArg (fun q => ((qt, qr, q) : Pr)) (dropK_none z1))
    have HF := Lib.hid hfj
    have hjl : j < L8.length := (List.getElem?_eq_some_iff.1 hgj).1
    obtain ⟨g, cap, ug, cg, ev, hg1, hg2, hcap, y0, y1, y2, y3, _, _, _⟩ := ownKept_at HO1.out hgj
    simp only [Value.slice.injEq, true_and] at ev
    obtain ⟨rfl, rfl⟩ := ev
    simp only at y0 y1 y2 y3
    clear z0 z1 z2 hL8 hfj hgj HQ HE
    have HSW : Hid (∀ w', Since w2.heap.size w2 w' → Since w0.heap.size w0 w') := Lib.hid (fun w' q => ⟨T1.below.trans (q.below.mono T1.2), Nat.le_trans T1.2 q.2⟩)
    have HA : Hid (∀ w', Since w2.heap.size w2 w' → w'.cell? ⟨B3, 0, none⟩ = some (.slice ab b.length cb) ∧ w'.cell? ⟨B4, 2, none⟩ = some (.slice au l.length cu) ∧ w'.cell? ⟨B5, 1, none⟩ = some (.int .i64 kn) ∧ w'.cell? ⟨B5, 2, none⟩ = some (.slice ak kl.length ck) ∧ w'.cell? ⟨B7, 0, none⟩ = some (.bool qt) ∧ w'.cell? ⟨B7, 1, none⟩ = some (.int .i64 qr) ∧ w'.cell? ⟨B7, 2, none⟩ = some (.slice (some ⟨g, 0, none⟩) L8.length c8) ∧ w'.cell? ⟨g, j * 3 + 1, none⟩ = some (.int .i64 kn) ∧ w'.cell? ⟨g, j * 3 + 1 + 1, none⟩ = some (.slice ug kl.length cg)) :=
      Lib.hid (fun w' q => by
        obtain ⟨c3, c40, c41, c42, c50, c51, c52⟩ := HC.out w' (HSW.out w' q)
        exact ⟨c3, c42, c51, c52, below_cell q.below x0, below_cell q.below x1, below_cell q.below x2, below_cell q.below y1, below_cell q.below y2⟩)
    have HN8 := Lib.hid (HO1.out.isRow)
    have HYK := Lib.hid y3
    clear x0 x1 x2 y0 y1 y2 y3
    have s1 : (j : Int) < (L8.length : Int) := by omega
    have s2 : ¬ (j : Int) < 0 := by omega
    have s3 : (0 : Int) ≤ (j : Int) := by omega
    have hl1 : ((L8.length : Int) != (l.length : Int) + 1) = false := by rw [HLEN.out]; simp
    have wl1 : IntKind.i64.wrap ((l.length : Int) + 1) = (l.length : Int) + 1 := IntWalk.i64_in _ (by omega)
    have HSV := Lib.hid (show sameV kn kn kl kl = true by simp [sameV, eqInts])
    have P2 := Since.refl w2
    go_upto_region 5 with (first
      | (go_at_call 16; refine (stored_any w2).mono ?_; rintro e w3 ⟨rfl, hb3⟩; have P3 := P2.step hb3; obtain ⟨_, _, _, _, b70, b71, b72, _⟩ := HA.out w3 P3; obtain ⟨_, _, _, _, b50, _, _⟩ := HC.out w3 (HSW.out w3 P3))
      | (go_at_call 14; refine (Find_any qt qr _ L8 kv w3 (HN8.out.stays RKept.stays P3.below)).mono ?_; rintro e w4 ⟨rfl, hb4⟩; rw [HF.out]; have P4 := P3.step hb4))
    have s0 := HA.out w4.drew P4.drew
    have P5 := P4.drew
    clear b70 b71 b72 b50
    go_region_held3 (fun w' => w'.cell? ⟨B3, 0, none⟩ = some (.slice ab b.length cb) ∧ w'.cell? ⟨B4, 2, none⟩ = some (.slice au l.length cu) ∧ w'.cell? ⟨B5, 1, none⟩ = some (.int .i64 kn) ∧ w'.cell? ⟨B5, 2, none⟩ = some (.slice ak kl.length ck) ∧ w'.cell? ⟨B7, 0, none⟩ = some (.bool qt) ∧ w'.cell? ⟨B7, 1, none⟩ = some (.int .i64 qr) ∧ w'.cell? ⟨B7, 2, none⟩ = some (.slice (some ⟨g, 0, none⟩) L8.length c8) ∧ w'.cell? ⟨g, j * 3 + 1, none⟩ = some (.int .i64 kn) ∧ w'.cell? ⟨g, j * 3 + 1 + 1, none⟩ = some (.slice ug kl.length cg)) (first | exact s0 | exact s6 | exact s7) (first
      | (go_at_call 17; refine (peerCheck_any _ b _ (qt, qr, L8) _ (HVB.out.stays RVer.stays (HSW.out _ P5).below) (HN8.out.stays RKept.stays P5.below) hi).mono ?_; rintro e w6 ⟨rfl, hb6⟩; rw [Z2.out]; have P6 := P5.step hb6; have s6 := HA.out w6 P6)
      | (go_at_call 18; refine (Same_any kn kn _ _ kl kl w6 (HYK.out.stays P6.below) (HVK.out.stays (HSW.out w6 P6).below)).mono ?_; rintro e w7 ⟨rfl, hb7⟩; rw [HSV.out]; have P7 := P6.step hb7; have s7 := HA.out w7 P7))
    all_goals
      have HBS := Lib.hid (prEq_self (qt, qr, l))
      clear s0 s6 s7 hb3 hb4 hb6 hb7 P2 P3 P4 P5 P6
      obtain ⟨b3, _, _, _, b70, b71, b72, _⟩ := HA.out w7 P7
      obtain ⟨_, _, _, _, b50, _, _⟩ := HC.out w7 (HSW.out w7 P7)
      go_upto_region 8 with (go_at_call 19; refine (Drop_any _ b _ (qt, qr, L8) kv w7 (HVB.out.stays RVer.stays (HSW.out w7 P7).below) (HN8.out.stays RKept.stays P7.below) hi).mono ?_; rintro e w8 ⟨⟨v8, rfl, ho8⟩, hb8⟩; rw [HD1.out, Z2.out]; rw [HD1.out] at ho8; obtain ⟨a9, c9, rfl, _⟩ := ho8.isRow.opened)
      have P8 := (P7.step hb8).alloc (.cells #[.bool qt, .int .i64 qr, .slice a9 l.length c9] 37)
      have HN9 := Lib.hid (ho8.isRow.stays RKept.stays (below_alloc w8 (.cells #[.bool qt, .int .i64 qr, .slice a9 l.length c9] 37)))
      have u0 : (w8.alloc (.cells #[.bool qt, .int .i64 qr, .slice a9 l.length c9] 37)).cell? ⟨w8.heap.size, 0, none⟩ = some (.bool qt) := by go_simp
      have u1 : (w8.alloc (.cells #[.bool qt, .int .i64 qr, .slice a9 l.length c9] 37)).cell? ⟨w8.heap.size, 1, none⟩ = some (.int .i64 qr) := by go_simp
      have u2 : (w8.alloc (.cells #[.bool qt, .int .i64 qr, .slice a9 l.length c9] 37)).cell? ⟨w8.heap.size, 2, none⟩ = some (.slice a9 l.length c9) := by go_simp
      obtain ⟨B10, hB10⟩ : ∃ B10, B10 = w8.heap.size := ⟨_, rfl⟩
      rw [← hB10] at u0 u1 u2 ⊢
      clear b3 b70 b71 b72 b50 hb8 ho8 hB10
      generalize w8.alloc (.cells #[.bool qt, .int .i64 qr, .slice a9 l.length c9] 37) = w9 at *
      obtain ⟨d3, d40, d41, d42, d50, _, _⟩ := HC.out w9 (HSW.out w9 P8)
      go_upto_region 9 with (go_at_call 19; refine (Drop_any _ b _ (qt, qr, l) kv w9 (HVB.out.stays RVer.stays (HSW.out w9 P8).below) (HVP.out.stays RKept.stays (HSW.out w9 P8).below) hi).mono ?_; rintro e w10 ⟨⟨v10, rfl, ho10⟩, hb10⟩; rw [HD2.out, Z0.out]; rw [HD2.out] at ho10; obtain ⟨a11, c11, rfl, _⟩ := ho10.isRow.opened)
      have P10 := (P8.step hb10).alloc (.cells #[.bool qt, .int .i64 qr, .slice a11 l.length c11] 37)
      have U10 := ((Since.refl w9).step hb10).alloc (.cells #[.bool qt, .int .i64 qr, .slice a11 l.length c11] 37)
      have HN11 := Lib.hid (ho10.isRow.stays RKept.stays (below_alloc w10 (.cells #[.bool qt, .int .i64 qr, .slice a11 l.length c11] 37)))
      have HN10 := Lib.hid (HN9.out.stays RKept.stays U10.below)
      have t0 : (w10.alloc (.cells #[.bool qt, .int .i64 qr, .slice a11 l.length c11] 37)).cell? ⟨w10.heap.size, 0, none⟩ = some (.bool qt) := by go_simp
      have t1 : (w10.alloc (.cells #[.bool qt, .int .i64 qr, .slice a11 l.length c11] 37)).cell? ⟨w10.heap.size, 1, none⟩ = some (.int .i64 qr) := by go_simp
      have t2 : (w10.alloc (.cells #[.bool qt, .int .i64 qr, .slice a11 l.length c11] 37)).cell? ⟨w10.heap.size, 2, none⟩ = some (.slice a11 l.length c11) := by go_simp
      have r0 := below_cell U10.below u0
      have r1 := below_cell U10.below u1
      have r2 := below_cell U10.below u2
      obtain ⟨B11, hB11⟩ : ∃ B11, B11 = w10.heap.size := ⟨_, rfl⟩
      rw [← hB11] at t0 t1 t2 ⊢
      clear d3 d40 d41 d42 d50 hb10 ho10 hB11 u0 u1 u2 U10 P8
      generalize w10.alloc (.cells #[.bool qt, .int .i64 qr, .slice a11 l.length c11] 37) = w11 at *
      obtain ⟨_, d40, d41, d42, _, _, _⟩ := HC.out w11 (HSW.out w11 P10)
      have HVP11 := Lib.hid (HVP.out.stays RKept.stays (HSW.out w11 P10).below)
      go_wp2_with (first
        | (go_at_call 20; refine (SamePr_any _ _ (qt, qr, l) (qt, qr, l) w12 ⟨_, rfl, HN11.out.stays RKept.stays hb12, hi⟩ ⟨_, rfl, HVP11.out.stays RKept.stays hb12, hi⟩).mono ?_; rintro e w13 ⟨rfl, hb13⟩; rw [HBS.out]; have P13 := P12.step hb13)
        | (go_at_call 20; refine (SamePr_any _ _ (qt, qr, l) (qt, qr, l) w11 ⟨_, rfl, HN10.out, hi⟩ ⟨_, rfl, HVP11.out, hi⟩).mono ?_; rintro e w12 ⟨rfl, hb12⟩; rw [HBS.out]; have P12 := P10.step hb12; have e0 := below_cell hb12 t0; have e1 := below_cell hb12 t1; have e2 := below_cell hb12 t2; have f0 := below_cell hb12 d40; have f1 := below_cell hb12 d41; have f2 := below_cell hb12 d42))
      go_ret
      exact ⟨rfl, (S0.step (HSW.out _ P13).below).below⟩
  · have hne : (E != 0) = true := by simpa using hz
    clear hz
    go_wp2_with (first
      | (go_at_call 16; refine (stored_any w2).mono ?_; rintro e w3 ⟨rfl, hb3⟩; have T3 := T1.step hb3)
      | (go_at_call 16; refine (stored_any w3).mono ?_; rintro e w4 ⟨rfl, hb4⟩; have T4 := T3.step hb4))
    go_ret
    exact ⟨rfl, (S0.step T4.below).below⟩

end Go.Proofs.Ytpjlngkndofjfaa
