/-
  The walk of BookSays.
-/
import Derived.Test.YtlaabmpadikkjaaListed
import Derived.Test.YtlaabmpadikkjaaBook8
import Derived.Test.YtlaabmpadikkjaaReadBook
import Derived.Deep.RegionHeld3
namespace Go.Proofs.Ytlaabmpadikkjaa
open Go.RowKit

theorem verEq_refl (x : Ver) : verEq x x = true := by simp [verEq, eqInts]
theorem eqBy_refl (b : List Ver) : eqBy verEq b b = true := by
  induction b with
  | nil => rfl
  | cons x b ih => simp [eqBy, verEq_refl, ih]

set_option maxRecDepth 100000 in
set_option maxHeartbeats 8000000 in
theorem bookSays_all (v u : Value) (b c : List Ver) (x : Ver) (k : Int) (vx : Value) (W : World) (hv : IsVers W v b) (hx : IsVer W vx x) (ik : I64 k) (hu : IsVers W u c) :
    Calls Try.prog 11 #[.agg #[v], vx, .int .i64 k, .agg #[u]] W fun e w' => e = .returned (.bool true) ∧ Below W.heap.size W w' := by
  obtain ⟨vp, rfl, hp, ip⟩ := hx
  obtain ⟨ap, cp, rfl, _⟩ := hp.opened
  obtain ⟨a, n, rfl, hn, ⟨hm, hnm, _⟩, _⟩ := hv.opened
  obtain ⟨a', n', rfl, _⟩ := hu.opened
  have HIK := Lib.hid ik
  have HIP := Lib.hid ip
  obtain ⟨w0, hw0⟩ : ∃ w0, w0 = ((W.alloc (.cells #[.slice a b.length n] 50)).alloc (.cells #[.slice ap x.1.length cp, .int .i64 x.2.1, .int .i64 x.2.2.1, .int .i64 x.2.2.2] 63)).alloc (.cells #[.slice a' c.length n'] 50) := ⟨_, rfl⟩
  have S0 : Since W.heap.size W w0 := by rw [hw0]; exact (((Since.refl W).alloc _).alloc _).alloc _
  have c0 : w0.cell? ⟨W.heap.size, 0, none⟩ = some (.slice a b.length n) := by rw [hw0]; go_simp
  have q0 : w0.cell? ⟨W.heap.size + 1, 0, none⟩ = some (.slice ap x.1.length cp) := by rw [hw0]; go_simp
  have q1 : w0.cell? ⟨W.heap.size + 1, 1, none⟩ = some (.int .i64 x.2.1) := by rw [hw0]; go_simp
  have q2 : w0.cell? ⟨W.heap.size + 1, 2, none⟩ = some (.int .i64 x.2.2.1) := by rw [hw0]; go_simp
  have q3 : w0.cell? ⟨W.heap.size + 1, 3, none⟩ = some (.int .i64 x.2.2.2) := by rw [hw0]; go_simp
  have c2 : w0.cell? ⟨W.heap.size + 2, 0, none⟩ = some (.slice a' c.length n') := by rw [hw0]; go_simp
  have hv0 := hv.later RVer.stays (Dirty.old S0.below _)
  have hu0 := hu.later RVer.stays (Dirty.old S0.below _)
  have hp0 := hp.stays S0.below
  have HW := Lib.hid hw0
  obtain ⟨B0, hB0⟩ : ∃ B, B = W.heap.size := ⟨_, rfl⟩
  obtain ⟨B1, hB1⟩ : ∃ B, B = W.heap.size + 1 := ⟨_, rfl⟩
  obtain ⟨B2, hB2⟩ : ∃ B, B = W.heap.size + 2 := ⟨_, rfl⟩
  rw [← hB0] at c0
  rw [← hB1] at q0 q1 q2 q3
  rw [← hB2] at c2
  have HB0 := Lib.hid hB0
  have HB1 := Lib.hid hB1
  have HB2 := Lib.hid hB2
  have l0 := cell_lt c0
  have l1 := cell_lt q0
  have l2 := cell_lt c2
  clear hw0 hv hu hp hB0 hB1 hB2 ik ip
  go_enter Try.func11, Try.ntmps11
  go_wp2_with fail
  rw [← HW.out, ← HB2.out, ← HB1.out, ← HB0.out]
  refine (bookAdd_any _ _ b x _ hv0 ⟨_, rfl, hp0, HIP.out⟩).mono ?_
  rintro e w1 ⟨⟨v1, rfl, hv1⟩, hb1⟩
  have T1' := ((Since.refl w0).step hb1)
  obtain ⟨X, hX⟩ : ∃ X, X = addC b x := ⟨_, rfl⟩
  obtain ⟨E, hE⟩ : ∃ E, E = addVE b x := ⟨_, rfl⟩
  rw [← hX] at hv1
  rw [← hE]
  have HX := Lib.hid hX
  have HE := Lib.hid hE
  have hEE : (E != E) = false := by simp
  clear hX hE
  obtain ⟨a1, n1, rfl, _⟩ := hv1.opened
  have hv1' := hv1.stays RVer.stays (below_alloc _ (.cells #[.slice a1 X.length n1] 50))
  have T1 := T1'.alloc (.cells #[.slice a1 X.length n1] 50)
  have m1 : (w1.alloc (.cells #[.slice a1 X.length n1] 50)).cell? ⟨w1.heap.size, 0, none⟩ = some (.slice a1 X.length n1) := by go_simp
  have d0 := (T1'.below.cell (p := ⟨B0, 0, none⟩) l0).trans c0
  have lt0 := cell_lt d0
  clear hb1 hv1
  go_upto_region 2 with fail
  clear d0 lt0
  have d0 := (T1.below.cell (p := ⟨B0, 0, none⟩) l0).trans c0
  generalize w1.alloc (.cells #[.slice a1 X.length n1] 50) = w1' at *
  obtain ⟨B9, hB9⟩ : ∃ B, B = w1.heap.size := ⟨_, rfl⟩
  rw [← hB9] at m1 ⊢
  have l9 := cell_lt m1
  clear hB9 T1'
  go_wp2_with fail
  refine (Heads_any _ b _ (hv0.later RVer.stays (Dirty.old T1.below _))).mono ?_
  rintro e w2 ⟨⟨v2, rfl, ho2⟩, hb2⟩
  obtain ⟨V, hV⟩ : ∃ V, V = bookV b := ⟨_, rfl⟩
  obtain ⟨l, hl⟩ : ∃ l, l = headsC b := ⟨_, rfl⟩
  rw [← hV]
  rw [← hl] at ho2
  have HV := Lib.hid hV
  have HL := Lib.hid hl
  have hVV : (V != V) = false := by simp
  clear hV hl
  have hi2 := ho2.isInts
  obtain ⟨a2, n2, rfl, _⟩ := hi2.opened
  have T2 := T1.step hb2
  have U2 := (Since.refl w1').step hb2
  have d0' := (T2.below.cell (p := ⟨B0, 0, none⟩) l0).trans c0
  clear hb2 ho2 d0
  go_wp2_with fail
  refine (Behind_any _ b k _ (hv0.later RVer.stays (Dirty.old T2.below _))).mono ?_
  rintro e w3 ⟨⟨v3, rfl, ho3⟩, hb3⟩
  obtain ⟨G, hG⟩ : ∃ G, G = behindE b k := ⟨_, rfl⟩
  obtain ⟨m, hm⟩ : ∃ m, m = behindC b k := ⟨_, rfl⟩
  rw [← hG]
  rw [← hm] at ho3
  have HG := Lib.hid hG
  have HM := Lib.hid hm
  clear hG hm
  have hi3 := ho3.isInts
  obtain ⟨a3, n3, rfl, _⟩ := hi3.opened
  have T3 := T2.step hb3
  have U3 := U2.step hb3
  have hi23 := hi2.stays hb3
  have d0 := (T3.below.cell (p := ⟨B0, 0, none⟩) l0).trans c0
  have e0 := (T3.below.cell (p := ⟨B1, 0, none⟩) l1).trans q0
  have e1 := (T3.below.cell (p := ⟨B1, 1, none⟩) l1).trans q1
  have e2 := (T3.below.cell (p := ⟨B1, 2, none⟩) l1).trans q2
  have e3 := (T3.below.cell (p := ⟨B1, 3, none⟩) l1).trans q3
  clear hb3 ho3 d0' hi2 T2
  go_wp2_with fail
  refine (Adds_any _ _ b x _ (hv0.later RVer.stays (Dirty.old T3.below _)) ⟨_, rfl, hp0.stays T3.below, HIP.out⟩).mono ?_
  rintro e w4 ⟨⟨v4, rfl, hv4⟩, hb4⟩
  rw [← HX.out] at hv4
  rw [← HE.out]
  obtain ⟨a4, n4, rfl, _⟩ := hv4.opened
  have hv4' := hv4.stays RVer.stays (below_alloc _ (.cells #[.slice a4 X.length n4] 50))
  have T4' := T3.step hb4
  have T4 := T4'.alloc (.cells #[.slice a4 X.length n4] 50)
  have U4 := (U3.step hb4).alloc (.cells #[.slice a4 X.length n4] 50)
  have m4 : (w4.alloc (.cells #[.slice a4 X.length n4] 50)).cell? ⟨w4.heap.size, 0, none⟩ = some (.slice a4 X.length n4) := by go_simp
  have hi24 := (hi23.stays hb4).stays (below_alloc _ (.cells #[.slice a4 X.length n4] 50))
  have hi34 := (hi3.stays hb4).stays (below_alloc _ (.cells #[.slice a4 X.length n4] 50))
  have d4 := (T4'.below.cell (p := ⟨B0, 0, none⟩) l0).trans c0
  have lt0 := cell_lt d4
  clear hb4 hv4 d0 e0 e1 e2 e3 hi23 hi3 T3 U3
  go_upto_region 5 with fail
  clear d4 lt0
  generalize w4.alloc (.cells #[.slice a4 X.length n4] 50) = w4' at *
  obtain ⟨B15, hB15⟩ : ∃ B, B = w4.heap.size := ⟨_, rfl⟩
  rw [← hB15] at m4 ⊢
  have l15 := cell_lt m4
  clear hB15 T4'
  have d0 := (T4.below.cell (p := ⟨B0, 0, none⟩) l0).trans c0
  go_wp2_with fail
  refine (CheckBook_any _ b _ (hv0.later RVer.stays (Dirty.old T4.below _))).mono ?_
  rintro e w6 ⟨rfl, hb6⟩
  rw [← HV.out]
  have T6 := T4.step hb6
  have U6 := U4.step hb6
  have HVB := Lib.hid (hv0.later RVer.stays (Dirty.old T6.below _))
  have HVC := Lib.hid (hu0.later RVer.stays (Dirty.old T6.below _))
  have HV1 := Lib.hid (hv1'.later RVer.stays (Dirty.old U6.below _))
  have HV4 := Lib.hid (hv4'.later RVer.stays (Dirty.old hb6 _))
  have HI2 := Lib.hid (hi24.stays hb6)
  have HI3 := Lib.hid (hi34.stays hb6)
  have f0 := (T6.below.cell (p := ⟨B0, 0, none⟩) l0).trans c0
  have f2 := (T6.below.cell (p := ⟨B2, 0, none⟩) l2).trans c2
  have f9 := (U6.below.cell (p := ⟨B9, 0, none⟩) l9).trans m1
  have f15 := below_cell hb6 m4
  have HS : Hid (∀ w', Since w6.heap.size w6 w' → w'.cell? ⟨B0, 0, none⟩ = some (.slice a b.length n) ∧ w'.cell? ⟨B2, 0, none⟩ = some (.slice a' c.length n') ∧ w'.cell? ⟨B9, 0, none⟩ = some (.slice a1 X.length n1) ∧ w'.cell? ⟨B15, 0, none⟩ = some (.slice a4 X.length n4)) :=
    Lib.hid (fun w' q => ⟨below_cell q.below f0, below_cell q.below f2, below_cell q.below f9, below_cell q.below f15⟩)
  have HF0 := Lib.hid f0
  clear d0 hv1' hv4' hi24 hi34 hb6 m1 m4 T4 U4 U6 hv0 hu0 hp0 c0 c2 q0 q1 q2 q3
  have s6 := HS.out w6.drew (Since.refl w6).drew
  obtain ⟨Q, hQ⟩ : ∃ Q, Q = eqBy verEq b c := ⟨_, rfl⟩
  have HQ := Lib.hid hQ
  have hQQ : (Q != Q) = false := by simp
  have HR := Lib.hid (eqBy_refl X)
  clear hQ
  go_upto_region 6 with fail
  go_region_held3 (fun w' => w'.cell? ⟨B0, 0, none⟩ = some (.slice a b.length n) ∧ w'.cell? ⟨B2, 0, none⟩ = some (.slice a' c.length n') ∧ w'.cell? ⟨B9, 0, none⟩ = some (.slice a1 X.length n1) ∧ w'.cell? ⟨B15, 0, none⟩ = some (.slice a4 X.length n4)) (first | exact s6 | exact s7 | exact s8 | exact s9 | exact s10 | exact s11) (first
    | (go_at_call 43; refine (listed_any _).mono ?_; rintro e w7 ⟨rfl, hb7⟩; have p7 := (Since.refl w6).drew.step hb7; have s7 := HS.out w7 p7)
    | (go_at_call 37; refine (bookCheck_any _ b _ (HVB.out.later RVer.stays (Dirty.old p7.below _))).mono ?_; rintro e w8 ⟨rfl, hb8⟩; rw [← HV.out]; have p8 := p7.step hb8; have s8 := HS.out w8 p8)
    | (go_at_call 45; refine (SameBook_any _ _ X X _ (HV1.out.later RVer.stays (Dirty.old p10.below _)) (HV4.out.later RVer.stays (Dirty.old p10.below _))).mono ?_; rintro e w11 ⟨rfl, hb11⟩; rw [HR.out]; have p11 := p10.step hb11; have s11 := HS.out w11 p11)
    | (go_at_call 45; refine (SameBook_any _ _ b c _ (HVB.out.later RVer.stays (Dirty.old p9.below _)) (HVC.out.later RVer.stays (Dirty.old p9.below _))).mono ?_; rintro e w10 ⟨rfl, hb10⟩; rw [← HQ.out]; have p10 := p9.step hb10; have s10 := HS.out w10 p10)
    | (go_at_call 45; refine (SameBook_any _ _ b c _ (HVB.out.later RVer.stays (Dirty.old p8.below _)) (HVC.out.later RVer.stays (Dirty.old p8.below _))).mono ?_; rintro e w9 ⟨rfl, hb9⟩; rw [← HQ.out]; have p9 := p8.step hb9; have s9 := HS.out w9 p9)
    | (go_at_call 44; refine (Same_book _ _ b c _ (HVB.out.later RVer.stays (Dirty.old p9.below _)) (HVC.out.later RVer.stays (Dirty.old p9.below _))).mono ?_; rintro e w10 ⟨rfl, hb10⟩; rw [← HQ.out]; have p10 := p9.step hb10; have s10 := HS.out w10 p10)
    | (go_at_call 44; refine (Same_book _ _ b c _ (HVB.out.later RVer.stays (Dirty.old p8.below _)) (HVC.out.later RVer.stays (Dirty.old p8.below _))).mono ?_; rintro e w9 ⟨rfl, hb9⟩; rw [← HQ.out]; have p9 := p8.step hb9; have s9 := HS.out w9 p9))
  all_goals
    have g0 := below_cell p11.below HF0.out
    clear s6 s7 s8 s9 s10 s11 f0 f2 f9 f15
    by_cases h0 : bookV b = 0
    · have hV0 : V = 0 := by rw [HV.out]; exact h0
      subst hV0
      have ht := (bookV_ok.1 h0).top
      have H0 := Lib.hid h0
      have HLL := Lib.hid (HL.out.trans (headsC_ok h0))
      have HEQ := Lib.hid (show eqInts l (headsL b) = true by rw [HL.out, headsC_ok h0]; simp [eqInts])
      clear h0
      go_wp2_with fail
      refine (HeadsOf_any _ b _ (HVB.out.later RVer.stays (Dirty.old p11.below _)) H0.out).mono ?_
      rintro e w12 ⟨⟨v12, rfl, ho12⟩, hb12⟩
      have p12 := p11.step hb12
      have g1 := below_cell hb12 g0
      have hi12 := ho12.isInts
      clear g0 hb12 ho12
      go_wp2_with fail
      refine (Equal_ints _ _ l (headsL b) _ (HI2.out.stays p12.below) hi12).mono ?_
      rintro e w13 ⟨rfl, hb13⟩
      rw [HEQ.out]
      have p13 := p12.step hb13
      have g2 := below_cell hb13 g1
      clear g1 hb13
      by_cases hk : k < 0 ∨ (b.length : Int) ≤ k
      · have hG4 : G = 4 := by rw [HG.out]; exact behindE_who H0.out hk
        have hm0 : m = [] := by rw [HM.out]; exact behindC_no (by rw [behindE_who H0.out hk]; omega)
        subst hG4 hm0
        have hk2 : k < 0 ∨ (0 ≤ k ∧ (b.length : Int) ≤ k) := by omega
        clear hk
        rcases hk2 with hk | ⟨hk, hk'⟩
        all_goals
          go_wp2_with fail
          go_ret
          exact ⟨rfl, (S0.step (T6.step p13.below).below).below⟩
      · obtain ⟨j, rfl⟩ := Int.eq_ofNat_of_zero_le (show 0 ≤ k by omega)
        have hj : j < b.length := by omega
        have hG0 : G = 0 := by rw [HG.out]; exact behindE_ok H0.out (by omega) (by omega)
        have HE2 := Lib.hid (show eqInts m (behindL b j) = true by rw [HM.out, behindC_ok (behindE_ok H0.out (by omega) (by omega))]; simp [eqInts])
        subst hG0
        have hk1 : (0 : Int) ≤ (j : Int) := by omega
        have hk2 : (j : Int) < (b.length : Int) := by omega
        clear hk
        go_wp2_with fail
        refine (AllBehind_any _ b j _ (HVB.out.later RVer.stays (Dirty.old p13.below _)) H0.out hj).mono ?_
        rintro e w14 ⟨⟨v14, rfl, ho14⟩, hb14⟩
        have p14 := p13.step hb14
        have hi14 := ho14.isInts
        clear hb14 ho14
        go_wp2_with fail
        refine (Equal_ints _ _ m (behindL b j) _ (HI3.out.stays p14.below) hi14).mono ?_
        rintro e w15 ⟨rfl, hb15⟩
        rw [HE2.out]
        have p15 := p14.step hb15
        go_wp2_with fail
        go_ret
        exact ⟨rfl, (S0.step (T6.step p15.below).below).below⟩
    · have hne : (V != 0) = true := by rw [HV.out]; simpa using h0
      have hGV : G = V := by rw [HG.out, HV.out]; exact behindE_chk k h0
      have hl0 : l = [] := by rw [HL.out]; exact headsC_no h0
      have hm0 : m = [] := by rw [HM.out]; exact behindC_no (by rw [behindE_chk k h0]; exact h0)
      have heq : (V == V) = true := by simp
      subst hl0 hm0
      rw [hGV]
      clear h0 hGV
      go_wp2_with fail
      go_ret
      exact ⟨rfl, (S0.step (T6.step p11.below).below).below⟩

theorem BookSays_walk (v0 : Value) (b : List Ver) (v1 : Value) (x : Ver) (v2 : Value) (k : Int) (v3 : Value) (c : List Ver) (W : World) (h0 : IsBook W v0 b) (h1 : IsVersion W v1 x) (h2 : IsInt v2 k) (h3 : IsBook W v3 c) :
    Calls Try.prog 11 #[v0, v1, v2, v3] W fun e w' => e = .returned (.bool true) ∧ Below W.heap.size W w' := by
  obtain ⟨v, rfl, hv⟩ := h0
  obtain ⟨rfl, hk⟩ := h2
  obtain ⟨u, rfl, hu⟩ := h3
  exact bookSays_all v u b c x k v1 W hv h1 hk hu

end Go.Proofs.Ytlaabmpadikkjaa
