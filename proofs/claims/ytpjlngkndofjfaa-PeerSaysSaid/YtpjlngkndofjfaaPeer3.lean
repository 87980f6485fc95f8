/-
  The walk of what checks a peer: the reference's.
-/
import Derived.Test.YtpjlngkndofjfaaPeer2
namespace Go.Proofs.Ytpjlngkndofjfaa
open Go.RowKit

set_option maxRecDepth 100000 in
set_option maxHeartbeats 4000000 in
theorem CheckPeer_any (vb : Value) (b : List Ver) (u : Value) (p : Pr) (W : World) (hb : IsVers W vb b) (hu : IsKepts W u p.2.2) (hi : I64 p.2.1) :
    Calls Try.prog 22 #[.agg #[vb], .agg #[.bool p.1, .int .i64 p.2.1, u]] W fun e w' => e = .returned (.int .i64 (peerV b p)) ∧ Below W.heap.size W w' := by
  obtain ⟨t, r, l⟩ := p
  obtain ⟨ab, cb, rfl, hcb, ⟨hbm, hbc, _⟩, _⟩ := hb.opened
  obtain ⟨al, cl, rfl, hcl, ⟨hlm, hlc, _⟩, _⟩ := hu.opened
  have S0 := ((Since.refl W).alloc (.cells #[.slice ab b.length cb] 24)).alloc (.cells #[.bool t, .int .i64 r, .slice al l.length cl] 37)
  have hb0 := hb.stays RVer.stays S0.below
  have hu0 := hu.stays RKept.stays S0.below
  obtain ⟨w0, hw0⟩ : ∃ w0, w0 = (W.alloc (.cells #[.slice ab b.length cb] 24)).alloc (.cells #[.bool t, .int .i64 r, .slice al l.length cl] 37) := ⟨_, rfl⟩
  have c0 : w0.cell? ⟨W.heap.size, 0, none⟩ = some (.slice ab b.length cb) := by rw [hw0]; go_simp
  have c1 : w0.cell? ⟨W.heap.size + 1, 0, none⟩ = some (.bool t) := by rw [hw0]; go_simp
  have c2 : w0.cell? ⟨W.heap.size + 1, 1, none⟩ = some (.int .i64 r) := by rw [hw0]; go_simp
  have c3 : w0.cell? ⟨W.heap.size + 1, 2, none⟩ = some (.slice al l.length cl) := by rw [hw0]; go_simp
  rw [← hw0] at S0 hb0 hu0
  have HW := Lib.hid hw0
  clear hw0 hb hu
  obtain ⟨B, hB⟩ : ∃ B, B = W.heap.size := ⟨_, rfl⟩
  obtain ⟨B1, hB1⟩ : ∃ B1, B1 = W.heap.size + 1 := ⟨_, rfl⟩
  rw [← hB1] at c1 c2 c3
  rw [← hB] at c0
  have HB := Lib.hid hB
  have HB1 := Lib.hid hB1
  clear hB hB1
  have l0 := cell_lt c0
  have l1 := cell_lt c1
  go_enter Try.func22, Try.ntmps22
  go_wp2_with fail
  rw [← HW.out, ← HB1.out, ← HB.out]
  refine (CheckBook_any _ b _ hb0).mono ?_
  rintro e w1 ⟨rfl, hb1⟩
  have T1 := (Since.refl w0).step hb1
  have HVB := Lib.hid (hb0.stays RVer.stays hb1)
  have HVK := Lib.hid (hu0.stays RKept.stays hb1)
  have d0 := below_cell hb1 c0
  have d1 := below_cell hb1 c1
  have d2 := below_cell hb1 c2
  have d3 := below_cell hb1 c3
  clear c0 c1 c2 c3 hb1 l0 l1 hb0 hu0
  by_cases h0 : bookV b = 0
  · have H0 := Lib.hid h0
    have ht := (bookV_ok.1 h0).top
    rw [h0]
    clear h0
    by_cases hr : r < 0 ∨ 20 < r
    · have H := Lib.hid (show peerV b (t, r, l) = 2 by unfold peerV; rw [if_neg (by simpa using H0.out), if_pos hr])
      have hin := inB_no (n := r) (a := 0) (b := 20) hr
      clear hr
      go_wp2_with (go_at_call 32; refine (in_any _ _ _ _).mono ?_; rintro e w' ⟨rfl, rfl⟩; rw [hin])
      go_ret
      exact ⟨ret_int H.out.symm, (S0.step T1.below).below⟩
    · have hr0 : 0 ≤ r := by omega
      have hr1 : r ≤ 20 := by omega
      have hin := inB_yes (n := r) (a := 0) (b := 20) hr0 hr1
      by_cases hf : r < (l.length : Int)
      · have H := Lib.hid (show peerV b (t, r, l) = 8 by unfold peerV; rw [if_neg (by simpa using H0.out), if_neg hr, if_pos hf])
        clear hr
        go_wp2_with (go_at_call 32; refine (in_any _ _ _ _).mono ?_; rintro e w' ⟨rfl, rfl⟩; rw [hin])
        go_ret
        exact ⟨ret_int H.out.symm, (S0.step T1.below).below⟩
      · have H := Lib.hid (show peerV b (t, r, l) = keptsV b (-1) l by unfold peerV; rw [if_neg (by simpa using H0.out), if_neg hr, if_neg hf])
        have hl20 : l.length ≤ 20 := by omega
        have hf' : (l.length : Int) ≤ r := by omega
        have HS : Hid (∀ w', Since w1.heap.size w1 w' → w'.cell? ⟨B, 0, none⟩ = some (.slice ab b.length cb) ∧ w'.cell? ⟨B1, 2, none⟩ = some (.slice al l.length cl)) := Lib.hid (fun w' q => ⟨below_cell q.below d0, below_cell q.below d3⟩)
        clear hr hf
        go_wp2_with (go_at_call 32; refine (in_any _ _ _ _).mono ?_; rintro e w' ⟨rfl, rfl⟩; rw [hin])
        go_loopw [28, 6] (fun i z wr => ∃ k : Nat, k ≤ l.length ∧ i = .int .i64 k ∧ z = .int .i64 (lastK l k) ∧ Since w1.heap.size w1 wr ∧ keptsV b (lastK l k) (l.drop k) = keptsV b (-1) l) (fun i _ _ => l.length - (intOf i).toNat)
        case atStart => exact ⟨0, by omega, rfl, rfl, Since.refl w1, rfl⟩
        case round =>
          obtain ⟨k, hk, rfl, rfl, hS, hq⟩ := hrel
          have HQ := Lib.hid hq
          clear hq d0 d1 d2 d3
          by_cases hlt : k < l.length
          · have hx : l[k]? = some l[k] := List.getElem?_eq_getElem hlt
            obtain ⟨g, off, u, cu, rfl, k0, k1, k2, hp, i0, i1⟩ := kept_at (HVK.out.later RKept.stays (Dirty.old hS.below _)) hx
            have HD := Lib.hid (List.drop_eq_getElem_cons hlt)
            generalize l[k] = x at *
            have HLK := Lib.hid (lastK_next hx)
            have S1 := hS.alloc (.cells #[.int .i64 x.1, .int .i64 x.2.1, .slice u x.2.2.length cu] 44)
            have S1' := (Since.refl wr).alloc (.cells #[.int .i64 x.1, .int .i64 x.2.1, .slice u x.2.2.length cu] 44)
            obtain ⟨d0, d3⟩ := HS.out _ S1
            obtain ⟨e0, e3⟩ := HS.out _ hS
            have HPI := Lib.hid (hp.stays S1'.below)
            clear hp hx
            by_cases hw : x.1 < 0 ∨ (b.length : Int) ≤ x.1
            · have HH := Lib.hid (show keptsV b (-1) l = 4 by rw [← HQ.out, HD.out]; unfold keptsV; rw [if_pos hw])
              have hw2 : x.1 < 0 ∨ (0 ≤ x.1 ∧ (b.length : Int) ≤ x.1) := by omega
              clear hw
              rcases hw2 with hw | ⟨hw, hw'⟩
              all_goals
                go_wp2_with fail
                go_ret
                exact ⟨ret_int (by rw [H.out, HH.out]), (S0.step (T1.step S1.below).below).below⟩
            · have hn0 : 0 ≤ x.1 := by omega
              have hn1 : x.1 < (b.length : Int) := by omega
              have HW2 := Lib.hid hw
              clear hw
              have hs1 : (k : Int) < (l.length : Int) := by omega
              obtain ⟨f0, f1, f2⟩ : (wr.alloc (.cells #[.int .i64 x.1, .int .i64 x.2.1, .slice u x.2.2.length cu] 44)).cell? ⟨wr.heap.size, 0, none⟩ = some (.int .i64 x.1) ∧ (wr.alloc (.cells #[.int .i64 x.1, .int .i64 x.2.1, .slice u x.2.2.length cu] 44)).cell? ⟨wr.heap.size, 1, none⟩ = some (.int .i64 x.2.1) ∧ (wr.alloc (.cells #[.int .i64 x.1, .int .i64 x.2.1, .slice u x.2.2.length cu] 44)).cell? ⟨wr.heap.size, 2, none⟩ = some (.slice u x.2.2.length cu) := ⟨by go_simp, by go_simp, by go_simp⟩
              go_upto_region 14 with fail
              clear k0 k1 k2 e0 e3 hS
              obtain ⟨Bk, hBk⟩ : ∃ Bk, Bk = wr.heap.size := ⟨_, rfl⟩
              rw [← hBk] at f0 f1 f2 ⊢
              clear hBk S1'
              generalize wr.alloc (.cells #[.int .i64 x.1, .int .i64 x.2.1, .slice u x.2.2.length cu] 44) = w2 at *
              obtain ⟨n, hn⟩ := Int.eq_ofNat_of_zero_le hn0
              have hnb : n < b.length := by omega
              have hv : b[n]? = some b[n] := List.getElem?_eq_getElem hnb
              obtain ⟨gv, ov, uv, cv, hab, m0, m1, m2, m3, hpv, iv0, iv1, iv2⟩ := vers_at (HVB.out.later RVer.stays (Dirty.old S1.below _)) hv
              have HSV := Lib.hid (show shareV b x = oneV (b[n]).2.1 (b[n]).2.2.1 (b[n]).2.2.2 x.2.1 x.2.2 from shareV_at hn hv)
              generalize b[n] = y at *
              subst hab
              clear hv hpv m0
              have HSQ : Hid (∀ w', Since w2.heap.size w2 w' → w'.cell? ⟨B, 0, none⟩ = some (.slice (some ⟨gv, ov, none⟩) b.length cb) ∧ w'.cell? ⟨Bk, 0, none⟩ = some (.int .i64 (n : Int)) ∧ w'.cell? ⟨Bk, 1, none⟩ = some (.int .i64 x.2.1) ∧ w'.cell? ⟨Bk, 2, none⟩ = some (.slice u x.2.2.length cu) ∧ w'.cell? ⟨gv, ov + n * 4 + 1, none⟩ = some (.int .i64 y.2.1) ∧ w'.cell? ⟨gv, ov + n * 4 + 1 + 1, none⟩ = some (.int .i64 y.2.2.1) ∧ w'.cell? ⟨gv, ov + n * 4 + 1 + 2, none⟩ = some (.int .i64 y.2.2.2)) :=
                Lib.hid (fun w' q => ⟨below_cell q.below d0, by rw [← hn]; exact below_cell q.below f0, below_cell q.below f1, below_cell q.below f2, below_cell q.below m1, below_cell q.below m2, below_cell q.below m3⟩)
              clear m1 m2 m3
              by_cases hle : x.1 ≤ lastK l k
              · have HH := Lib.hid (show keptsV b (-1) l = 5 by rw [← HQ.out, HD.out]; unfold keptsV; rw [if_neg HW2.out, if_pos hle])
                go_wp2_with fail
                go_ret
                exact ⟨ret_int (by rw [H.out, HH.out]), (S0.step (T1.step S1.below).below).below⟩
              · have HH := Lib.hid (show shareV b x = 0 → keptsV b (lastK l (k + 1)) (l.drop (k + 1)) = keptsV b (-1) l from fun h => by rw [← HQ.out, HD.out, HLK.out]; conv => rhs; unfold keptsV; rw [if_neg HW2.out, if_neg hle, if_neg (by simpa using h)])
                have HN := Lib.hid (show shareV b x ≠ 0 → keptsV b (-1) l = shareV b x from fun h => by rw [← HQ.out, HD.out]; unfold keptsV; rw [if_neg HW2.out, if_neg hle, if_pos h])
                go_upto_region 17 with fail
                have q2 := Since.refl w2
                have S3 := S1
                have sq := HSQ.out w2.drew q2.drew
                clear d0 d3 f0 f1 f2 hle
                go_region_held3 (fun w' => w'.cell? ⟨B, 0, none⟩ = some (.slice (some ⟨gv, ov, none⟩) b.length cb) ∧ w'.cell? ⟨Bk, 0, none⟩ = some (.int .i64 (n : Int)) ∧ w'.cell? ⟨Bk, 1, none⟩ = some (.int .i64 x.2.1) ∧ w'.cell? ⟨Bk, 2, none⟩ = some (.slice u x.2.2.length cu) ∧ w'.cell? ⟨gv, ov + n * 4 + 1, none⟩ = some (.int .i64 y.2.1) ∧ w'.cell? ⟨gv, ov + n * 4 + 1 + 1, none⟩ = some (.int .i64 y.2.2.1) ∧ w'.cell? ⟨gv, ov + n * 4 + 1 + 2, none⟩ = some (.int .i64 y.2.2.2)) (first | exact sq | exact s5) (first
                  | (go_at_call 46; refine (CheckShare_any _ _ _ _ _ x.2.2 _ (HPI.out.stays q2.drew.below)).mono ?_; rintro e w5 ⟨rfl, hb5⟩; rw [← HSV.out]; have q5 := q2.drew.step hb5; have s5 := HSQ.out w5 q5))
                all_goals
                  have S5 := S3.drew.step hb5
                  clear sq s5 hb5
                  by_cases hz : shareV b x = 0
                  · have HK2 := Lib.hid (HH.out hz)
                    rw [hz]
                    clear hz
                    go_wp2_with fail
                    go_roundw
                    case rel => exact ⟨k + 1, by omega, by go_num, by rw [HLK.out, hn], S5, HK2.out⟩
                    case measure => simp [intOf]; omega
                  · have HK2 := Lib.hid (HN.out hz)
                    have hne : (shareV b x != 0) = true := by simpa using hz
                    clear hz
                    go_wp2_with fail
                    go_ret
                    exact ⟨ret_int (by rw [H.out, HK2.out]), (S0.step (T1.step S5.below).below).below⟩
          · obtain rfl : l.length = k := by omega
            go_wp2_with fail
            go_ret
            refine ⟨ret_int ?_, (S0.step (T1.step hS.below).below).below⟩
            rw [H.out, ← HQ.out, List.drop_length]
            rfl
  · have H := Lib.hid (show peerV b (t, r, l) = bookV b by unfold peerV; rw [if_pos h0])
    have hne : (bookV b != 0) = true := by simpa using h0
    clear h0
    go_wp2_with fail
    go_ret
    exact ⟨ret_int H.out.symm, (S0.step T1.below).below⟩

end Go.Proofs.Ytpjlngkndofjfaa
