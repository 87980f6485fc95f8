/-
  The walks of what checks a peer: the program's and the reference's.
  The walk of what checks a peer: the reference's.
  The walks of what checks peers: the program's and the reference's.
  Who gets a share, in plain lists: sorted, and as the reference gathers them.
  Meshes: what is there of a version, what is restored.
-/
import Derived.Test.YtjakdgchfimhkaaGreatPeers
import Derived.Test.YtjakdgchfimhkaaGreatBooks
import Derived.Test.YtjakdgchfimhkaaGreatRowAll
import Derived.Test.YtjakdgchfimhkaaGreatBase
import Derived.Test.YtjakdgchfimhkaaGreatShares
namespace Go.Proofs.YtjakdgchfimhkaaGreat
open Go.RowKit

theorem shareV_at {b : List Ver} {n N : Int} {l : List Int} {k : Nat} {v : Ver} (hn : n = k) (hv : b[k]? = some v) : shareV b (n, N, l) = oneV v.2.1 v.2.2.1 v.2.2.2 N l := by
  subst hn
  simp [shareV, planAt, hv]
/-- The version ahead of the place; -1 at the start. -/
def lastK (l : List Kp) : Nat → Int
  | 0 => -1
  | m + 1 => ((l[m]?).map (·.1)).getD 0
theorem lastK_next {l : List Kp} {m : Nat} {x : Kp} (h : l[m]? = some x) : lastK l (m + 1) = x.1 := by simp [lastK, h]

set_option maxRecDepth 100000 in
set_option maxHeartbeats 4000000 in
theorem peerCheck_any (vb : Value) (b : List Ver) (u : Value) (p : Pr) (W : World) (hb : IsVers W vb b) (hu : IsKepts W u p.2.2) (hi : I64 p.2.1) :
    Calls Tryz.prog 79 #[.agg #[vb], .agg #[.bool p.1, .int .i64 p.2.1, u]] W fun e w' => e = .returned (.int .i64 (peerV b p)) ∧ Below W.heap.size W w' := by
  obtain ⟨t, r, l⟩ := p
  obtain ⟨ab, cb, rfl, hcb, ⟨hbm, hbc, _⟩, _⟩ := hb.opened
  obtain ⟨al, cl, rfl, hcl, ⟨hlm, hlc, _⟩, _⟩ := hu.opened
  have S0 := ((Since.refl W).alloc (.cells #[.slice ab b.length cb] 24)).alloc (.cells #[.bool t, .int .i64 r, .slice al l.length cl] 45)
  have hb0 := hb.stays RVer.stays S0.below
  have hu0 := hu.stays RKept.stays S0.below
  obtain ⟨w0, hw0⟩ : ∃ w0, w0 = (W.alloc (.cells #[.slice ab b.length cb] 24)).alloc (.cells #[.bool t, .int .i64 r, .slice al l.length cl] 45) := ⟨_, rfl⟩
  have c0 : w0.cell? ⟨W.heap.size, 0, none⟩ = some (.slice ab b.length cb) := by rw [hw0]; go_simp
  have c1 : w0.cell? ⟨W.heap.size + 1, 0, none⟩ = some (.bool t) := by rw [hw0]; go_simp
  have c2 : w0.cell? ⟨W.heap.size + 1, 1, none⟩ = some (.int .i64 r) := by rw [hw0]; go_simp
  have c3 : w0.cell? ⟨W.heap.size + 1, 2, none⟩ = some (.slice al l.length cl) := by rw [hw0]; go_simp
  rw [← hw0] at S0 hb0 hu0
  have HW := Lib.hid hw0
  clear hw0 hb hu
  obtain ⟨B, hB⟩ : ∃ B, B = W.heap.size := ⟨_, rfl⟩
  obtain ⟨B1, hB1⟩ : ∃ B1, B1 = W.heap.size + 1 := ⟨_, rfl⟩
  rw [← hB1] at c1 c2 c3
  rw [← hB] at c0
  have HB := Lib.hid hB
  have HB1 := Lib.hid hB1
  clear hB hB1
  have l0 := cell_lt c0
  have l1 := cell_lt c1
  go_enter Tryz.func79, Tryz.ntmps79
  go_wp2_with fail
  rw [← HW.out, ← HB1.out, ← HB.out]
  refine (bookCheck_any _ b _ hb0).mono ?_
  rintro e w1 ⟨rfl, hb1⟩
  have T1 := (Since.refl w0).step hb1
  have HVB := Lib.hid (hb0.stays RVer.stays hb1)
  have HVK := Lib.hid (hu0.stays RKept.stays hb1)
  have d0 := below_cell hb1 c0
  have d1 := below_cell hb1 c1
  have d2 := below_cell hb1 c2
  have d3 := below_cell hb1 c3
  clear c0 c1 c2 c3 hb1 l0 l1 hb0 hu0
  by_cases h0 : bookV b = 0
  · have H0 := Lib.hid h0
    have ht := (bookV_ok.1 h0).top
    rw [h0]
    clear h0
    by_cases hr : r < 0 ∨ 20 < r
    · have H := Lib.hid (show peerV b (t, r, l) = 2 by unfold peerV; rw [if_neg (by simpa using H0.out), if_pos hr])
      have hr2 : r < 0 ∨ (0 ≤ r ∧ 20 < r) := by omega
      clear hr
      rcases hr2 with hr | ⟨hr, hr'⟩
      all_goals
        go_wp2_with fail
        go_ret
        exact ⟨ret_int H.out.symm, (S0.step T1.below).below⟩
    · have hr0 : 0 ≤ r := by omega
      have hr1 : r ≤ 20 := by omega
      by_cases hf : r < (l.length : Int)
      · have H := Lib.hid (show peerV b (t, r, l) = 8 by unfold peerV; rw [if_neg (by simpa using H0.out), if_neg hr, if_pos hf])
        clear hr
        go_wp2_with fail
        go_ret
        exact ⟨ret_int H.out.symm, (S0.step T1.below).below⟩
      · have H := Lib.hid (show peerV b (t, r, l) = keptsV b (-1) l by unfold peerV; rw [if_neg (by simpa using H0.out), if_neg hr, if_neg hf])
        have hl20 : l.length ≤ 20 := by omega
        have hf' : (l.length : Int) ≤ r := by omega
        have HS : Hid (∀ w', Since w1.heap.size w1 w' → w'.cell? ⟨B, 0, none⟩ = some (.slice ab b.length cb) ∧ w'.cell? ⟨B1, 2, none⟩ = some (.slice al l.length cl)) := Lib.hid (fun w' q => ⟨below_cell q.below d0, below_cell q.below d3⟩)
        clear hr hf
        go_wp2_with fail
        go_loopw [31] (fun i wr => ∃ k : Nat, k ≤ l.length ∧ i = .int .i64 k ∧ Since w1.heap.size w1 wr ∧ keptsV b (lastK l k) (l.drop k) = keptsV b (-1) l) (fun i _ => l.length - (intOf i).toNat)
        case atStart => exact ⟨0, by omega, rfl, Since.refl w1, rfl⟩
        case round =>
          obtain ⟨k, hk, rfl, hS, hq⟩ := hrel
          have HQ := Lib.hid hq
          clear hq d0 d1 d2 d3
          by_cases hlt : k < l.length
          · have hx : l[k]? = some l[k] := List.getElem?_eq_getElem hlt
            obtain ⟨g, off, u, cu, rfl, k0, k1, k2, hp, i0, i1⟩ := kept_at (HVK.out.later RKept.stays (Dirty.old hS.below _)) hx
            have HD := Lib.hid (List.drop_eq_getElem_cons hlt)
            generalize l[k] = x at *
            have HLK := Lib.hid (lastK_next hx)
            have S1 := hS.alloc (.cells #[.int .i64 x.1, .int .i64 x.2.1, .slice u x.2.2.length cu] 60)
            have S1' := (Since.refl wr).alloc (.cells #[.int .i64 x.1, .int .i64 x.2.1, .slice u x.2.2.length cu] 60)
            obtain ⟨d0, d3⟩ := HS.out _ S1
            obtain ⟨e0, e3⟩ := HS.out _ hS
            have HPI := Lib.hid (hp.stays S1'.below)
            clear hp hx
            by_cases hw : x.1 < 0 ∨ (b.length : Int) ≤ x.1
            · have HH := Lib.hid (show keptsV b (-1) l = 4 by rw [← HQ.out, HD.out]; unfold keptsV; rw [if_pos hw])
              have hw2 : x.1 < 0 ∨ (0 ≤ x.1 ∧ (b.length : Int) ≤ x.1) := by omega
              clear hw
              rcases hw2 with hw | ⟨hw, hw'⟩
              all_goals
                go_wp2_with fail
                go_ret
                exact ⟨ret_int (by rw [H.out, HH.out]), (S0.step (T1.step S1.below).below).below⟩
            · have hn0 : 0 ≤ x.1 := by omega
              have hn1 : x.1 < (b.length : Int) := by omega
              have HW2 := Lib.hid hw
              clear hw
              have hs1 : (k : Int) < (l.length : Int) := by omega
              obtain ⟨f0, f1, f2⟩ : (wr.alloc (.cells #[.int .i64 x.1, .int .i64 x.2.1, .slice u x.2.2.length cu] 60)).cell? ⟨wr.heap.size, 0, none⟩ = some (.int .i64 x.1) ∧ (wr.alloc (.cells #[.int .i64 x.1, .int .i64 x.2.1, .slice u x.2.2.length cu] 60)).cell? ⟨wr.heap.size, 1, none⟩ = some (.int .i64 x.2.1) ∧ (wr.alloc (.cells #[.int .i64 x.1, .int .i64 x.2.1, .slice u x.2.2.length cu] 60)).cell? ⟨wr.heap.size, 2, none⟩ = some (.slice u x.2.2.length cu) := ⟨by go_simp, by go_simp, by go_simp⟩
              go_upto_region 13 with fail
              clear k0 k1 k2 e0 e3 hS
              obtain ⟨Bk, hBk⟩ : ∃ Bk, Bk = wr.heap.size := ⟨_, rfl⟩
              rw [← hBk] at f0 f1 f2 ⊢
              clear hBk S1'
              generalize wr.alloc (.cells #[.int .i64 x.1, .int .i64 x.2.1, .slice u x.2.2.length cu] 60) = w2 at *
              obtain ⟨n, hn⟩ := Int.eq_ofNat_of_zero_le hn0
              have hnb : n < b.length := by omega
              have hv : b[n]? = some b[n] := List.getElem?_eq_getElem hnb
              obtain ⟨gv, ov, uv, cv, hab, m0, m1, m2, m3, hpv, iv0, iv1, iv2⟩ := vers_at (HVB.out.later RVer.stays (Dirty.old S1.below _)) hv
              have HSV := Lib.hid (show shareV b x = oneV (b[n]).2.1 (b[n]).2.2.1 (b[n]).2.2.2 x.2.1 x.2.2 from shareV_at hn hv)
              generalize b[n] = y at *
              subst hab
              clear hv hpv m0
              have HSQ : Hid (∀ w', Since w2.heap.size w2 w' → w'.cell? ⟨B, 0, none⟩ = some (.slice (some ⟨gv, ov, none⟩) b.length cb) ∧ w'.cell? ⟨Bk, 0, none⟩ = some (.int .i64 (n : Int)) ∧ w'.cell? ⟨Bk, 1, none⟩ = some (.int .i64 x.2.1) ∧ w'.cell? ⟨Bk, 2, none⟩ = some (.slice u x.2.2.length cu) ∧ w'.cell? ⟨gv, ov + n * 4 + 1, none⟩ = some (.int .i64 y.2.1) ∧ w'.cell? ⟨gv, ov + n * 4 + 1 + 1, none⟩ = some (.int .i64 y.2.2.1) ∧ w'.cell? ⟨gv, ov + n * 4 + 1 + 2, none⟩ = some (.int .i64 y.2.2.2)) :=
                Lib.hid (fun w' q => ⟨below_cell q.below d0, by rw [← hn]; exact below_cell q.below f0, below_cell q.below f1, below_cell q.below f2, below_cell q.below m1, below_cell q.below m2, below_cell q.below m3⟩)
              clear m1 m2 m3
              have hcase : (k = 0 ∧ Hid (¬ x.1 ≤ lastK l k)) ∨ ∃ m z, k = m + 1 ∧ w2.cell? ⟨g, off + m * 3, none⟩ = some (.int .i64 z) ∧ I64 z ∧ Hid (lastK l k = z) := by
                cases k with
                | zero => exact Or.inl ⟨rfl, Lib.hid (by simp [lastK]; omega)⟩
                | succ m =>
                  have hy : l[m]? = some l[m] := List.getElem?_eq_getElem (by omega)
                  obtain ⟨g', off', u', cu', e1, j0, _, _, _, j1, _⟩ := kept_at (HVK.out.later RKept.stays (Dirty.old S1.below _)) hy
                  cases e1
                  exact Or.inr ⟨m, _, rfl, j0, j1, Lib.hid (lastK_next hy)⟩
              have hgo : (Hid (x.1 ≤ lastK l k) ∧ ∃ m z, k = m + 1 ∧ w2.cell? ⟨g, off + m * 3, none⟩ = some (.int .i64 z) ∧ x.1 ≤ z) ∨ (Hid (¬ x.1 ≤ lastK l k) ∧ (k = 0 ∨ ∃ m z, k = m + 1 ∧ w2.cell? ⟨g, off + m * 3, none⟩ = some (.int .i64 z) ∧ z < x.1)) := by
                rcases hcase with ⟨h1, h2⟩ | ⟨m, z, h1, h2, _, h4⟩
                · exact Or.inr ⟨h2, Or.inl h1⟩
                · by_cases hz : x.1 ≤ z
                  · exact Or.inl ⟨Lib.hid (by rw [h4.out]; exact hz), m, z, h1, h2, hz⟩
                  · exact Or.inr ⟨Lib.hid (by rw [h4.out]; exact hz), Or.inr ⟨m, z, h1, h2, by omega⟩⟩
              clear hcase
              rcases hgo with ⟨HLE, m, z, rfl, j0, hle⟩ | ⟨HGT, hgo⟩
              · have HH := Lib.hid (show keptsV b (-1) l = 5 by rw [← HQ.out, HD.out]; unfold keptsV; rw [if_neg HW2.out, if_pos HLE.out])
                have hw1 : IntKind.i64.wrap (((m + 1 : Nat) : Int) - 1) = (m : Int) := by rw [IntWalk.i64_in _ (by omega)]; omega
                have hw3 : (0 : Int) ≤ (m : Int) := by omega
                have hw4 : (m : Int) < (l.length : Int) := by omega
                have hw5 : (0 : Int) < ((m + 1 : Nat) : Int) := by omega
                go_wp2_with (go_quiet (fail))
                go_ret
                exact ⟨ret_int (by rw [H.out, HH.out]), (S0.step (T1.step (since_drewN S1 nq).below).below).below⟩
              · have HH := Lib.hid (show shareV b x = 0 → keptsV b (lastK l (k + 1)) (l.drop (k + 1)) = keptsV b (-1) l from fun h => by rw [← HQ.out, HD.out, HLK.out]; conv => rhs; unfold keptsV; rw [if_neg HW2.out, if_neg HGT.out, if_neg (by simpa using h)])
                have HN := Lib.hid (show shareV b x ≠ 0 → keptsV b (-1) l = shareV b x from fun h => by rw [← HQ.out, HD.out]; unfold keptsV; rw [if_neg HW2.out, if_neg HGT.out, if_pos h])
                rcases hgo with hk0 | ⟨m, z, hkm, j0, hle⟩
                case' inl => have hk1 : ¬ (0 < (k : Int)) := by omega
                case' inr =>
                  have hw1 : IntKind.i64.wrap ((k : Int) - 1) = (m : Int) := by rw [IntWalk.i64_in _ (by omega)]; omega
                  have hw3 : (0 : Int) ≤ (m : Int) := by omega
                  have hw4 : (m : Int) < (l.length : Int) := by omega
                  have hw5 : (0 : Int) < (k : Int) := by omega
                  have hle' : ¬ x.1 ≤ z := by omega
                all_goals
                  go_upto_region 13 with fail
                  go_wp2_with (go_quiet (fail))
                  have q2 := since_drewN (Since.refl w2) nq
                  have S3 := since_drewN S1 nq
                  generalize w2.drewN nq = wq at *
                  have sq := HSQ.out wq.drew q2.drew
                  clear d0 d3 f0 f1 f2
                  go_upto_region 15 with fail
                  go_region_held3 (fun w' => w'.cell? ⟨B, 0, none⟩ = some (.slice (some ⟨gv, ov, none⟩) b.length cb) ∧ w'.cell? ⟨Bk, 0, none⟩ = some (.int .i64 (n : Int)) ∧ w'.cell? ⟨Bk, 1, none⟩ = some (.int .i64 x.2.1) ∧ w'.cell? ⟨Bk, 2, none⟩ = some (.slice u x.2.2.length cu) ∧ w'.cell? ⟨gv, ov + n * 4 + 1, none⟩ = some (.int .i64 y.2.1) ∧ w'.cell? ⟨gv, ov + n * 4 + 1 + 1, none⟩ = some (.int .i64 y.2.2.1) ∧ w'.cell? ⟨gv, ov + n * 4 + 1 + 2, none⟩ = some (.int .i64 y.2.2.2)) (first | exact sq | exact s5) (first
                    | (go_at_call 87; refine (One_any _ _ _ _ _ x.2.2 _ (HPI.out.stays q2.drew.below)).mono ?_; rintro e w5 ⟨rfl, hb5⟩; rw [← HSV.out]; have q5 := q2.drew.step hb5; have s5 := HSQ.out w5 q5))
                  all_goals
                    have S5 := S3.drew.step hb5
                    clear sq s5 hb5
                    by_cases hz : shareV b x = 0
                    · have HK2 := Lib.hid (HH.out hz)
                      rw [hz]
                      clear hz
                      go_wp2_with fail
                      go_roundw
                      case rel => exact ⟨k + 1, by omega, by go_num, S5, HK2.out⟩
                      case measure => simp [intOf]; omega
                    · have HK2 := Lib.hid (HN.out hz)
                      have hne : (shareV b x != 0) = true := by simpa using hz
                      clear hz
                      go_wp2_with fail
                      go_ret
                      exact ⟨ret_int (by rw [H.out, HK2.out]), (S0.step (T1.step S5.below).below).below⟩
          · obtain rfl : l.length = k := by omega
            go_wp2_with fail
            go_ret
            refine ⟨ret_int ?_, (S0.step (T1.step hS.below).below).below⟩
            rw [H.out, ← HQ.out, List.drop_length]
            rfl
  · have H := Lib.hid (show peerV b (t, r, l) = bookV b by unfold peerV; rw [if_pos h0])
    have hne : (bookV b != 0) = true := by simpa using h0
    clear h0
    go_wp2_with fail
    go_ret
    exact ⟨ret_int H.out.symm, (S0.step T1.below).below⟩

end Go.Proofs.YtjakdgchfimhkaaGreat

namespace Go.Proofs.YtjakdgchfimhkaaGreat
open Go.RowKit

set_option maxRecDepth 100000 in
set_option maxHeartbeats 4000000 in
theorem CheckPeer_any (vb : Value) (b : List Ver) (u : Value) (p : Pr) (W : World) (hb : IsVers W vb b) (hu : IsKepts W u p.2.2) (hi : I64 p.2.1) :
    Calls Tryz.prog 80 #[.agg #[vb], .agg #[.bool p.1, .int .i64 p.2.1, u]] W fun e w' => e = .returned (.int .i64 (peerV b p)) ∧ Below W.heap.size W w' := by
  obtain ⟨t, r, l⟩ := p
  obtain ⟨ab, cb, rfl, hcb, ⟨hbm, hbc, _⟩, _⟩ := hb.opened
  obtain ⟨al, cl, rfl, hcl, ⟨hlm, hlc, _⟩, _⟩ := hu.opened
  have S0 := ((Since.refl W).alloc (.cells #[.slice ab b.length cb] 24)).alloc (.cells #[.bool t, .int .i64 r, .slice al l.length cl] 45)
  have hb0 := hb.stays RVer.stays S0.below
  have hu0 := hu.stays RKept.stays S0.below
  obtain ⟨w0, hw0⟩ : ∃ w0, w0 = (W.alloc (.cells #[.slice ab b.length cb] 24)).alloc (.cells #[.bool t, .int .i64 r, .slice al l.length cl] 45) := ⟨_, rfl⟩
  have c0 : w0.cell? ⟨W.heap.size, 0, none⟩ = some (.slice ab b.length cb) := by rw [hw0]; go_simp
  have c1 : w0.cell? ⟨W.heap.size + 1, 0, none⟩ = some (.bool t) := by rw [hw0]; go_simp
  have c2 : w0.cell? ⟨W.heap.size + 1, 1, none⟩ = some (.int .i64 r) := by rw [hw0]; go_simp
  have c3 : w0.cell? ⟨W.heap.size + 1, 2, none⟩ = some (.slice al l.length cl) := by rw [hw0]; go_simp
  rw [← hw0] at S0 hb0 hu0
  have HW := Lib.hid hw0
  clear hw0 hb hu
  obtain ⟨B, hB⟩ : ∃ B, B = W.heap.size := ⟨_, rfl⟩
  obtain ⟨B1, hB1⟩ : ∃ B1, B1 = W.heap.size + 1 := ⟨_, rfl⟩
  rw [← hB1] at c1 c2 c3
  rw [← hB] at c0
  have HB := Lib.hid hB
  have HB1 := Lib.hid hB1
  clear hB hB1
  have l0 := cell_lt c0
  have l1 := cell_lt c1
  go_enter Tryz.func80, Tryz.ntmps80
  go_wp2_with fail
  rw [← HW.out, ← HB1.out, ← HB.out]
  refine (CheckBook_any _ b _ hb0).mono ?_
  rintro e w1 ⟨rfl, hb1⟩
  have T1 := (Since.refl w0).step hb1
  have HVB := Lib.hid (hb0.stays RVer.stays hb1)
  have HVK := Lib.hid (hu0.stays RKept.stays hb1)
  have d0 := below_cell hb1 c0
  have d1 := below_cell hb1 c1
  have d2 := below_cell hb1 c2
  have d3 := below_cell hb1 c3
  clear c0 c1 c2 c3 hb1 l0 l1 hb0 hu0
  by_cases h0 : bookV b = 0
  · have H0 := Lib.hid h0
    have ht := (bookV_ok.1 h0).top
    rw [h0]
    clear h0
    by_cases hr : r < 0 ∨ 20 < r
    · have H := Lib.hid (show peerV b (t, r, l) = 2 by unfold peerV; rw [if_neg (by simpa using H0.out), if_pos hr])
      have hin := inB_no (n := r) (a := 0) (b := 20) hr
      clear hr
      go_wp2_with (go_at_call 109; refine (in_any _ _ _ _).mono ?_; rintro e w' ⟨rfl, rfl⟩; rw [hin])
      go_ret
      exact ⟨ret_int H.out.symm, (S0.step T1.below).below⟩
    · have hr0 : 0 ≤ r := by omega
      have hr1 : r ≤ 20 := by omega
      have hin := inB_yes (n := r) (a := 0) (b := 20) hr0 hr1
      by_cases hf : r < (l.length : Int)
      · have H := Lib.hid (show peerV b (t, r, l) = 8 by unfold peerV; rw [if_neg (by simpa using H0.out), if_neg hr, if_pos hf])
        clear hr
        go_wp2_with (go_at_call 109; refine (in_any _ _ _ _).mono ?_; rintro e w' ⟨rfl, rfl⟩; rw [hin])
        go_ret
        exact ⟨ret_int H.out.symm, (S0.step T1.below).below⟩
      · have H := Lib.hid (show peerV b (t, r, l) = keptsV b (-1) l by unfold peerV; rw [if_neg (by simpa using H0.out), if_neg hr, if_neg hf])
        have hl20 : l.length ≤ 20 := by omega
        have hf' : (l.length : Int) ≤ r := by omega
        have HS : Hid (∀ w', Since w1.heap.size w1 w' → w'.cell? ⟨B, 0, none⟩ = some (.slice ab b.length cb) ∧ w'.cell? ⟨B1, 2, none⟩ = some (.slice al l.length cl)) := Lib.hid (fun w' q => ⟨below_cell q.below d0, below_cell q.below d3⟩)
        clear hr hf
        go_wp2_with (go_at_call 109; refine (in_any _ _ _ _).mono ?_; rintro e w' ⟨rfl, rfl⟩; rw [hin])
        go_loopw [28, 6] (fun i z wr => ∃ k : Nat, k ≤ l.length ∧ i = .int .i64 k ∧ z = .int .i64 (lastK l k) ∧ Since w1.heap.size w1 wr ∧ keptsV b (lastK l k) (l.drop k) = keptsV b (-1) l) (fun i _ _ => l.length - (intOf i).toNat)
        case atStart => exact ⟨0, by omega, rfl, rfl, Since.refl w1, rfl⟩
        case round =>
          obtain ⟨k, hk, rfl, rfl, hS, hq⟩ := hrel
          have HQ := Lib.hid hq
          clear hq d0 d1 d2 d3
          by_cases hlt : k < l.length
          · have hx : l[k]? = some l[k] := List.getElem?_eq_getElem hlt
            obtain ⟨g, off, u, cu, rfl, k0, k1, k2, hp, i0, i1⟩ := kept_at (HVK.out.later RKept.stays (Dirty.old hS.below _)) hx
            have HD := Lib.hid (List.drop_eq_getElem_cons hlt)
            generalize l[k] = x at *
            have HLK := Lib.hid (lastK_next hx)
            have S1 := hS.alloc (.cells #[.int .i64 x.1, .int .i64 x.2.1, .slice u x.2.2.length cu] 60)
            have S1' := (Since.refl wr).alloc (.cells #[.int .i64 x.1, .int .i64 x.2.1, .slice u x.2.2.length cu] 60)
            obtain ⟨d0, d3⟩ := HS.out _ S1
            obtain ⟨e0, e3⟩ := HS.out _ hS
            have HPI := Lib.hid (hp.stays S1'.below)
            clear hp hx
            by_cases hw : x.1 < 0 ∨ (b.length : Int) ≤ x.1
            · have HH := Lib.hid (show keptsV b (-1) l = 4 by rw [← HQ.out, HD.out]; unfold keptsV; rw [if_pos hw])
              have hw2 : x.1 < 0 ∨ (0 ≤ x.1 ∧ (b.length : Int) ≤ x.1) := by omega
              clear hw
              rcases hw2 with hw | ⟨hw, hw'⟩
              all_goals
                go_wp2_with fail
                go_ret
                exact ⟨ret_int (by rw [H.out, HH.out]), (S0.step (T1.step S1.below).below).below⟩
            · have hn0 : 0 ≤ x.1 := by omega
              have hn1 : x.1 < (b.length : Int) := by omega
              have HW2 := Lib.hid hw
              clear hw
              have hs1 : (k : Int) < (l.length : Int) := by omega
              obtain ⟨f0, f1, f2⟩ : (wr.alloc (.cells #[.int .i64 x.1, .int .i64 x.2.1, .slice u x.2.2.length cu] 60)).cell? ⟨wr.heap.size, 0, none⟩ = some (.int .i64 x.1) ∧ (wr.alloc (.cells #[.int .i64 x.1, .int .i64 x.2.1, .slice u x.2.2.length cu] 60)).cell? ⟨wr.heap.size, 1, none⟩ = some (.int .i64 x.2.1) ∧ (wr.alloc (.cells #[.int .i64 x.1, .int .i64 x.2.1, .slice u x.2.2.length cu] 60)).cell? ⟨wr.heap.size, 2, none⟩ = some (.slice u x.2.2.length cu) := ⟨by go_simp, by go_simp, by go_simp⟩
              go_upto_region 14 with fail
              clear k0 k1 k2 e0 e3 hS
              obtain ⟨Bk, hBk⟩ : ∃ Bk, Bk = wr.heap.size := ⟨_, rfl⟩
              rw [← hBk] at f0 f1 f2 ⊢
              clear hBk S1'
              generalize wr.alloc (.cells #[.int .i64 x.1, .int .i64 x.2.1, .slice u x.2.2.length cu] 60) = w2 at *
              obtain ⟨n, hn⟩ := Int.eq_ofNat_of_zero_le hn0
              have hnb : n < b.length := by omega
              have hv : b[n]? = some b[n] := List.getElem?_eq_getElem hnb
              obtain ⟨gv, ov, uv, cv, hab, m0, m1, m2, m3, hpv, iv0, iv1, iv2⟩ := vers_at (HVB.out.later RVer.stays (Dirty.old S1.below _)) hv
              have HSV := Lib.hid (show shareV b x = oneV (b[n]).2.1 (b[n]).2.2.1 (b[n]).2.2.2 x.2.1 x.2.2 from shareV_at hn hv)
              generalize b[n] = y at *
              subst hab
              clear hv hpv m0
              have HSQ : Hid (∀ w', Since w2.heap.size w2 w' → w'.cell? ⟨B, 0, none⟩ = some (.slice (some ⟨gv, ov, none⟩) b.length cb) ∧ w'.cell? ⟨Bk, 0, none⟩ = some (.int .i64 (n : Int)) ∧ w'.cell? ⟨Bk, 1, none⟩ = some (.int .i64 x.2.1) ∧ w'.cell? ⟨Bk, 2, none⟩ = some (.slice u x.2.2.length cu) ∧ w'.cell? ⟨gv, ov + n * 4 + 1, none⟩ = some (.int .i64 y.2.1) ∧ w'.cell? ⟨gv, ov + n * 4 + 1 + 1, none⟩ = some (.int .i64 y.2.2.1) ∧ w'.cell? ⟨gv, ov + n * 4 + 1 + 2, none⟩ = some (.int .i64 y.2.2.2)) :=
                Lib.hid (fun w' q => ⟨below_cell q.below d0, by rw [← hn]; exact below_cell q.below f0, below_cell q.below f1, below_cell q.below f2, below_cell q.below m1, below_cell q.below m2, below_cell q.below m3⟩)
              clear m1 m2 m3
              by_cases hle : x.1 ≤ lastK l k
              · have HH := Lib.hid (show keptsV b (-1) l = 5 by rw [← HQ.out, HD.out]; unfold keptsV; rw [if_neg HW2.out, if_pos hle])
                go_wp2_with fail
                go_ret
                exact ⟨ret_int (by rw [H.out, HH.out]), (S0.step (T1.step S1.below).below).below⟩
              · have HH := Lib.hid (show shareV b x = 0 → keptsV b (lastK l (k + 1)) (l.drop (k + 1)) = keptsV b (-1) l from fun h => by rw [← HQ.out, HD.out, HLK.out]; conv => rhs; unfold keptsV; rw [if_neg HW2.out, if_neg hle, if_neg (by simpa using h)])
                have HN := Lib.hid (show shareV b x ≠ 0 → keptsV b (-1) l = shareV b x from fun h => by rw [← HQ.out, HD.out]; unfold keptsV; rw [if_neg HW2.out, if_neg hle, if_pos h])
                go_upto_region 17 with fail
                have q2 := Since.refl w2
                have S3 := S1
                have sq := HSQ.out w2.drew q2.drew
                clear d0 d3 f0 f1 f2 hle
                go_region_held3 (fun w' => w'.cell? ⟨B, 0, none⟩ = some (.slice (some ⟨gv, ov, none⟩) b.length cb) ∧ w'.cell? ⟨Bk, 0, none⟩ = some (.int .i64 (n : Int)) ∧ w'.cell? ⟨Bk, 1, none⟩ = some (.int .i64 x.2.1) ∧ w'.cell? ⟨Bk, 2, none⟩ = some (.slice u x.2.2.length cu) ∧ w'.cell? ⟨gv, ov + n * 4 + 1, none⟩ = some (.int .i64 y.2.1) ∧ w'.cell? ⟨gv, ov + n * 4 + 1 + 1, none⟩ = some (.int .i64 y.2.2.1) ∧ w'.cell? ⟨gv, ov + n * 4 + 1 + 2, none⟩ = some (.int .i64 y.2.2.2)) (first | exact sq | exact s5) (first
                  | (go_at_call 104; refine (CheckShare_any _ _ _ _ _ x.2.2 _ (HPI.out.stays q2.drew.below)).mono ?_; rintro e w5 ⟨rfl, hb5⟩; rw [← HSV.out]; have q5 := q2.drew.step hb5; have s5 := HSQ.out w5 q5))
                all_goals
                  have S5 := S3.drew.step hb5
                  clear sq s5 hb5
                  by_cases hz : shareV b x = 0
                  · have HK2 := Lib.hid (HH.out hz)
                    rw [hz]
                    clear hz
                    go_wp2_with fail
                    go_roundw
                    case rel => exact ⟨k + 1, by omega, by go_num, by rw [HLK.out, hn], S5, HK2.out⟩
                    case measure => simp [intOf]; omega
                  · have HK2 := Lib.hid (HN.out hz)
                    have hne : (shareV b x != 0) = true := by simpa using hz
                    clear hz
                    go_wp2_with fail
                    go_ret
                    exact ⟨ret_int (by rw [H.out, HK2.out]), (S0.step (T1.step S5.below).below).below⟩
          · obtain rfl : l.length = k := by omega
            go_wp2_with fail
            go_ret
            refine ⟨ret_int ?_, (S0.step (T1.step hS.below).below).below⟩
            rw [H.out, ← HQ.out, List.drop_length]
            rfl
  · have H := Lib.hid (show peerV b (t, r, l) = bookV b by unfold peerV; rw [if_pos h0])
    have hne : (bookV b != 0) = true := by simpa using h0
    clear h0
    go_wp2_with fail
    go_ret
    exact ⟨ret_int H.out.symm, (S0.step T1.below).below⟩

end Go.Proofs.YtjakdgchfimhkaaGreat

namespace Go.Proofs.YtjakdgchfimhkaaGreat
open Go.RowKit

/-- What is wrong with the first peer that isn't right. -/
def peersV (b : List Ver) : List Pr → Int
  | [] => 0
  | p :: r => if peerV b p ≠ 0 then peerV b p else peersV b r
/-- What Check of peers answers. -/
def placeV (b : List Ver) (l : List Pr) : Int := if bookV b ≠ 0 then bookV b else if 8 < (l.length : Int) then 1 else peersV b l
theorem peersV_ok {b : List Ver} : ∀ {l : List Pr}, peersV b l = 0 ↔ ∀ p ∈ l, PeerOk b p
  | [] => by simp [peersV]
  | p :: r => by
    unfold peersV
    by_cases h : peerV b p = 0
    · rw [if_neg (by simpa using h), peersV_ok (l := r)]
      exact ⟨fun h2 q hq => by rcases List.mem_cons.1 hq with rfl | hq; exact peerV_ok.1 h; exact h2 q hq, fun h2 q hq => h2 q (by simp [hq])⟩
    · rw [if_pos h]
      exact ⟨fun h2 => absurd h2 h, fun h2 => absurd (peerV_ok.2 (h2 p (by simp))) h⟩
theorem placeV_ok {b : List Ver} {l : List Pr} : placeV b l = 0 ↔ bookV b = 0 ∧ l.length ≤ 8 ∧ ∀ p ∈ l, PeerOk b p := by
  unfold placeV
  by_cases h : bookV b = 0
  · rw [if_neg (by simpa using h)]
    by_cases h2 : 8 < (l.length : Int)
    · rw [if_pos h2]
      exact ⟨fun e => by simp at e, fun h3 => by omega⟩
    · rw [if_neg h2, peersV_ok]
      exact ⟨fun h3 => ⟨h, by omega, h3⟩, fun h3 => h3.2.2⟩
  · rw [if_pos h]
    exact ⟨fun e => absurd e h, fun h2 => absurd h2.1 h⟩

set_option maxRecDepth 100000 in
set_option maxHeartbeats 2000000 in
theorem placeCheck_any (vb : Value) (b : List Ver) (u : Value) (l : List Pr) (W : World) (hb : IsVers W vb b) (hu : IsPeers W u l) :
    Calls Tryz.prog 40 #[.agg #[vb], u] W fun e w' => e = .returned (.int .i64 (placeV b l)) ∧ Below W.heap.size W w' := by
  obtain ⟨ab, cb, rfl, hcb, ⟨hbm, hbc, _⟩, _⟩ := hb.opened
  obtain ⟨al, cl, rfl, hcl, ⟨hlm, hlc, _⟩, _⟩ := hu.opened
  have S0 := (Since.refl W).alloc (.cells #[.slice ab b.length cb] 24)
  have hb0 := hb.stays RVer.stays S0.below
  have hu0 := hu.stays RPeer.stays S0.below
  have c0 : (W.alloc (.cells #[.slice ab b.length cb] 24)).cell? ⟨W.heap.size, 0, none⟩ = some (.slice ab b.length cb) := by go_simp
  clear hb hu
  go_enter Tryz.func40, Tryz.ntmps40
  go_wp2_with fail
  generalize W.alloc (.cells #[.slice ab b.length cb] 24) = w0 at *
  obtain ⟨B, hB⟩ : ∃ B, B = W.heap.size := ⟨_, rfl⟩
  rw [← hB] at c0 ⊢
  have HB := Lib.hid hB
  clear hB
  refine (bookCheck_any _ b _ hb0).mono ?_
  rintro e w1 ⟨rfl, hb1⟩
  have T1 := (Since.refl w0).step hb1
  have HVB := Lib.hid (hb0.stays RVer.stays hb1)
  have HVK := Lib.hid (hu0.stays RPeer.stays hb1)
  have d0 := below_cell hb1 c0
  clear c0 hb1 hb0 hu0
  by_cases h0 : bookV b = 0
  · have H0 := Lib.hid h0
    rw [h0]
    clear h0
    by_cases hr : 8 < (l.length : Int)
    · have H := Lib.hid (show placeV b l = 1 by unfold placeV; rw [if_neg (by simpa using H0.out), if_pos hr])
      go_wp2_with fail
      go_ret
      exact ⟨ret_int H.out.symm, (S0.step T1.below).below⟩
    · have H := Lib.hid (show placeV b l = peersV b l by unfold placeV; rw [if_neg (by simpa using H0.out), if_neg hr])
      have hr' : (l.length : Int) ≤ 8 := by omega
      have HS : Hid (∀ w', Since w1.heap.size w1 w' → w'.cell? ⟨B, 0, none⟩ = some (.slice ab b.length cb)) := Lib.hid (fun w' q => below_cell q.below d0)
      clear hr
      go_wp2_with fail
      go_loopw [19] (fun i wr => ∃ k : Nat, k ≤ l.length ∧ i = .int .i64 k ∧ Since w1.heap.size w1 wr ∧ peersV b (l.drop k) = peersV b l) (fun i _ => l.length - (intOf i).toNat)
      case atStart => exact ⟨0, by omega, rfl, Since.refl w1, rfl⟩
      case round =>
        obtain ⟨k, hk, rfl, hS, hq⟩ := hrel
        have HQ := Lib.hid hq
        clear hq d0
        by_cases hlt : k < l.length
        · obtain ⟨g, off, u, cu, rfl, k0, k1, k2, hp, i1⟩ := peer_at (HVK.out.later RPeer.stays (Dirty.old hS.below _)) (List.getElem?_eq_getElem hlt)
          have HD := Lib.hid (List.drop_eq_getElem_cons hlt)
          generalize l[k] = p at *
          have S1 := hS.alloc (.cells #[.bool p.1, .int .i64 p.2.1, .slice u p.2.2.length cu] 45)
          have S1' := (Since.refl wr).alloc (.cells #[.bool p.1, .int .i64 p.2.1, .slice u p.2.2.length cu] 45)
          have d0 := HS.out _ S1
          have HPI := Lib.hid (hp.stays RKept.stays S1'.below)
          have HVB1 := Lib.hid (HVB.out.later RVer.stays (Dirty.old S1.below _))
          clear hp S1'
          go_wp2_with fail
          refine (peerCheck_any _ b _ p _ HVB1.out HPI.out i1).mono ?_
          rintro e w2 ⟨rfl, hb2⟩
          have S2 := S1.step hb2
          clear k0 k1 k2 hb2 d0
          by_cases hz : peerV b p = 0
          · have HH := Lib.hid (show peersV b (l.drop (k + 1)) = peersV b l by rw [← HQ.out, HD.out]; conv => rhs; unfold peersV; rw [if_neg (by simpa using hz)])
            rw [hz]
            clear hz
            go_wp2_with fail
            go_roundw
            case rel => exact ⟨k + 1, by omega, by go_num, S2, HH.out⟩
            case measure => simp [intOf]; omega
          · have HH := Lib.hid (show peersV b l = peerV b p by rw [← HQ.out, HD.out]; unfold peersV; rw [if_pos hz])
            have hne : (peerV b p != 0) = true := by simpa using hz
            clear hz
            go_wp2_with fail
            go_ret
            exact ⟨ret_int (by rw [H.out, HH.out]), (S0.step (T1.step S2.below).below).below⟩
        · obtain rfl : l.length = k := by omega
          go_wp2_with fail
          go_ret
          refine ⟨ret_int ?_, (S0.step (T1.step hS.below).below).below⟩
          rw [H.out, ← HQ.out, List.drop_length]
          rfl
  · have H := Lib.hid (show placeV b l = bookV b by unfold placeV; rw [if_pos h0])
    have hne : (bookV b != 0) = true := by simpa using h0
    clear h0
    go_wp2_with fail
    go_ret
    exact ⟨ret_int H.out.symm, (S0.step T1.below).below⟩

set_option maxRecDepth 100000 in
set_option maxHeartbeats 2000000 in
theorem CheckPeers_any (vb : Value) (b : List Ver) (u : Value) (l : List Pr) (W : World) (hb : IsVers W vb b) (hu : IsPeers W u l) :
    Calls Tryz.prog 41 #[.agg #[vb], u] W fun e w' => e = .returned (.int .i64 (placeV b l)) ∧ Below W.heap.size W w' := by
  obtain ⟨ab, cb, rfl, hcb, ⟨hbm, hbc, _⟩, _⟩ := hb.opened
  obtain ⟨al, cl, rfl, hcl, ⟨hlm, hlc, _⟩, _⟩ := hu.opened
  have S0 := (Since.refl W).alloc (.cells #[.slice ab b.length cb] 24)
  have hb0 := hb.stays RVer.stays S0.below
  have hu0 := hu.stays RPeer.stays S0.below
  have c0 : (W.alloc (.cells #[.slice ab b.length cb] 24)).cell? ⟨W.heap.size, 0, none⟩ = some (.slice ab b.length cb) := by go_simp
  clear hb hu
  go_enter Tryz.func41, Tryz.ntmps41
  go_wp2_with fail
  generalize W.alloc (.cells #[.slice ab b.length cb] 24) = w0 at *
  obtain ⟨B, hB⟩ : ∃ B, B = W.heap.size := ⟨_, rfl⟩
  rw [← hB] at c0 ⊢
  have HB := Lib.hid hB
  clear hB
  refine (CheckBook_any _ b _ hb0).mono ?_
  rintro e w1 ⟨rfl, hb1⟩
  have T1 := (Since.refl w0).step hb1
  have HVB := Lib.hid (hb0.stays RVer.stays hb1)
  have HVK := Lib.hid (hu0.stays RPeer.stays hb1)
  have d0 := below_cell hb1 c0
  clear c0 hb1 hb0 hu0
  by_cases h0 : bookV b = 0
  · have H0 := Lib.hid h0
    rw [h0]
    clear h0
    by_cases hr : 8 < (l.length : Int)
    · have H := Lib.hid (show placeV b l = 1 by unfold placeV; rw [if_neg (by simpa using H0.out), if_pos hr])
      go_wp2_with fail
      go_ret
      exact ⟨ret_int H.out.symm, (S0.step T1.below).below⟩
    · have H := Lib.hid (show placeV b l = peersV b l by unfold placeV; rw [if_neg (by simpa using H0.out), if_neg hr])
      have hr' : (l.length : Int) ≤ 8 := by omega
      have HS : Hid (∀ w', Since w1.heap.size w1 w' → w'.cell? ⟨B, 0, none⟩ = some (.slice ab b.length cb)) := Lib.hid (fun w' q => below_cell q.below d0)
      clear hr
      go_wp2_with fail
      go_loopw [19] (fun i wr => ∃ k : Nat, k ≤ l.length ∧ i = .int .i64 k ∧ Since w1.heap.size w1 wr ∧ peersV b (l.drop k) = peersV b l) (fun i _ => l.length - (intOf i).toNat)
      case atStart => exact ⟨0, by omega, rfl, Since.refl w1, rfl⟩
      case round =>
        obtain ⟨k, hk, rfl, hS, hq⟩ := hrel
        have HQ := Lib.hid hq
        clear hq d0
        by_cases hlt : k < l.length
        · obtain ⟨g, off, u, cu, rfl, k0, k1, k2, hp, i1⟩ := peer_at (HVK.out.later RPeer.stays (Dirty.old hS.below _)) (List.getElem?_eq_getElem hlt)
          have HD := Lib.hid (List.drop_eq_getElem_cons hlt)
          generalize l[k] = p at *
          have S1 := hS.alloc (.cells #[.bool p.1, .int .i64 p.2.1, .slice u p.2.2.length cu] 45)
          have S1' := (Since.refl wr).alloc (.cells #[.bool p.1, .int .i64 p.2.1, .slice u p.2.2.length cu] 45)
          have d0 := HS.out _ S1
          have HPI := Lib.hid (hp.stays RKept.stays S1'.below)
          have HVB1 := Lib.hid (HVB.out.later RVer.stays (Dirty.old S1.below _))
          clear hp S1'
          go_wp2_with fail
          refine (CheckPeer_any _ b _ p _ HVB1.out HPI.out i1).mono ?_
          rintro e w2 ⟨rfl, hb2⟩
          have S2 := S1.step hb2
          clear k0 k1 k2 hb2 d0
          by_cases hz : peerV b p = 0
          · have HH := Lib.hid (show peersV b (l.drop (k + 1)) = peersV b l by rw [← HQ.out, HD.out]; conv => rhs; unfold peersV; rw [if_neg (by simpa using hz)])
            rw [hz]
            clear hz
            go_wp2_with fail
            go_roundw
            case rel => exact ⟨k + 1, by omega, by go_num, S2, HH.out⟩
            case measure => simp [intOf]; omega
          · have HH := Lib.hid (show peersV b l = peerV b p by rw [← HQ.out, HD.out]; unfold peersV; rw [if_pos hz])
            have hne : (peerV b p != 0) = true := by simpa using hz
            clear hz
            go_wp2_with fail
            go_ret
            exact ⟨ret_int (by rw [H.out, HH.out]), (S0.step (T1.step S2.below).below).below⟩
        · obtain rfl : l.length = k := by omega
          go_wp2_with fail
          go_ret
          refine ⟨ret_int ?_, (S0.step (T1.step hS.below).below).below⟩
          rw [H.out, ← HQ.out, List.drop_length]
          rfl
  · have H := Lib.hid (show placeV b l = bookV b by unfold placeV; rw [if_pos h0])
    have hne : (bookV b != 0) = true := by simpa using h0
    clear h0
    go_wp2_with fail
    go_ret
    exact ⟨ret_int H.out.symm, (S0.step T1.below).below⟩

end Go.Proofs.YtjakdgchfimhkaaGreat

namespace Go.Proofs.YtjakdgchfimhkaaGreat

/-- How much room a peer has left; one's at a place. -/
def leftV (p : Pr) : Int := p.2.1 - (p.2.2.length : Int)
def leftAt (l : List Pr) (k : Int) : Int := ((l[k.toNat]?).map leftV).getD 0
theorem leftAt_get {l : List Pr} {k : Nat} {p : Pr} (h : l[k]? = some p) : leftAt l (k : Int) = leftV p := by simp [leftAt, h]
/-- Is it there, has it room, and nothing of the version? -/
def canV (v : Int) (p : Pr) : Bool := p.1 && (decide ((p.2.2.length : Int) < p.2.1) && decide (findV v p.2.2 0 < 0))
def canAt (v : Int) (l : List Pr) (k : Int) : Bool := ((l[k.toNat]?).map (canV v)).getD false
theorem canAt_get {v : Int} {l : List Pr} {k : Nat} {p : Pr} (h : l[k]? = some p) : canAt v l (k : Int) = canV v p := by simp [canAt, h]
def numsL (n : Nat) : List Int := (List.range n).map fun (j : Nat) => (j : Int)
theorem numsL_step (n : Nat) : numsL (n + 1) = numsL n ++ [(n : Int)] := by simp [numsL, List.range_succ]
theorem mem_numsL {n : Nat} {z : Int} : z ∈ numsL n ↔ 0 ≤ z ∧ z < n := by
  simp only [numsL, List.mem_map, List.mem_range]
  exact ⟨fun ⟨a, h1, h2⟩ => by omega, fun h => ⟨z.toNat, by omega, by omega⟩⟩
theorem numsL_sorted (n : Nat) : (numsL n).Pairwise (· < ·) := range_sorted n
/-- Those who can have it, by number. -/
def candL (v : Int) (l : List Pr) (n : Nat) : List Int := (numsL n).filter (canAt v l)
theorem candL_step (v : Int) (l : List Pr) {k : Nat} {p : Pr} (h : l[k]? = some p) : candL v l (k + 1) = candL v l k ++ (if canV v p = true then [(k : Int)] else []) := by
  unfold candL
  rw [numsL_step, List.filter_append]
  congr 1
  rw [← canAt_get h]
  by_cases hc : canAt v l (k : Int) = true <;> simp [hc]
theorem candL_len (v : Int) (l : List Pr) (n : Nat) : (candL v l n).length ≤ n := Nat.le_trans (List.length_filter_le _ _) (by simp [numsL])
theorem mem_candL {v : Int} {l : List Pr} {n : Nat} {z : Int} : z ∈ candL v l n ↔ (0 ≤ z ∧ z < n) ∧ canAt v l z = true := by unfold candL; rw [List.mem_filter, mem_numsL]
theorem candL_sorted (v : Int) (l : List Pr) (n : Nat) : (candL v l n).Pairwise (· < ·) := (numsL_sorted n).filter _
def cfP (l : List Pr) (i j : Int) : Int := leftAt l j - leftAt l i
/-- Who gets it, those with the most room left first. -/
def gotL (v : Int) (l : List Pr) : List Int := srtL (fun i j => decide (cfP l i j < 0)) (candL v l l.length)
/-- x comes ahead of y. -/
def ahead (l : List Pr) (x y : Int) : Prop := leftAt l y < leftAt l x ∨ (leftAt l x = leftAt l y ∧ x < y)
theorem insA_ahead (l : List Pr) {x : Int} : ∀ {r : List Int}, r.Pairwise (fun a b => ahead l b a) → (∀ y ∈ r, y < x) → (insA (fun i j => decide (cfP l i j < 0)) x r).Pairwise (fun a b => ahead l b a)
  | [], _, _ => by simp [insA]
  | y :: r, hp, hx => by
    have hp' := List.pairwise_cons.1 hp
    unfold insA
    by_cases h : cfP l x y < 0
    · rw [if_pos (by simpa using h), List.pairwise_cons]
      refine ⟨fun z hz => ?_, insA_ahead l hp'.2 (fun z hz => hx z (by simp [hz]))⟩
      rcases List.mem_cons.1 ((insA_perm x r).mem_iff.1 hz) with rfl | hz
      · unfold cfP at h; exact Or.inl (by omega)
      · exact hp'.1 z hz
    · rw [if_neg (by simpa using h), List.pairwise_cons]
      refine ⟨fun z hz => ?_, hp⟩
      have hy := hx y (by simp)
      have hzx := hx z hz
      unfold cfP at h
      rcases List.mem_cons.1 hz with rfl | hz
      · unfold ahead; omega
      · have := hp'.1 z hz
        unfold ahead at this ⊢
        omega
theorem foldA_ahead (l : List Pr) : ∀ (c acc : List Int), acc.Pairwise (fun a b => ahead l b a) → c.Pairwise (· < ·) → (∀ a ∈ acc, ∀ b ∈ c, a < b) → (c.foldl (fun acc x => insA (fun i j => decide (cfP l i j < 0)) x acc) acc).Pairwise (fun a b => ahead l b a)
  | [], acc, h, _, _ => h
  | x :: c, acc, h, hc, hb => by
    have hc' := List.pairwise_cons.1 hc
    rw [List.foldl_cons]
    refine foldA_ahead l c _ (insA_ahead l h (fun y hy => hb y hy x (by simp))) hc'.2 ?_
    intro a ha b hbb
    rcases List.mem_cons.1 ((insA_perm x acc).mem_iff.1 ha) with rfl | ha
    · exact hc'.1 b hbb
    · exact hb a ha b (by simp [hbb])
theorem places_ahead (v : Int) (l : List Pr) : (gotL v l).Pairwise (ahead l) := by
  unfold gotL srtL srtR
  rw [List.pairwise_reverse]
  exact foldA_ahead l _ [] List.Pairwise.nil (candL_sorted v l _) (by simp)
theorem places_perm (v : Int) (l : List Pr) : (gotL v l).Perm (candL v l l.length) := srtL_perm _
theorem places_len (v : Int) (l : List Pr) : (gotL v l).length = (candL v l l.length).length := srtL_len _
theorem ahead_ext {l : List Pr} : ∀ {c r : List Int}, c.Pairwise (ahead l) → r.Pairwise (ahead l) → (∀ x, x ∈ c ↔ x ∈ r) → c = r
  | [], [], _, _, _ => rfl
  | [], y :: r, _, _, h => by have := (h y).2 (by simp); simp at this
  | x :: c, [], _, _, h => by have := (h x).1 (by simp); simp at this
  | x :: c, y :: r, hc, hr, h => by
    have hc' := List.pairwise_cons.1 hc
    have hr' := List.pairwise_cons.1 hr
    have hxy : x = y := by
      have h1 : x = y ∨ x ∈ r := by simpa using (h x).1 (by simp)
      have h2 : y = x ∨ y ∈ c := by simpa using (h y).2 (by simp)
      rcases h1 with h1 | h1
      · exact h1
      · rcases h2 with h2 | h2
        · exact h2.symm
        · have a1 := hr'.1 x h1
          have a2 := hc'.1 y h2
          unfold ahead at a1 a2
          omega
    subst hxy
    rw [ahead_ext hc'.2 hr'.2 (fun z => ?_)]
    have hz := h z
    simp only [List.mem_cons] at hz
    constructor
    · intro hzc
      rcases hz.1 (Or.inr hzc) with rfl | hh
      · have := hc'.1 z hzc; unfold ahead at this; omega
      · exact hh
    · intro hzr
      rcases hz.2 (Or.inr hzr) with rfl | hh
      · have := hr'.1 z hzr; unfold ahead at this; omega
      · exact hh

/-- Those of the first n who can have it, and have just so much room left. -/
def roomL (v : Int) (l : List Pr) (left : Int) (n : Nat) : List Int := (numsL n).filter fun k => canAt v l k && decide (leftAt l k = left)
theorem roomL_step (v : Int) (l : List Pr) (left : Int) {k : Nat} {p : Pr} (h : l[k]? = some p) : roomL v l left (k + 1) = roomL v l left k ++ (if canV v p = true ∧ leftV p = left then [(k : Int)] else []) := by
  unfold roomL
  rw [numsL_step, List.filter_append]
  congr 1
  rw [← canAt_get h, ← leftAt_get h]
  by_cases hc : canAt v l (k : Int) = true <;> by_cases hl : leftAt l (k : Int) = left <;> simp [hc, hl]
/-- Gathered from 20 down to the room that is left to be asked for (not itself). -/
def gathL (v : Int) (l : List Pr) : Nat → List Int
  | 0 => []
  | n + 1 => gathL v l n ++ roomL v l (20 - (n : Int)) l.length
theorem mem_roomL {v : Int} {l : List Pr} {left : Int} {n : Nat} {z : Int} : z ∈ roomL v l left n ↔ ((0 ≤ z ∧ z < n) ∧ canAt v l z = true) ∧ leftAt l z = left := by
  unfold roomL
  rw [List.mem_filter, mem_numsL]
  simp [and_assoc]
theorem mem_gathL {v : Int} {l : List Pr} {z : Int} : ∀ {n : Nat}, z ∈ gathL v l n ↔ z ∈ candL v l l.length ∧ 20 - (n : Int) < leftAt l z ∧ leftAt l z ≤ 20
  | 0 => by simp [gathL]
  | n + 1 => by
    unfold gathL
    rw [List.mem_append, mem_gathL (n := n), mem_roomL, mem_candL]
    constructor
    · rintro (⟨h1, h2, h3⟩ | ⟨h1, h2⟩)
      · exact ⟨h1, by omega, h3⟩
      · exact ⟨h1, by omega, by omega⟩
    · rintro ⟨h1, h2, h3⟩
      by_cases h : leftAt l z = 20 - (n : Int)
      · exact Or.inr ⟨h1, h⟩
      · exact Or.inl ⟨h1, by omega, h3⟩
theorem roomL_ahead (v : Int) (l : List Pr) (left : Int) (n : Nat) : (roomL v l left n).Pairwise (ahead l) := by
  have h := (numsL_sorted n).filter (fun k => canAt v l k && decide (leftAt l k = left))
  refine List.Pairwise.imp_of_mem (fun {a b} ha hb hab => ?_) h
  have h1 := (mem_roomL (v := v) (l := l) (left := left) (n := n)).1 ha
  have h2 := (mem_roomL (v := v) (l := l) (left := left) (n := n)).1 hb
  exact Or.inr ⟨by rw [h1.2, h2.2], hab⟩
theorem gathL_ahead (v : Int) (l : List Pr) : ∀ n, (gathL v l n).Pairwise (ahead l)
  | 0 => List.Pairwise.nil
  | n + 1 => by
    unfold gathL
    rw [List.pairwise_append]
    refine ⟨gathL_ahead v l n, roomL_ahead v l _ _, fun a ha b hb => ?_⟩
    have h1 := mem_gathL.1 ha
    have h2 := mem_roomL.1 hb
    exact Or.inl (by omega)
theorem canV_left {v : Int} {p : Pr} (h : canV v p = true) : 1 ≤ leftV p := by
  simp [canV] at h
  unfold leftV
  omega
theorem gath_places {v : Int} {l : List Pr} (h : ∀ p ∈ l, leftV p ≤ 20) : gathL v l 20 = gotL v l := by
  refine ahead_ext (gathL_ahead v l 20) (places_ahead v l) (fun z => ?_)
  rw [mem_gathL, (places_perm v l).mem_iff]
  constructor
  · exact fun h => h.1
  · intro hz
    have hz' := mem_candL.1 hz
    obtain ⟨k, rfl⟩ := Int.eq_ofNat_of_zero_le hz'.1.1
    have hk : k < l.length := by omega
    have hg : l[k]? = some l[k] := List.getElem?_eq_getElem hk
    have hc := hz'.2
    rw [canAt_get hg] at hc
    have h1 := canV_left hc
    have h2 := h _ (List.getElem_mem hk)
    rw [leftAt_get hg]
    exact ⟨hz, by omega, by omega⟩
theorem peer_left {b : List Ver} {p : Pr} (h : PeerOk b p) : 0 ≤ leftV p ∧ leftV p ≤ 20 := by
  have h1 := h.room
  have h2 := h.few
  unfold leftV
  omega

/-- What For answers: errors, and who. -/
def forE (b : List Ver) (l : List Pr) (v many : Int) : Int := if placeV b l ≠ 0 then placeV b l else if many < 0 ∨ 8 < many then 2 else if ((candL v l l.length).length : Int) < many then 7 else 0
def forC (b : List Ver) (l : List Pr) (v many : Int) : List Int := if forE b l v many = 0 then (gotL v l).take many.toNat else []
theorem forE_chk {b : List Ver} {l : List Pr} (v many : Int) (h : placeV b l ≠ 0) : forE b l v many = placeV b l := by unfold forE; rw [if_pos h]
theorem forE_range {b : List Ver} {l : List Pr} {v many : Int} (h : placeV b l = 0) (hm : many < 0 ∨ 8 < many) : forE b l v many = 2 := by unfold forE; rw [if_neg (by simpa using h), if_pos hm]
theorem forE_short {b : List Ver} {l : List Pr} {v many : Int} (h : placeV b l = 0) (hm : ¬ (many < 0 ∨ 8 < many)) (hs : ((candL v l l.length).length : Int) < many) : forE b l v many = 7 := by unfold forE; rw [if_neg (by simpa using h), if_neg hm, if_pos hs]
theorem forE_ok {b : List Ver} {l : List Pr} {v many : Int} (h : placeV b l = 0) (hm : ¬ (many < 0 ∨ 8 < many)) (hs : ¬ ((candL v l l.length).length : Int) < many) : forE b l v many = 0 := by unfold forE; rw [if_neg (by simpa using h), if_neg hm, if_neg hs]
theorem forC_no {b : List Ver} {l : List Pr} {v many : Int} (h : forE b l v many ≠ 0) : forC b l v many = [] := by unfold forC; rw [if_neg h]
theorem forC_ok {b : List Ver} {l : List Pr} {v many : Int} (h : forE b l v many = 0) : forC b l v many = (gotL v l).take many.toNat := by unfold forC; rw [if_pos h]

end Go.Proofs.YtjakdgchfimhkaaGreat

namespace Go.Proofs.YtjakdgchfimhkaaGreat

/-- A mesh: its versions, its peers. -/
abbrev Me := List Ver × List Pr
def meshV (m : Me) : Int := placeV m.1 m.2
def readyE (m : Me) (v : Int) : Int := if meshV m ≠ 0 then meshV m else if v < 0 ∨ (m.1.length : Int) ≤ v then 4 else 0
/-- What is kept of a version. -/
def keptAt (v : Int) (l : List Kp) : Option Kp := l.find? fun x => decide (x.1 = v)
theorem findV_keptAt (v : Int) : ∀ (l : List Kp) (k : Nat), (keptAt v l = none ∧ findV v l k = -1) ∨ ∃ (m : Nat) (x : Kp), l[m]? = some x ∧ x.1 = v ∧ keptAt v l = some x ∧ findV v l k = ((k + m : Nat) : Int)
  | [], _ => Or.inl ⟨rfl, rfl⟩
  | x :: r, k => by
    unfold keptAt findV
    by_cases h : x.1 = v
    · right
      exact ⟨0, x, rfl, h, by simp [h], by rw [if_pos h]; rfl⟩
    · rw [if_neg h, List.find?_cons_of_neg (by simpa using h)]
      rcases findV_keptAt v r (k + 1) with ⟨h1, h2⟩ | ⟨m, y, h1, h2, h3, h4⟩
      · exact Or.inl ⟨h1, h2⟩
      · exact Or.inr ⟨m + 1, y, by simpa using h1, h2, h3, by rw [h4]; congr 1; omega⟩
/-- The share of a version that a peer has, if it is there. -/
def pickS (v : Int) (p : Pr) : Option Sh := if p.1 then (keptAt v p.2.2).map (·.2) else none
def addS (l : List Sh) : Option Sh → List Sh
  | none => l
  | some s => if l.any (fun t => decide (t.1 = s.1)) then l else l ++ [s]
def sharesM (v : Int) (ps : List Pr) : List Sh := ps.foldl (fun l p => addS l (pickS v p)) []
theorem sharesM_step (v : Int) {ps : List Pr} {k : Nat} {p : Pr} (h : ps[k]? = some p) : sharesM v (ps.take (k + 1)) = addS (sharesM v (ps.take k)) (pickS v p) := by
  unfold sharesM
  rw [take_get h, List.foldl_append]
  rfl
theorem addS_len (l : List Sh) (o : Option Sh) : (addS l o).length ≤ l.length + 1 := by
  unfold addS
  repeat' split
  all_goals simp
theorem foldS_len (v : Int) : ∀ (ps : List Pr) (l : List Sh), (ps.foldl (fun l p => addS l (pickS v p)) l).length ≤ l.length + ps.length
  | [], l => by simp
  | p :: ps, l => by
    rw [List.foldl_cons]
    have h1 := foldS_len v ps (addS l (pickS v p))
    have h2 := addS_len l (pickS v p)
    simp only [List.length_cons]
    omega
theorem sharesM_len (v : Int) (ps : List Pr) : (sharesM v ps).length ≤ ps.length := by
  have := foldS_len v ps []
  simpa [sharesM] using this
/-- What Restore answers. -/
def restE (m : Me) (v : Int) : Int := if readyE m v ≠ 0 then readyE m v else mostE (planAt m.1 v).1 (planAt m.1 v).2.1 (planAt m.1 v).2.2 (sharesM v m.2)
def restB (m : Me) (v : Int) : List Int := if readyE m v ≠ 0 then [] else mostB (planAt m.1 v).1 (planAt m.1 v).2.1 (planAt m.1 v).2.2 (sharesM v m.2)
def restW (m : Me) (v : Int) : List Int := if readyE m v ≠ 0 then [] else mostW (planAt m.1 v).1 (planAt m.1 v).2.1 (planAt m.1 v).2.2 (sharesM v m.2)
theorem readyE_ok {m : Me} {v : Int} (h : readyE m v = 0) : meshV m = 0 ∧ 0 ≤ v ∧ v < m.1.length := by
  unfold readyE at h
  split at h
  · rename_i h1; exact absurd h h1
  · rename_i h1
    split at h
    · simp at h
    · exact ⟨by simpa using h1, by omega, by omega⟩
end Go.Proofs.YtjakdgchfimhkaaGreat
