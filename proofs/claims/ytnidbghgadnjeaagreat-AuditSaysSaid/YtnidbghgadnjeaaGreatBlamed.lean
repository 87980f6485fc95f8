/-
  audit.Blamed walked.
-/
import Derived.Test.YtnidbghgadnjeaaGreatExtra
import Derived.Test.YtnidbghgadnjeaaGreatLaws
import Derived.Test.YtnidbghgadnjeaaGreatRepair
import Derived.Deep.QuietTactic
import Derived.BigQuiet
namespace Go.Proofs.YtnidbghgadnjeaaGreat
open Go.RowKit

set_option linter.unusedSimpArgs false in
set_option maxRecDepth 100000 in
set_option maxHeartbeats 4000000 in
theorem Blamed_any (vb u : Value) (b : List Ver) (ps : List Pr) (v : Int) (W : World) (hb : IsVers W vb b) (hu : IsPeers W u ps) :
    Calls Tryz.prog 25 #[.agg #[vb, u], .int .i64 v] W fun e w' => (∃ v', e = .returned (.tuple #[v', .int .i64 (blamedE (b, ps) v)]) ∧ IsInts w' v' (blamedC (b, ps) v) ∧ ∀ k, Value.lies v' k → W.heap.size ≤ k) ∧ Below W.heap.size W w' := by
  obtain ⟨a, c, rfl, hcb, ⟨hbm, hbc, _⟩, _⟩ := hb.opened
  obtain ⟨a', c', rfl, hcu, ⟨hum, huc, _⟩, _⟩ := hu.opened
  have S0 := (Since.refl W).alloc (.cells #[.slice a b.length c, .slice a' ps.length c'] 35)
  have hb0 := hb.stays RVer.stays S0.below
  have hu0 := hu.stays RPeer.stays S0.below
  have c0 : (W.alloc (.cells #[.slice a b.length c, .slice a' ps.length c'] 35)).cell? ⟨W.heap.size, 0, none⟩ = some (.slice a b.length c) := by go_simp
  have c1 : (W.alloc (.cells #[.slice a b.length c, .slice a' ps.length c'] 35)).cell? ⟨W.heap.size, 1, none⟩ = some (.slice a' ps.length c') := by go_simp
  have hC : Hid (blamedE (b, ps) v ≠ 0 → blamedC (b, ps) v = []) := Lib.hid (fun h => by unfold blamedC; rw [if_neg h])
  have hC1 : Hid (restE (b, ps) v ≠ 0 → blamedE (b, ps) v = restE (b, ps) v) := Lib.hid (fun h => by unfold blamedE; rw [if_pos h])
  have hC2 : Hid (restE (b, ps) v = 0 → blamedE (b, ps) v = splitE (planAt b v).1 (planAt b v).2.1 (planAt b v).2.2 (restB (b, ps) v)) := Lib.hid (fun h => by unfold blamedE; rw [if_neg (by simpa using h)])
  have hC3 : Hid (blamedE (b, ps) v = 0 → blamedC (b, ps) v = blameF v (splitL (planAt b v).1 (planAt b v).2.1 (planAt b v).2.2 (restB (b, ps) v)) ps ps.length) := Lib.hid (fun h => by unfold blamedC; rw [if_pos h])
  clear hb hu
  go_enter Tryz.func25, Tryz.ntmps25
  go_upto_region 1 with fail
  generalize W.alloc (.cells #[.slice a b.length c, .slice a' ps.length c'] 35) = w0 at *
  obtain ⟨B, hB⟩ : ∃ B, B = W.heap.size := ⟨_, rfl⟩
  rw [← hB] at c0 c1 ⊢
  clear hB
  go_upto_region 2 with (go_at_call 17; go_fit (Restore_any _ b _ ps v _ hb0 hu0); rintro e w1 ⟨⟨y1, y2, rfl, hi1, hi2⟩, hb1⟩)
  have S1 := S0.step hb1
  have d0 := below_cell hb1 c0
  have d1 := below_cell hb1 c1
  have HB1 := Lib.hid (hb0.stays RVer.stays hb1)
  have HU1 := Lib.hid (hu0.stays RPeer.stays hb1)
  clear c0 c1 hb1 hb0 hu0 hi2
  by_cases h0 : restE (b, ps) v = 0
  · obtain ⟨hm0, hv0, hvb⟩ := readyE_ok (restE_ready h0)
    have hp8 : ps.length ≤ 8 := (placeV_ok.1 hm0).2.1
    have HPK : Hid (∀ p ∈ ps, PeerOk b p) := Lib.hid (placeV_ok.1 hm0).2.2
    have H2 := Lib.hid (hC2.out h0)
    rw [h0]
    obtain ⟨kv, rfl⟩ := Int.eq_ofNat_of_zero_le hv0
    have hkv : kv < b.length := by simpa using hvb
    have hget := List.getElem?_eq_getElem hkv
    have hpl : Hid (planAt b (kv : Int) = b[kv].2) := Lib.hid (by unfold planAt; simp [hget])
    obtain ⟨gv, ov, uv, cv, ea, k0, k1, k2, k3, _, i1, i2, i3⟩ := vers_at HB1.out hget
    subst ea
    generalize b[kv] = x at *
    obtain ⟨ad, cd, rfl, _⟩ := hi1.opened
    rw [hpl.out] at H2 hC3
    generalize hdat : restB (b, ps) (kv : Int) = data at *
    clear h0 hm0 hv0 hvb hget hdat hC1 hC2 k0
    go_upto_region 5 with (go_at_call 60; go_fit (Split_any x.2.1 x.2.2.1 x.2.2.2 _ data _ hi1); rintro e w3 ⟨⟨vs, rfl, hsh⟩, hb3⟩)
    have S3 := S1.step hb3
    have d1 := below_cell hb3 d1
    have HU3 := Lib.hid (HU1.out.stays RPeer.stays hb3)
    clear d0 k1 k2 k3 hi1 hb3
    by_cases h1 : splitE x.2.1 x.2.2.1 x.2.2.2 data = 0
    · have HE : Hid (blamedE (b, ps) (kv : Int) = 0) := Lib.hid (by rw [H2.out, h1])
      have HC := Lib.hid (hC3.out HE.out)
      rw [h1]
      have hall : Hid ((splitL x.2.1 x.2.2.1 x.2.2.2 data).length = x.2.2.1.toNat) := Lib.hid (by
        obtain ⟨n1, o1, s1, e1, e2, e3⟩ := plan_nat (splitE_zero h1).1
        have h9 := h1
        rw [e1, e2, e3] at h9 ⊢
        rw [splitL_ok h9, sharesL_len]
        simp)
      generalize splitL x.2.1 x.2.2.1 x.2.2.2 data = all at *
      obtain ⟨aS, cS, rfl, hcS, ⟨hmS, hcmS, _⟩, _⟩ := hsh.opened
      have HSH := Lib.hid hsh
      have HF : Hid (∀ w', Since w3.heap.size w3 w' → IsPeers w' (.slice a' ps.length c') ps ∧ IsShares w' (.slice aS all.length cS) all) := Lib.hid (fun w' q => ⟨HU3.out.stays RPeer.stays q.below, shares_stays HSH.out q.below⟩)
      clear h1 hsh hC hC3
      go_wp2_with fail
      clear d1
      go_loopw [42, 10] (fun i y wr => ∃ k : Nat, k ≤ ps.length ∧ i = .int .i64 k ∧ Since w3.heap.size w3 wr ∧ OwnInts wr 3 w3.heap.size y (blameF (kv : Int) all ps k)) (fun i _ _ => ps.length - (intOf i).toNat)
      case atStart => exact ⟨0, by omega, rfl, Since.refl w3, OwnInts.nil _ _ _⟩
      case round =>
        obtain ⟨k, hk, rfl, hS, ho⟩ := hrel
        by_cases hlt : k < ps.length
        · obtain ⟨hup, hsr⟩ := HF.out wr hS
          have hget := List.getElem?_eq_getElem hlt
          obtain ⟨g, off, uu, cu, rfl, k0, k1, k2, hp, j1⟩ := peer_at hup hget
          have HST := Lib.hid (blameF_step (kv : Int) all hget)
          have HOKP := Lib.hid (HPK.out _ (List.getElem_mem hlt))
          have hbl := blameF_len (kv : Int) all ps k
          have hbl2 : (blameF (kv : Int) all ps k).length < 17592186044416 := by omega
          generalize hBF : blameF (kv : Int) all ps k = BF at *
          generalize ps[k] = p at *
          obtain ⟨t, r, ks⟩ := p
          simp only at k0 k1 k2 hp j1
          have BB := below_alloc wr (.cells #[.bool t, .int .i64 r, .slice uu ks.length cu] 78)
          have S4 := hS.alloc (.cells #[.bool t, .int .i64 r, .slice uu ks.length cu] 78)
          have hpi := hp.stays RKept.stays BB
          have f0 : (wr.alloc (.cells #[.bool t, .int .i64 r, .slice uu ks.length cu] 78)).cell? ⟨wr.heap.size, 0, none⟩ = some (.bool t) := by go_simp
          have f1 : (wr.alloc (.cells #[.bool t, .int .i64 r, .slice uu ks.length cu] 78)).cell? ⟨wr.heap.size, 1, none⟩ = some (.int .i64 r) := by go_simp
          have f2 : (wr.alloc (.cells #[.bool t, .int .i64 r, .slice uu ks.length cu] 78)).cell? ⟨wr.heap.size, 2, none⟩ = some (.slice uu ks.length cu) := by go_simp
          have ho1 := ho.stays BB
          have hs1 := shares_stays hsr BB
          clear hget hBF hup hsr
          go_upto_region 11 with fail
          clear k0 k1 k2 hp ho BB
          generalize wr.alloc (.cells #[.bool t, .int .i64 r, .slice uu ks.length cu] 78) = wa at *
          obtain ⟨Bp, hBp⟩ : ∃ Bp, Bp = wr.heap.size := ⟨_, rfl⟩
          rw [← hBp] at f0 f1 f2 ⊢
          clear hBp
          have HPI := Lib.hid hpi
          go_upto_region 12 with (go_at_call 49; go_fit (Find_any t r _ ks (kv : Int) _ hpi); rintro e wb ⟨rfl, hbb⟩)
          have S5 := S4.step hbb
          have g0 := below_cell hbb f0
          have g2 := below_cell hbb f2
          have ho2 := ho1.stays hbb
          have HP2 := Lib.hid (HPI.out.stays RKept.stays hbb)
          have hs2 := shares_stays hs1 hbb
          have HO2 := Lib.hid ho2
          have ik : I64 (k : Int) := ⟨by omega, by omega⟩
          clear f0 f1 f2 hbb hpi ho1 hs1 ho2
          go_cut [13, 75] (fun _ s75 wx => ∃ wz, wz = wx ∧ s75 = .bool (blameB (kv : Int) all (t, r, ks)) ∧ Since wb.heap.size wb wx)
          case first =>
            have HU := Lib.hid (Since.refl wb).drew
            cases t with
            | false =>
              have HV : Hid (blameB (kv : Int) all (false, r, ks) = false) := Lib.hid rfl
              go_wp2_with (go_quiet (fail))
              go_meet
              exact ⟨_, rfl, by rw [HV.out], since_drewN (Since.refl wb) _⟩
            | true =>
              rcases findV_keptAt (kv : Int) ks 0 with ⟨hn, hf⟩ | ⟨m, y, hy, hyv, hn, hf⟩
              · have HV : Hid (blameB (kv : Int) all (true, r, ks) = false) := Lib.hid (by unfold blameB; simp [hn])
                rw [hf]
                clear hn hf
                go_wp2_with (go_quiet (fail))
                go_meet
                exact ⟨_, rfl, by rw [HV.out], since_drewN (Since.refl wb) _⟩
              · rw [hf, Nat.zero_add]
                obtain ⟨gk, ok, uk, ck, rfl, x0, x1, x2, hxi, ix0, ix1⟩ := kept_at HP2.out hy
                have hml := (List.getElem?_eq_some_iff.1 hy).1
                have hy3 := ((HOKP.out.each y (List.mem_of_getElem? hy))).2.2
                unfold shareV at hy3
                rw [hyv, hpl.out] at hy3
                obtain ⟨o1, o2, _, _⟩ := oneV_ok hy3
                have hNl : y.2.1 < (all.length : Int) := by rw [hall.out]; omega
                obtain ⟨N, hN⟩ := Int.eq_ofNat_of_zero_le o1
                have hNa : N < all.length := by omega
                have hsk : all[N]? = some all[N] := List.getElem?_eq_getElem hNa
                obtain ⟨gs, os, us, cs, rfl, s0, s1, hsi, hs1⟩ := shares_at hs2 hsk
                obtain ⟨Q, hQ⟩ : ∃ Q, Q = sameV (N : Int) all[N].1 y.2.2 all[N].2 := ⟨_, rfl⟩
                have HV : Hid (blameB (kv : Int) all (true, r, ks) = !Q) := Lib.hid (by unfold blameB sameS; rw [hQ]; simp [hn, hN, hsk])
                generalize all[N] = tt at *
                rw [hN] at x1
                have HQ := Lib.hid hQ
                have HSI := Lib.hid hsi
                have HXI := Lib.hid hxi
                have hNa2 : (N : Int) < (all.length : Int) := by omega
                have hml2 : (m : Int) < (ks.length : Int) := by omega
                have s3 : wb.drew.cell? ⟨Bp, 0, none⟩ = some (.bool true) ∧ wb.drew.cell? ⟨Bp, 2, none⟩ = some (.slice (some ⟨gk, ok, none⟩) ks.length cu) ∧ wb.drew.cell? ⟨gk, ok + m * 3 + 1, none⟩ = some (.int .i64 (N : Int)) ∧ wb.drew.cell? ⟨gk, ok + m * 3 + 2, none⟩ = some (.slice uk y.2.2.length ck) ∧ wb.drew.cell? ⟨gs, os + N * 2, none⟩ = some (.int .i64 tt.1) ∧ wb.drew.cell? ⟨gs, os + N * 2 + 1, none⟩ = some (.slice us tt.2.length cs) := ⟨g0, g2, x1, x2, s0, s1⟩
                clear hn hf hy hyv hsk hQ hsi hxi hy3 o1 o2 hNl hN
                go_region_held3 (fun w' => w'.cell? ⟨Bp, 0, none⟩ = some (.bool true) ∧ w'.cell? ⟨Bp, 2, none⟩ = some (.slice (some ⟨gk, ok, none⟩) ks.length cu) ∧ w'.cell? ⟨gk, ok + m * 3 + 1, none⟩ = some (.int .i64 (N : Int)) ∧ w'.cell? ⟨gk, ok + m * 3 + 2, none⟩ = some (.slice uk y.2.2.length ck) ∧ w'.cell? ⟨gs, os + N * 2, none⟩ = some (.int .i64 tt.1) ∧ w'.cell? ⟨gs, os + N * 2 + 1, none⟩ = some (.slice us tt.2.length cs)) (first | exact s3 | exact s4) (first
                  | (go_at_call 61; go_fit (Same_any (N : Int) tt.1 _ _ y.2.2 tt.2 _ (HXI.out.drew) ((HSI.out).drew)); rintro e w5' ⟨rfl, hb5'⟩; rw [← HQ.out]; have p5 := HU.out.step hb5'; have s4 : w5'.cell? ⟨Bp, 0, none⟩ = some (.bool true) ∧ w5'.cell? ⟨Bp, 2, none⟩ = some (.slice (some ⟨gk, ok, none⟩) ks.length cu) ∧ w5'.cell? ⟨gk, ok + m * 3 + 1, none⟩ = some (.int .i64 (N : Int)) ∧ w5'.cell? ⟨gk, ok + m * 3 + 2, none⟩ = some (.slice uk y.2.2.length ck) ∧ w5'.cell? ⟨gs, os + N * 2, none⟩ = some (.int .i64 tt.1) ∧ w5'.cell? ⟨gs, os + N * 2 + 1, none⟩ = some (.slice us tt.2.length cs) := ⟨below_cell p5.below g0, below_cell p5.below g2, below_cell p5.below x1, below_cell p5.below x2, below_cell p5.below s0, below_cell p5.below s1⟩))
                all_goals
                  cases Q with
                  | true =>
                    go_wp2_with fail
                    go_meet
                    exact ⟨_, rfl, by rw [HV.out], p5⟩
                  | false =>
                    go_wp2_with fail
                    go_meet
                    exact ⟨_, rfl, by rw [HV.out], p5⟩
          case rest =>
            obtain ⟨wc, rfl, rfl, hSc⟩ := hcut
            have S6 := S5.step hSc.below
            have ho3 := HO2.out.stays hSc.below
            obtain ⟨D, hD⟩ : ∃ D, D = blameB (kv : Int) all (t, r, ks) := ⟨_, rfl⟩
            rw [← hD] at HST ⊢
            clear hD g0 g2
            cases D with
            | false =>
              go_wp2_with fail
              go_roundw
              case rel => exact ⟨k + 1, by omega, by go_num, S6, by rw [HST.out]; simpa using ho3⟩
              case measure => simp [intOf]; omega
            | true =>
              go_wp2_with (at_builtin; refine wpList_append_int rfl _ _ 22 rfl 3 Tryz.underlying22 info_int w3.heap.size _ BF rfl (ho3.stays (below_alloc _ _)) ⟨wc.heap.size, 0, none⟩ 1 (k : Int) rfl (by simp) ik hbl2 (by have := S6.2; simp; omega) ?_; intro v' w6 ho6 hg6)
              have S7 := (S6.alloc (.cells #[.int .i64 (k : Int)] 3)).own (ho3.stays (below_alloc _ _)) hg6
              go_roundw
              case rel => exact ⟨k + 1, by omega, by go_num, S7, by rw [HST.out]; exact ho6⟩
              case measure => simp [intOf]; omega
        · obtain rfl : ps.length = k := by omega
          have hi := ho.isInts
          obtain ⟨ar, cr, rfl, _⟩ := hi.opened
          have HI := Lib.hid hi
          have HLS := Lib.hid (fun k hk => Nat.le_trans S3.2 (ho.lies k hk).1)
          have S6 := S3.step hS.below
          clear hi ho
          go_wp2_with fail
          exact bodyPost_ret (v := .tuple #[.slice ar (blameF (kv : Int) all ps ps.length).length cr, .int .i64 0]) (by simp [results, Tryz.results25, go_sem]) rfl ⟨⟨_, ret_vE HE.out.symm, by rw [HC.out]; exact HI.out, HLS.out⟩, S6.below⟩
    · have HE : Hid (blamedE (b, ps) (kv : Int) = splitE x.2.1 x.2.2.1 x.2.2.2 data) := H2
      have HC := Lib.hid (hC.out (by rw [HE.out]; exact h1))
      generalize splitE x.2.1 x.2.2.1 x.2.2.2 data = E at *
      go_wp2_with fail
      exact bodyPost_ret (v := .tuple #[.slice none 0 0, .int .i64 E]) (by simp [results, Tryz.results25, go_sem]) rfl ⟨⟨_, ret_vE HE.out.symm, by rw [HC.out]; exact IsInts.nil _, fun _ hk => nil_lies hk⟩, S3.below⟩
  · have HE := Lib.hid (hC1.out h0)
    have HC := Lib.hid (hC.out (by rw [HE.out]; exact h0))
    generalize restE (b, ps) v = E at *
    go_wp2_with fail
    exact bodyPost_ret (v := .tuple #[.slice none 0 0, .int .i64 E]) (by simp [results, Tryz.results25, go_sem]) rfl ⟨⟨_, ret_vE HE.out.symm, by rw [HC.out]; exact IsInts.nil _, fun _ hk => nil_lies hk⟩, S1.below⟩
end Go.Proofs.YtnidbghgadnjeaaGreat
