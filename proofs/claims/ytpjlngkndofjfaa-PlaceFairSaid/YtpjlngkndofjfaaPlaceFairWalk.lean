/-
  The walk of PlaceFair.
-/
import Derived.Test.YtpjlngkndofjfaaFair
namespace Go.Proofs.Ytpjlngkndofjfaa
open Go.RowKit

set_option maxRecDepth 100000 in
set_option maxHeartbeats 4000000 in
theorem PlaceFair_walk (v0 : Value) (b : List Ver) (v1 : Value) (l : List Pr) (v2 : Value) (v : Int) (v3 : Value) (many : Int) (W : World) (h0 : IsBook W v0 b) (h1 : IsPeers W v1 l) (h2 : IsInt v2 v) (h3 : IsInt v3 many) :
    Calls Try.prog 4 #[v0, v1, v2, v3] W fun e w' => e = .returned (.bool true) ∧ Below W.heap.size W w' := by
  obtain ⟨u0, rfl, hv⟩ := h0
  obtain ⟨rfl, hi2⟩ := h2
  obtain ⟨rfl, hi3⟩ := h3
  obtain ⟨a, n, rfl, hn, ⟨hnm, hcm, _⟩, _⟩ := hv.opened
  obtain ⟨al, cl, rfl, hcl, ⟨hlm, hlc, _⟩, _⟩ := h1.opened
  have S0 := ((Since.refl W).alloc (.cells #[.slice a b.length n] 24)).alloc (.cells #[.slice al l.length cl] 25)
  have hv0 := hv.stays RVer.stays S0.below
  have hu0 := h1.stays RPeer.stays S0.below
  have c0 : ((W.alloc (.cells #[.slice a b.length n] 24)).alloc (.cells #[.slice al l.length cl] 25)).cell? ⟨W.heap.size, 0, none⟩ = some (.slice a b.length n) := by go_simp
  have c1 : ((W.alloc (.cells #[.slice a b.length n] 24)).alloc (.cells #[.slice al l.length cl] 25)).cell? ⟨W.heap.size + 1, 0, none⟩ = some (.slice al l.length cl) := by go_simp
  clear hv h1
  have hmm := @run_makeMap Try.prog
  go_enter Try.func4, Try.ntmps4
  go_upto_region 1 with fail
  generalize (W.alloc (.cells #[.slice a b.length n] 24)).alloc (.cells #[.slice al l.length cl] 25) = w0 at *
  obtain ⟨B5, hB5⟩ : ∃ B5, B5 = W.heap.size + 1 := ⟨_, rfl⟩
  rw [← hB5] at c1 ⊢
  have HB5 := Lib.hid hB5
  clear hB5
  obtain ⟨B, hB⟩ : ∃ B, B = W.heap.size := ⟨_, rfl⟩
  rw [← hB] at c0 ⊢
  have HB := Lib.hid hB
  clear hB
  go_upto_region 2 with (go_at_call 7; refine (For_any _ b _ l v many _ hv0 hu0).mono ?_; rintro e w1 ⟨⟨u1, rfl, hi1⟩, hb1⟩)
  have S1 := S0.step hb1
  have c11 := below_cell hb1 c1
  have HU := Lib.hid (hu0.stays RPeer.stays hb1)
  clear c0 c1 hb1 hv0 hu0 S0
  by_cases hE : forE b l v many = 0
  · have hok := placeV_ok.1 (by
      by_cases h : placeV b l = 0
      · exact h
      · rw [forE_chk v many h] at hE; exact absurd hE h)
    have HROOM := Lib.hid (fun p hp => peer_left (hok.2.2 p hp))
    have hl8 := hok.2.1
    have hC := forC_ok hE
    have hmany : ¬ (many < 0 ∨ 8 < many) := fun h => by rw [forE_range (placeV_ok.2 hok) h] at hE; simp at hE
    have hshort : ¬ ((candL v l l.length).length : Int) < many := fun h => by rw [forE_short (placeV_ok.2 hok) hmany h] at hE; simp at hE
    obtain ⟨m, rfl⟩ := Int.eq_ofNat_of_zero_le (show 0 ≤ many by omega)
    have hAL : ((placesL v l).take m).length = m := by rw [List.length_take, places_len]; omega
    rw [hE]
    rw [hC, show ((m : Int).toNat = m) from rfl] at hi1
    have HF1 := Lib.hid (fun (i : Nat) (z : Int) => fair_at (v := v) (l := l) (m := m) (i := i) (z := z) HROOM.out)
    have HF2 := Lib.hid (fun (k : Nat) (p : Pr) => fair_rest (v := v) (l := l) (m := m) (k := k) (p := p))
    generalize (placesL v l).take m = A at *
    have HAL := Lib.hid hAL
    obtain ⟨a4, c4, rfl, hc4, ⟨_, hcm4, _⟩, _⟩ := hi1.opened
    have hm8 : m ≤ 8 := by omega
    clear hE hok hC hmany hshort hAL
    go_upto_region 6 with (go_at_call 9; refine (chosen_any _).mono ?_; rintro e w2 ⟨rfl, hb2⟩)
    have S2 := S1.step hb2
    have hm0 : OwnsSet Try.prog 3 4 (w2.alloc (.map #[] 0)) w2.heap.size [] := OwnsSet.made w2
    have d2 := below_cell hb2 c11
    have HU2 := Lib.hid (HU.out.stays RPeer.stays hb2)
    have HI2 := Lib.hid (hi1.stays hb2)
    have HSQ : Hid (∀ w', Since w2.heap.size w2 w' → w'.cell? ⟨B5, 0, none⟩ = some (.slice al l.length cl)) := Lib.hid (fun w' q => below_cell q.below d2)
    have HPE : Hid (∀ w', Since w2.heap.size w2 w' → IsPeers w' (.slice al l.length cl) l) := Lib.hid (fun w' q => HU2.out.stays RPeer.stays q.below)
    have S3 := (Since.refl w2).alloc (.map #[] 0)
    clear hb2 c11 hi1 HU d2
    go_wp2_with fail
    generalize w2.alloc (.map #[] 0) = w3 at *
    obtain ⟨Bm, hBm⟩ : ∃ Bm, Bm = w2.heap.size := ⟨_, rfl⟩
    rw [← hBm] at hm0 ⊢
    have HBM := Lib.hid (show w2.heap.size ≤ Bm by omega)
    clear hBm
    have hA8 : A.length ≤ 8 := by rw [HAL.out]; exact hm8
    go_loopw [37, 12] (fun i last wr => ∃ k : Nat, k ≤ A.length ∧ i = .int .i64 k ∧ last = .int .i64 (lastR l (A.take k)) ∧ Since w2.heap.size w2 wr ∧ OwnsSet Try.prog 3 4 wr Bm (A.take k)) (fun i _ _ => A.length - (intOf i).toNat)
    case atStart => exact ⟨0, by omega, rfl, rfl, S3, by simpa using hm0⟩
    case round =>
      obtain ⟨k, hk, rfl, rfl, hS, hm⟩ := hrel
      have d5 := HSQ.out wr hS
      clear hm0 S3
      by_cases hlt : k < A.length
      · obtain ⟨_, _, e6, _, _, hpi⟩ := (HI2.out.stays hS.below).opened
        simp only [Value.slice.injEq, true_and] at e6
        obtain ⟨rfl, rfl⟩ := e6
        obtain ⟨ga, oa, z, rfl, ca, hz, iz⟩ := hpi k hlt
        obtain ⟨kk, p, rfl, hp, hcan, hnot, hlast⟩ := HF1.out k z hz
        obtain ⟨g, off, u, cu, rfl, k0, k1, k2, hpk, i1⟩ := peer_at HU2.out hp
        have hroom := HROOM.out p (List.mem_of_getElem? hp)
        have hkk : kk < l.length := (List.getElem?_eq_some_iff.1 hp).1
        have hlk := hm.lookup (t := 39) Try.underlying3 Try.underlying4 Try.underlying39 (zero_boolC _) (kk : Int) iz
        rw [show decide ((kk : Int) ∈ A.take k) = false from decide_eq_false hnot] at hlk
        have HRM : Hid (∀ w', Since w2.heap.size w2 w' → Calls Try.prog 13 #[.int .i64 (kk : Int), .pointer (some ⟨B5, 0, none⟩)] w' fun e w'' => e = .returned (.int .i64 (leftV p)) ∧ Below w'.heap.size w' w'') :=
          Lib.hid (fun w' q => FairRoom_any B5 _ cl l kk p w' (HSQ.out w' q) (HPE.out w' q) hp hroom)
        have HLN := Lib.hid (show lastR l (A.take (k + 1)) = leftV p by rw [take_get hz, lastR_snoc, leftAt_get hp])
        have HTK := Lib.hid (take_get hz)
        have hl1 := canV_left hcan
        obtain ⟨t, r, ks⟩ := p
        simp only at k0 k1 k2 hpk i1
        simp only [canV, Bool.and_eq_true, decide_eq_true_eq] at hcan
        obtain ⟨rfl, _, hfn⟩ := hcan
        have HFD : Hid (∀ w', Since w2.heap.size w2 w' → Calls Try.prog 14 #[.agg #[.bool true, .int .i64 r, .slice u ks.length cu], .int .i64 v] w' fun e w'' => e = .returned (.int .i64 (findV v ks 0)) ∧ Below w'.heap.size w' w'') :=
          Lib.hid (fun w' q => Find_any _ _ _ ks v w' (hpk.stays RKept.stays q.below))
        have HPC : Hid (∀ w', Since w2.heap.size w2 w' → w'.cell? ⟨g, off + kk * 3, none⟩ = some (.bool true) ∧ w'.cell? ⟨g, off + kk * 3 + 1, none⟩ = some (.int .i64 r) ∧ w'.cell? ⟨g, off + kk * 3 + 2, none⟩ = some (.slice u ks.length cu)) :=
          Lib.hid (fun w' q => ⟨below_cell q.below k0, below_cell q.below k1, below_cell q.below k2⟩)
        obtain ⟨m0, m1, m2⟩ := HPC.out wr hS
        have hk1 : (kk : Int) < (l.length : Int) := by omega
        have hk2 : ¬ (l.length : Int) ≤ (kk : Int) := by omega
        have hk3 : ¬ (kk : Int) < 0 := by omega
        have hlS : (A.take k).length < 1000000000000000 := by rw [List.length_take]; omega
        generalize leftV (true, r, ks) = lv at *
        obtain ⟨last, hLR⟩ : ∃ last, last = lastR l (A.take k) := ⟨_, rfl⟩
        rw [← hLR] at hlast ⊢
        have hl2 : ¬ lv < 1 := by omega
        have hl3 : ¬ last < lv := by omega
        clear hLR hroom hpk hp hz hnot
        go_wp2_with (first
          | (go_at_call 13; refine (HRM.out _ q7).mono ?_; rintro e w8 ⟨rfl, hb8⟩; have q8 := q7.step hb8; have p8 := p7.step hb8; have hm8 := hm.below p8.below)
          | (go_at_call 13; refine (HRM.out _ q5).mono ?_; rintro e w6 ⟨rfl, hb6⟩; have q6 := q5.step hb6; have p6 := p5.step hb6; have d6 := HSQ.out w6 q6; obtain ⟨n0, n1, n2⟩ := HPC.out w6 q6)
          | (go_at_call 13; refine (HRM.out _ hS).mono ?_; rintro e w5 ⟨rfl, hb5⟩; have q5 := hS.step hb5; have p5 := (Since.refl wr).step hb5)
          | (go_at_call 14; refine (HFD.out _ q6).mono ?_; rintro e w7 ⟨rfl, hb7⟩; have q7 := q6.step hb7; have p7 := p6.step hb7)
          | (at_mapUpdate; refine wpList_store_set _ rfl _ _ _ 39 rfl Try.underlying3 Try.underlying4 Try.underlying39 _ _ rfl hm8 hlS _ rfl rfl iz ?_; intro w9 hm9 hg9))
        have S9 := q8.grown hg9 (fun q hq => by cases hq; exact HBM.out)
        have HM9 := Lib.hid hm9
        clear hlk hm9 hg9 hm8 hm
        go_roundw
        case rel => exact ⟨k + 1, by omega, by go_num, by rw [HLN.out], S9, by rw [HTK.out]; exact HM9.out⟩
        case measure => simp [intOf]; omega
      · obtain rfl : A.length = k := by omega
        rw [List.take_length] at hm ⊢
        have HLA := Lib.hid (show A = [] → ¬ 0 < A.length by intro h; rw [h]; simp)
        obtain ⟨wo, hwo⟩ : ∃ wo : World, wo = wr := ⟨_, rfl⟩
        rw [← hwo] at hS hm d5 ⊢
        clear hwo
        go_wp2_with fail
        go_loopw [92] (fun i wr => ∃ k : Nat, k ≤ l.length ∧ i = .int .i64 k ∧ Since w2.heap.size w2 wr ∧ OwnsSet Try.prog 3 4 wr Bm A) (fun i _ => l.length - (intOf i).toNat)
        case atStart => exact ⟨0, by omega, rfl, hS, hm⟩
        case round =>
          obtain ⟨k, hk, rfl, hS1, hm1⟩ := hrel
          clear hS hm d5
          by_cases hlt : k < l.length
          · have hp := List.getElem?_eq_getElem hlt
            obtain ⟨g, off, u, cu, rfl, k0, k1, k2, hpk, i1⟩ := peer_at HU2.out hp
            have hroom := HROOM.out _ (List.mem_of_getElem? hp)
            have HFR := Lib.hid (HF2.out k _ hp)
            have HRM : Hid (∀ w', Since w2.heap.size w2 w' → Calls Try.prog 13 #[.int .i64 (k : Int), .pointer (some ⟨B5, 0, none⟩)] w' fun e w'' => e = .returned (.int .i64 (leftV l[k])) ∧ Below w'.heap.size w' w'') :=
              Lib.hid (fun w' q => FairRoom_any B5 _ cl l k _ w' (HSQ.out w' q) (HPE.out w' q) hp hroom)
            generalize l[k] = p at *
            obtain ⟨t, r, ks⟩ := p
            simp only at k0 k1 k2 hpk i1
            have ik : I64 (k : Int) := ⟨by omega, by omega⟩
            have HFD : Hid (∀ w', Since w2.heap.size w2 w' → Calls Try.prog 14 #[.agg #[.bool t, .int .i64 r, .slice u ks.length cu], .int .i64 v] w' fun e w'' => e = .returned (.int .i64 (findV v ks 0)) ∧ Below w'.heap.size w' w'') :=
              Lib.hid (fun w' q => Find_any _ _ _ ks v w' (hpk.stays RKept.stays q.below))
            have m0 := below_cell hS1.below k0
            have m1 := below_cell hS1.below k1
            have m2 := below_cell hS1.below k2
            have S4 := hS1.alloc (.cells #[.bool t, .int .i64 r, .slice u ks.length cu] 37)
            have hm4 := hm1.below (below_alloc wr (.cells #[.bool t, .int .i64 r, .slice u ks.length cu] 37))
            clear k0 k1 k2 hpk hp hS1 hm1
            go_upto_region 17 with fail
            have f0 : (wr.alloc (.cells #[.bool t, .int .i64 r, .slice u ks.length cu] 37)).cell? ⟨wr.heap.size, 0, none⟩ = some (.bool t) := by go_simp
            have f1 : (wr.alloc (.cells #[.bool t, .int .i64 r, .slice u ks.length cu] 37)).cell? ⟨wr.heap.size, 1, none⟩ = some (.int .i64 r) := by go_simp
            have f2 : (wr.alloc (.cells #[.bool t, .int .i64 r, .slice u ks.length cu] 37)).cell? ⟨wr.heap.size, 2, none⟩ = some (.slice u ks.length cu) := by go_simp
            obtain ⟨Bk, hBk⟩ : ∃ Bk, Bk = wr.heap.size := ⟨_, rfl⟩
            rw [← hBk] at f0 f1 f2 ⊢
            clear hBk m0 m1 m2
            generalize wr.alloc (.cells #[.bool t, .int .i64 r, .slice u ks.length cu] 37) = w4 at *
            have hlk := hm4.lookup (t := 39) Try.underlying3 Try.underlying4 Try.underlying39 (zero_boolC _) (k : Int) ik
            have HM4 := Lib.hid hm4
            clear hm4
            by_cases hin : (k : Int) ∈ A
            · rw [decide_eq_true hin] at hlk
              go_wp2_with fail
              clear hlk
              go_roundw
              case rel => exact ⟨k + 1, by omega, by go_num, S4, HM4.out⟩
              case measure => simp [intOf]; omega
            · rw [decide_eq_false hin] at hlk
              cases t with
              | false =>
                go_wp2_with fail
                clear hlk
                go_roundw
                case rel => exact ⟨k + 1, by omega, by go_num, S4, HM4.out⟩
                case measure => simp [intOf]; omega
              | true =>
                by_cases hfn : findV v ks 0 < 0
                · by_cases hla : lastR l A < leftV (true, r, ks)
                  · have hA0 : A.length = 0 := by
                      by_cases hne : A = []
                      · rw [hne]; rfl
                      · have hr : (ks.length : Int) < r := by
                          have h1 : 1 ≤ leftV (true, r, ks) := by
                            have h2 : 0 ≤ lastR l A := by
                              rcases List.eq_nil_or_concat A with h | ⟨s, y, h⟩
                              · exact absurd h hne
                              · obtain ⟨kk, q, e1, e2, e3, _⟩ := HF1.out s.length y (by rw [h]; simp)
                                rw [h, List.concat_eq_append, lastR_snoc, e1, leftAt_get e2]
                                have := canV_left e3
                                omega
                            omega
                          unfold leftV at h1
                          simp only at h1
                          omega
                        have := HFR.out (by simp [canV, hr, hfn]) hin hne
                        omega
                    have hA1 : ¬ (0 : Int) < (A.length : Int) := by omega
                    clear hA0
                    go_wp2_with (first
                      | (go_at_call 14; refine (HFD.out _ S4).mono ?_; rintro e w5 ⟨rfl, hb5⟩; have S5 := S4.step hb5; have q5 := (Since.refl w4).step hb5)
                      | (go_at_call 13; refine (HRM.out _ S5).mono ?_; rintro e w6 ⟨rfl, hb6⟩; have S6 := S5.step hb6; have q6 := q5.step hb6))
                    clear hlk
                    go_roundw
                    case rel => exact ⟨k + 1, by omega, by go_num, S6, HM4.out.below q6.below⟩
                    case measure => simp [intOf]; omega
                  · go_wp2_with (first
                      | (go_at_call 14; refine (HFD.out _ S4).mono ?_; rintro e w5 ⟨rfl, hb5⟩; have S5 := S4.step hb5; have q5 := (Since.refl w4).step hb5)
                      | (go_at_call 13; refine (HRM.out _ S5).mono ?_; rintro e w6 ⟨rfl, hb6⟩; have S6 := S5.step hb6; have q6 := q5.step hb6))
                    clear hlk
                    go_roundw
                    case rel => exact ⟨k + 1, by omega, by go_num, S6, HM4.out.below q6.below⟩
                    case measure => simp [intOf]; omega
                · go_wp2_with (go_at_call 14; refine (HFD.out _ S4).mono ?_; rintro e w5 ⟨rfl, hb5⟩; have S5 := S4.step hb5; have q5 := (Since.refl w4).step hb5)
                  clear hlk
                  go_roundw
                  case rel => exact ⟨k + 1, by omega, by go_num, S5, HM4.out.below q5.below⟩
                  case measure => simp [intOf]; omega
          · obtain rfl : l.length = k := by omega
            have hAm : ((A.length : Int) == (m : Int)) = true := by rw [HAL.out]; simp
            go_wp2_with fail
            go_ret
            exact ⟨rfl, (S2.step hS1.below).below⟩
  · have hne : (forE b l v many != 0) = true := by simpa using hE
    clear hE
    go_wp2_with (first
      | (go_at_call 9; refine (chosen_any _).mono ?_; rintro e w3 ⟨rfl, hb3⟩; have S3 := S2.step hb3)
      | (go_at_call 9; refine (chosen_any _).mono ?_; rintro e w2 ⟨rfl, hb2⟩; have S2 := S1.step hb2))
    go_ret
    exact ⟨rfl, S3.below⟩

end Go.Proofs.Ytpjlngkndofjfaa
