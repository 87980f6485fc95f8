/-
  audit.Lacking walked.
-/
import Derived.Test.YtnidbghgadnjeaaGreatExtra
import Derived.Test.YtnidbghgadnjeaaGreatSpare
namespace Go.Proofs.YtnidbghgadnjeaaGreat
open Go.RowKit

set_option linter.unusedSimpArgs false in
set_option maxRecDepth 100000 in
set_option maxHeartbeats 4000000 in
theorem Lacking_any (vb : Value) (b : List Ver) (u : Value) (ps : List Pr) (v : Int) (W : World) (hb : IsVers W vb b) (hu : IsPeers W u ps) :
    Calls Tryz.prog 26 #[.agg #[vb, u], .int .i64 v] W fun e w' => e = .returned (.tuple #[.int .i64 (lackV (b, ps) v), .int .i64 (readyE (b, ps) v)]) ∧ Below W.heap.size W w' := by
  obtain ⟨a, c, rfl, hcb, ⟨hbm, hbc, _⟩, _⟩ := hb.opened
  obtain ⟨a', c', rfl, hcap, ⟨hm, hcm, _⟩, _⟩ := hu.opened
  have S0 := (Since.refl W).alloc (.cells #[.slice a b.length c, .slice a' ps.length c'] 35)
  have hb0 := hb.stays RVer.stays S0.below
  have hu0 := hu.stays RPeer.stays S0.below
  have c0 : (W.alloc (.cells #[.slice a b.length c, .slice a' ps.length c'] 35)).cell? ⟨W.heap.size, 0, none⟩ = some (.slice a b.length c) := by go_simp
  have c1 : (W.alloc (.cells #[.slice a b.length c, .slice a' ps.length c'] 35)).cell? ⟨W.heap.size, 1, none⟩ = some (.slice a' ps.length c') := by go_simp
  have hE : Hid (readyE (b, ps) v = if meshV (b, ps) ≠ 0 then meshV (b, ps) else if v < 0 ∨ (b.length : Int) ≤ v then 4 else 0) := Lib.hid rfl
  have hV : Hid (readyE (b, ps) v ≠ 0 → lackV (b, ps) v = 0) := Lib.hid (fun h => by unfold lackV; rw [if_pos h])
  clear hb hu
  go_enter Tryz.func26, Tryz.ntmps26
  go_upto_region 1 with fail
  generalize W.alloc (.cells #[.slice a b.length c, .slice a' ps.length c'] 35) = w0 at *
  obtain ⟨B, hB⟩ : ∃ B, B = W.heap.size := ⟨_, rfl⟩
  rw [← hB] at c0 c1 ⊢
  clear hB
  go_upto_region 2 with (go_at_call 37; go_fit (meshCheck_any _ b _ ps _ hb0 hu0); rintro e w1 ⟨rfl, hb1⟩)
  have S1 := S0.step hb1
  have d0 := below_cell hb1 c0
  have d1 := below_cell hb1 c1
  have HB1 := Lib.hid (hb0.stays RVer.stays hb1)
  have HU1 := Lib.hid (hu0.stays RPeer.stays hb1)
  clear c0 c1 hb1 hb0 hu0
  by_cases h0 : meshV (b, ps) = 0
  · have hps : ps.length ≤ 8 := (placeV_ok.1 h0).2.1
    rw [h0] at hE ⊢
    obtain ⟨T, hT⟩ : ∃ T : Bool, T = decide (v < 0) := ⟨_, rfl⟩
    cases T with
    | true =>
      have hm : v < 0 := by simpa using hT.symm
      have H : Hid (readyE (b, ps) v = 4) := Lib.hid (by rw [hE.out]; simp [hm])
      have H2 : Hid (lackV (b, ps) v = 0) := Lib.hid (hV.out (by rw [H.out]; decide))
      clear hT hE h0
      go_wp2_with fail
      go_ret2
      exact ⟨ret_nE H2.out.symm H.out.symm, S1.below⟩
    | false =>
      have hm : ¬ v < 0 := by simpa using hT.symm
      by_cases h2 : (b.length : Int) ≤ v
      · have H : Hid (readyE (b, ps) v = 4) := Lib.hid (by rw [hE.out]; simp [h2])
        have H2 : Hid (lackV (b, ps) v = 0) := Lib.hid (hV.out (by rw [H.out]; decide))
        clear hT hE h0
        go_wp2_with fail
        go_ret2
        exact ⟨ret_nE H2.out.symm H.out.symm, S1.below⟩
      · have H : Hid (readyE (b, ps) v = 0) := Lib.hid (by rw [hE.out]; simp [hm, h2])
        obtain ⟨kv, rfl⟩ := Int.eq_ofNat_of_zero_le (by omega : 0 ≤ v)
        have hkv : kv < b.length := by omega
        have hget := List.getElem?_eq_getElem hkv
        have hpl : Hid (planAt b (kv : Int) = b[kv].2) := Lib.hid (by unfold planAt; simp [hget])
        obtain ⟨gv, ov, uv, cv, ea, k0, k1, k2, k3, _, i1, i2, i3⟩ := vers_at HB1.out hget
        subst ea
        have hplan := planV_bd ((bookV_ok.1 (placeV_ok.1 h0).1).plan kv _ hget)
        generalize b[kv] = x at *
        have H2 : Hid (lackV (b, ps) (kv : Int) = x.2.2.1 - ((onceL (numsS (kv : Int) ps)).length : Int)) := Lib.hid (by unfold lackV; rw [if_neg (by simpa using H.out)]; rw [show planAt (b, ps).1 (kv : Int) = x.2 from hpl.out])
        have hpk : Hid (∀ p ∈ ps, PeerOk b p) := Lib.hid (placeV_ok.1 h0).2.2
        have b1 : ¬ (b.length : Int) ≤ (kv : Int) := h2
        have b2 : (0 : Int) ≤ (kv : Int) := by omega
        have b3 : (kv : Int) < (b.length : Int) := by omega
        have hno : ∀ y : Kp, ∀ p ∈ ps, y ∈ p.2.2 → y.1 = (kv : Int) → 0 ≤ y.2.1 ∧ y.2.1 < 8 := fun y p hp hy hv' => by
          have h1 := ((hpk.out p hp).each y hy).2.2
          unfold shareV at h1
          rw [hv', hpl.out] at h1
          have h3 := oneV_ok h1
          exact ⟨h3.1, by have := h3.2.1; omega⟩
        have HNO := Lib.hid hno
        have T2 := (Since.refl w1).alloc (.cells #[.bool false, .bool false, .bool false, .bool false, .bool false, .bool false, .bool false, .bool false] 101)
        have HF : Hid (∀ w', Since w1.heap.size w1 w' → w'.cell? ⟨B, 0, none⟩ = some (.slice (some ⟨gv, ov, none⟩) b.length c) ∧ w'.cell? ⟨B, 1, none⟩ = some (.slice a' ps.length c') ∧ w'.cell? ⟨gv, ov + kv * 4 + 2, none⟩ = some (.int .i64 x.2.2.1) ∧ IsPeers w' (.slice a' ps.length c') ps) := Lib.hid (fun w' q => ⟨below_cell q.below d0, below_cell q.below d1, below_cell q.below k2, HU1.out.stays RPeer.stays q.below⟩)
        obtain ⟨e0, e1, e2, _⟩ := HF.out _ T2
        have hsn : ∀ j, j < 8 → (w1.alloc (.cells #[.bool false, .bool false, .bool false, .bool false, .bool false, .bool false, .bool false, .bool false] 101)).cell? ⟨w1.heap.size, j, none⟩ = some (.bool (decide ((j : Int) ∈ ([] : List Int)))) := by
          intro j hj
          have h := fresh_cellsT w1 [.bool false, .bool false, .bool false, .bool false, .bool false, .bool false, .bool false, .bool false] 101 w1.heap.size rfl j (.bool false) (by rcases (by omega : j = 0 ∨ j = 1 ∨ j = 2 ∨ j = 3 ∨ j = 4 ∨ j = 5 ∨ j = 6 ∨ j = 7) with rfl | rfl | rfl | rfl | rfl | rfl | rfl | rfl <;> rfl)
          rw [add_zero'] at h
          rw [show decide ((j : Int) ∈ ([] : List Int)) = false by simp]
          exact h
        have hsf : ∀ j, (w1.alloc (.cells #[.bool false, .bool false, .bool false, .bool false, .bool false, .bool false, .bool false, .bool false] 101)).frozen? ⟨w1.heap.size, j, none⟩ = false := by
          intro j
          have hh := heap_alloc_new w1 (.cells #[.bool false, .bool false, .bool false, .bool false, .bool false, .bool false, .bool false, .bool false] 101)
          unfold World.frozen?
          dsimp only
          rw [hh]
          simp
        clear hT hE h0 hget h2 hm hV k0 k1 k2 k3 hno
        go_upto_region 7 with fail
        clear d0 d1
        generalize w1.alloc (.cells #[.bool false, .bool false, .bool false, .bool false, .bool false, .bool false, .bool false, .bool false] 101) = w2 at *
        obtain ⟨Bm, hBm⟩ : ∃ Bm, Bm = w1.heap.size := ⟨_, rfl⟩
        rw [← hBm] at hsn hsf ⊢
        have hBm1 : w1.heap.size ≤ Bm := by omega
        clear hBm
        have HSN := Lib.hid hsn
        have HSF := Lib.hid hsf
        clear hsn hsf
        have ho8 : x.2.2.1 ≤ 8 := by omega
        have ho0 : 1 ≤ x.2.2.1 := by omega
        go_wp2_with fail
        clear e0 e1 e2
        go_loopw [38, 8] (fun i nn wr => ∃ k : Nat, k ≤ ps.length ∧ i = .int .i64 k ∧ Since w1.heap.size w1 wr ∧ nn = .int .i64 (x.2.2.1 - ((onceL (numsS (kv : Int) (ps.take k))).length : Int)) ∧ (∀ j, j < 8 → wr.cell? ⟨Bm, j, none⟩ = some (.bool (decide ((j : Int) ∈ numsS (kv : Int) (ps.take k))))) ∧ ∀ j, wr.frozen? ⟨Bm, j, none⟩ = false) (fun i _ _ => ps.length - (intOf i).toNat)
        case atStart => exact ⟨0, by omega, rfl, T2, by simp [numsS, onceL], HSN.out, HSF.out⟩
        case round =>
          obtain ⟨k, hk, rfl, hS, rfl, hsn, hsf⟩ := hrel
          have HSN := Lib.hid hsn
          have HSF := Lib.hid hsf
          clear hsn hsf T2
          obtain ⟨_, _, _, hup⟩ := HF.out wr hS
          have hBmw : Bm < wr.heap.size := cell_lt (HSN.out 0 (by omega))
          by_cases hlt : k < ps.length
          · have hget := List.getElem?_eq_getElem hlt
            obtain ⟨g, off, u, cu, rfl, k0, k1, k2, hp, j1⟩ := peer_at hup hget
            have HST := Lib.hid (numsS_step (kv : Int) hget)
            have HNP := Lib.hid (fun (y : Kp) => HNO.out y _ (List.getElem_mem hlt))
            have hol : (onceL (numsS (kv : Int) (ps.take k))).length ≤ 8 := Nat.le_trans (onceL_len _) (Nat.le_trans (numsS_len _ _) (by rw [List.length_take]; omega))
            generalize hNM : numsS (kv : Int) (ps.take k) = NM at *
            generalize ps[k] = p at *
            obtain ⟨t, r, ks⟩ := p
            simp only at k0 k1 k2 hp j1
            have BB := below_alloc wr (.cells #[.bool t, .int .i64 r, .slice u ks.length cu] 78)
            have S1 := hS.alloc (.cells #[.bool t, .int .i64 r, .slice u ks.length cu] 78)
            have hpi := hp.stays RKept.stays BB
            have f0 : (wr.alloc (.cells #[.bool t, .int .i64 r, .slice u ks.length cu] 78)).cell? ⟨wr.heap.size, 0, none⟩ = some (.bool t) := by go_simp
            have f1 : (wr.alloc (.cells #[.bool t, .int .i64 r, .slice u ks.length cu] 78)).cell? ⟨wr.heap.size, 1, none⟩ = some (.int .i64 r) := by go_simp
            have f2 : (wr.alloc (.cells #[.bool t, .int .i64 r, .slice u ks.length cu] 78)).cell? ⟨wr.heap.size, 2, none⟩ = some (.slice u ks.length cu) := by go_simp
            have HL : Hid (((onceL NM).length : Nat) ≤ 8) := Lib.hid hol
            clear hup hget hNM
            go_upto_region 11 with fail
            clear k0 k1 k2 hp
            generalize wr.alloc (.cells #[.bool t, .int .i64 r, .slice u ks.length cu] 78) = w3 at *
            obtain ⟨Bt, hBt⟩ : ∃ Bt, Bt = wr.heap.size := ⟨_, rfl⟩
            have hBtm : Bt ≠ Bm := by omega
            rw [← hBt] at f0 f1 f2 ⊢
            clear hBt
            have HPI := Lib.hid hpi
            go_upto_region 12 with (go_at_call 49; go_fit (Find_any t r _ ks (kv : Int) _ hpi); rintro e w4 ⟨rfl, hb4⟩)
            have S4 := S1.step hb4
            have f0 := below_cell hb4 f0
            have f2 := below_cell hb4 f2
            have BB4 := BB.trans (hb4.mono BB.size)
            have HP4 := Lib.hid (HPI.out.stays RKept.stays hb4)
            have HS4 : Hid ((∀ j, j < 8 → w4.cell? ⟨Bm, j, none⟩ = some (.bool (decide ((j : Int) ∈ NM)))) ∧ ∀ j, w4.frozen? ⟨Bm, j, none⟩ = false) := Lib.hid ⟨fun j hj => below_cell BB4 (HSN.out j hj), fun j => (BB4.frozen (p := ⟨Bm, j, none⟩) hBmw).trans (HSF.out j)⟩
            clear f1 hb4 hpi BB BB4
            cases t with
            | false =>
              have HN := Lib.hid (numsS_none (v := (kv : Int)) (p := (false, r, ks)) rfl)
              go_wp2_with fail
              go_roundw
              case rel => exact ⟨k + 1, by omega, by go_num, S4, by rw [HST.out, HN.out, List.append_nil], by rw [HST.out, HN.out, List.append_nil]; exact HS4.out.1, HS4.out.2⟩
              case measure => simp [intOf]; omega
            | true =>
              rcases findV_keptAt (kv : Int) ks 0 with ⟨hn, hf⟩ | ⟨m, y, hx, hxv, hn, hf⟩
              · have HN := Lib.hid (numsS_none (v := (kv : Int)) (p := (true, r, ks)) (by simp [pickS, hn]))
                rw [hf]
                clear hn hf
                go_wp2_with fail
                go_roundw
                case rel => exact ⟨k + 1, by omega, by go_num, S4, by rw [HST.out, HN.out, List.append_nil], by rw [HST.out, HN.out, List.append_nil]; exact HS4.out.1, HS4.out.2⟩
                case measure => simp [intOf]; omega
              · rw [hf, Nat.zero_add]
                obtain ⟨gk, ok, uk, ck, rfl, x0, x1, x2, hxi, ix0, ix1⟩ := kept_at HP4.out hx
                have hml := (List.getElem?_eq_some_iff.1 hx).1
                have HN := Lib.hid (numsS_some (v := (kv : Int)) (p := (true, r, ks)) (s := y.2) (by simp [pickS, hn]))
                obtain ⟨hN0, hN8⟩ := HNP.out y (List.mem_of_getElem? hx) hxv
                obtain ⟨N, hN⟩ := Int.eq_ofNat_of_zero_le hN0
                have hNl : N < 8 := by omega
                rw [hN] at x1 HN
                have c8 := HS4.out.1 N hNl
                obtain ⟨D, hD⟩ : ∃ D, D = decide ((N : Int) ∈ NM) := ⟨_, rfl⟩
                rw [← hD] at c8
                have hN8' : (N : Int) < 8 := by omega
                clear hn hf hx hxv x0 x2 hxi hN0 hN8 hN
                cases D with
                | true =>
                  have hmem : (N : Int) ∈ NM := by simpa using hD.symm
                  have HO := Lib.hid (show onceL (NM ++ [(N : Int)]) = onceL NM by rw [onceL_snoc, if_pos hmem])
                  have HMM := Lib.hid (fun (z : Int) => (show (z ∈ NM ++ [(N : Int)]) ↔ z ∈ NM from ⟨fun h => by rcases List.mem_append.1 h with h | h; exact h; rw [List.mem_singleton.1 h]; exact hmem, fun h => List.mem_append_left _ h⟩))
                  clear hD hmem
                  go_wp2_with fail
                  clear f0 f2 x1 c8
                  go_roundw
                  case rel => exact ⟨k + 1, by omega, by go_num, S4, by rw [HST.out, HN.out, HO.out], fun j hj => by rw [HS4.out.1 j hj, HST.out, HN.out, decide_eq_decide.2 (HMM.out (j : Int))], HS4.out.2⟩
                  case measure => simp [intOf]; omega
                | false =>
                  have hmem : (N : Int) ∉ NM := by simpa using hD.symm
                  have HO := Lib.hid (show (onceL (NM ++ [(N : Int)])).length = (onceL NM).length + 1 by rw [onceL_snoc, if_neg hmem]; simp)
                  have HMM := Lib.hid (fun (z : Int) (hz : z ≠ (N : Int)) => (show (z ∈ NM ++ [(N : Int)]) ↔ z ∈ NM from ⟨fun h => by rcases List.mem_append.1 h with h | h; exact h; exact absurd (List.mem_singleton.1 h) hz, fun h => List.mem_append_left _ h⟩))
                  have q8 := HS4.out.2 N
                  have S9 := S4.setCell (a := ⟨Bm, N, none⟩) hBm1 (.bool true)
                  have HS9 : Hid ((∀ j, j < 8 → (w4.setCell ⟨Bm, N, none⟩ (.bool true)).cell? ⟨Bm, j, none⟩ = some (.bool (decide ((j : Int) ∈ NM ++ [(N : Int)])))) ∧ ∀ j, (w4.setCell ⟨Bm, N, none⟩ (.bool true)).frozen? ⟨Bm, j, none⟩ = false) := Lib.hid ⟨fun j hj => by
                    by_cases hjN : j = N
                    · subst hjN
                      rw [show decide ((j : Int) ∈ NM ++ [(j : Int)]) = true by simp]
                      exact World.cell?_setCell_same _ _ _ (HS4.out.1 j hj)
                    · rw [decide_eq_decide.2 (HMM.out (j : Int) (by omega))]
                      exact (World.cell?_setCell_other _ _ _ _ (by intro e; cases e; exact hjN rfl)).trans (HS4.out.1 j hj), fun j => by rw [World.frozen?_setCell]; exact HS4.out.2 j⟩
                  have hol2 := HL.out
                  clear hD hmem
                  go_wp2_with fail
                  clear f0 f2 x1 c8 q8
                  go_roundw
                  case rel => exact ⟨k + 1, by omega, by go_num, S9, by rw [HST.out, HN.out, HO.out]; congr 1; omega, by rw [HST.out, HN.out]; exact HS9.out.1, HS9.out.2⟩
                  case measure => simp [intOf]; omega
          · obtain rfl : ps.length = k := by omega
            have S9 := S1.step hS.below
            go_wp2_with fail
            go_ret2
            exact ⟨ret_nE (by rw [H2.out, List.take_length]) H.out.symm, S9.below⟩
  · have H : Hid (readyE (b, ps) v = meshV (b, ps)) := Lib.hid (by rw [hE.out, if_pos h0])
    have H2 : Hid (lackV (b, ps) v = 0) := Lib.hid (hV.out (by rw [H.out]; exact h0))
    clear hE
    go_wp2_with fail
    go_ret2
    exact ⟨ret_nE H2.out.symm H.out.symm, S1.below⟩
end Go.Proofs.YtnidbghgadnjeaaGreat
