/-
  What a happening leaves as it was. (Printed by wip/tools/mkkeeps.py; what a closed fact answers is given as a contract.)
-/
import Derived.Test.YtnpdojjffbhalaaGreatDoAny
import Derived.Test.YtnpdojjffbhalaaGreatKeepLaw
import Derived.Test.YtnpdojjffbhalaaGreatReadHap
import Derived.Test.YtnpdojjffbhalaaGreatSames
namespace Go.Proofs.YtnpdojjffbhalaaGreat
open Go.RowKit

set_option linter.unusedSimpArgs false in
set_option maxRecDepth 100000 in
set_option maxHeartbeats 8000000 in
theorem WorldKeeps_walk (hdn : ∀ W, Calls Tryz.prog 6 #[] W fun e w' => e = .returned (.bool true) ∧ Below W.heap.size W w') (vm : Value) (m : Me) (vx : Value) (x : Hp) (W : World) (hm : IsMesh W vm m) (hx : IsHap W vx x) :
    Calls Tryz.prog 3 #[vm, vx] W fun e w' => e = .returned (.bool true) ∧ Below W.heap.size W w' := by
  obtain ⟨vb, u, rfl, hb, hu⟩ := hm
  obtain ⟨b, ps⟩ := m
  obtain ⟨vd, vp, rfl, hd, hp, i1, i2, i3, i4, i5⟩ := hx
  obtain ⟨kd, n, pl, data, pr, need, of_⟩ := x
  simp only at hb hu hd hp i1 i2 i3 i4 i5
  obtain ⟨a, c, rfl, hcb, ⟨hbm, hbc, _⟩, _⟩ := hb.opened
  obtain ⟨a', c', rfl, hcu, ⟨hum, huc, _⟩, _⟩ := hu.opened
  obtain ⟨ud, cd, rfl, _⟩ := hd.opened
  obtain ⟨up, cp, rfl, _⟩ := hp.opened
  have HT := Lib.hid hdn
  clear hdn
  have S0 := ((Since.refl W).alloc (.cells #[.slice a b.length c, .slice a' ps.length c'] 27)).alloc (.cells #[.int .i64 kd, .int .i64 n, .int .i64 pl, .slice ud data.length cd, .slice up pr.length cp, .int .i64 need, .int .i64 of_] 30)
  have hb0 := hb.stays RVer.stays S0.below
  have hu0 := hu.stays RPeer.stays S0.below
  have hd0 := hd.stays S0.below
  have hp0 := hp.stays S0.below
  have c0 : ((W.alloc (.cells #[.slice a b.length c, .slice a' ps.length c'] 27)).alloc (.cells #[.int .i64 kd, .int .i64 n, .int .i64 pl, .slice ud data.length cd, .slice up pr.length cp, .int .i64 need, .int .i64 of_] 30)).cell? ⟨W.heap.size, 0, none⟩ = some (.slice a b.length c) := by go_simp
  have c1 : ((W.alloc (.cells #[.slice a b.length c, .slice a' ps.length c'] 27)).alloc (.cells #[.int .i64 kd, .int .i64 n, .int .i64 pl, .slice ud data.length cd, .slice up pr.length cp, .int .i64 need, .int .i64 of_] 30)).cell? ⟨W.heap.size, 1, none⟩ = some (.slice a' ps.length c') := by go_simp
  have g0 : ((W.alloc (.cells #[.slice a b.length c, .slice a' ps.length c'] 27)).alloc (.cells #[.int .i64 kd, .int .i64 n, .int .i64 pl, .slice ud data.length cd, .slice up pr.length cp, .int .i64 need, .int .i64 of_] 30)).cell? ⟨W.heap.size + 1, 0, none⟩ = some (.int .i64 kd) := by go_simp
  have g1 : ((W.alloc (.cells #[.slice a b.length c, .slice a' ps.length c'] 27)).alloc (.cells #[.int .i64 kd, .int .i64 n, .int .i64 pl, .slice ud data.length cd, .slice up pr.length cp, .int .i64 need, .int .i64 of_] 30)).cell? ⟨W.heap.size + 1, 1, none⟩ = some (.int .i64 n) := by go_simp
  have g2 : ((W.alloc (.cells #[.slice a b.length c, .slice a' ps.length c'] 27)).alloc (.cells #[.int .i64 kd, .int .i64 n, .int .i64 pl, .slice ud data.length cd, .slice up pr.length cp, .int .i64 need, .int .i64 of_] 30)).cell? ⟨W.heap.size + 1, 2, none⟩ = some (.int .i64 pl) := by go_simp
  have g3 : ((W.alloc (.cells #[.slice a b.length c, .slice a' ps.length c'] 27)).alloc (.cells #[.int .i64 kd, .int .i64 n, .int .i64 pl, .slice ud data.length cd, .slice up pr.length cp, .int .i64 need, .int .i64 of_] 30)).cell? ⟨W.heap.size + 1, 3, none⟩ = some (.slice ud data.length cd) := by go_simp
  have g4 : ((W.alloc (.cells #[.slice a b.length c, .slice a' ps.length c'] 27)).alloc (.cells #[.int .i64 kd, .int .i64 n, .int .i64 pl, .slice ud data.length cd, .slice up pr.length cp, .int .i64 need, .int .i64 of_] 30)).cell? ⟨W.heap.size + 1, 4, none⟩ = some (.slice up pr.length cp) := by go_simp
  have g5 : ((W.alloc (.cells #[.slice a b.length c, .slice a' ps.length c'] 27)).alloc (.cells #[.int .i64 kd, .int .i64 n, .int .i64 pl, .slice ud data.length cd, .slice up pr.length cp, .int .i64 need, .int .i64 of_] 30)).cell? ⟨W.heap.size + 1, 5, none⟩ = some (.int .i64 need) := by go_simp
  have g6 : ((W.alloc (.cells #[.slice a b.length c, .slice a' ps.length c'] 27)).alloc (.cells #[.int .i64 kd, .int .i64 n, .int .i64 pl, .slice ud data.length cd, .slice up pr.length cp, .int .i64 need, .int .i64 of_] 30)).cell? ⟨W.heap.size + 1, 6, none⟩ = some (.int .i64 of_) := by go_simp
  clear hb hu hd hp
  go_enter Tryz.func3, Tryz.ntmps3
  go_upto_region 1 with fail
  generalize (W.alloc (.cells #[.slice a b.length c, .slice a' ps.length c'] 27)).alloc (.cells #[.int .i64 kd, .int .i64 n, .int .i64 pl, .slice ud data.length cd, .slice up pr.length cp, .int .i64 need, .int .i64 of_] 30) = w0 at *
  obtain ⟨B, hB⟩ : ∃ B, B = W.heap.size := ⟨_, rfl⟩
  obtain ⟨Bh, hBh⟩ : ∃ B, B = W.heap.size + 1 := ⟨_, rfl⟩
  rw [← hBh] at g0 g1 g2 g3 g4 g5 g6 ⊢
  rw [← hB] at c0 c1 ⊢
  clear hB hBh
  have HF : Hid (∀ w', Since w0.heap.size w0 w' → w'.cell? ⟨B, 0, none⟩ = some (.slice a b.length c) ∧ w'.cell? ⟨B, 1, none⟩ = some (.slice a' ps.length c') ∧ w'.cell? ⟨Bh, 0, none⟩ = some (.int .i64 kd) ∧ w'.cell? ⟨Bh, 1, none⟩ = some (.int .i64 n) ∧ IsVers w' (.slice a b.length c) b ∧ IsPeers w' (.slice a' ps.length c') ps) := Lib.hid (fun w' q => ⟨below_cell q.below c0, below_cell q.below c1, below_cell q.below g0, below_cell q.below g1, hb0.stays RVer.stays q.below, hu0.stays RPeer.stays q.below⟩)
  have HDO := Lib.hid (Do_any _ _ _ _ b ps kd n pl data pr need of_ w0 hb0 hu0 hd0 hp0 i2 i3 i4 i5)
  have hKE : Hid (doE (b, ps) (kd, n, pl, data, pr, need, of_) = 0 → KeepsTo (b, ps) (kd, n, pl, data, pr, need, of_) (doC (b, ps) (kd, n, pl, data, pr, need, of_))) := Lib.hid (fun h => do_keeps h)
  have hMP : Hid (doE (b, ps) (kd, n, pl, data, pr, need, of_) = 0 → placeV b ps = 0) := Lib.hid (fun h => doE_mesh h)
  clear hb0 hu0 hd0 hp0 i1 i2 i3 i4 i5
  generalize doE (b, ps) (kd, n, pl, data, pr, need, of_) = E at *
  generalize doC (b, ps) (kd, n, pl, data, pr, need, of_) = M at *
  go_upto_region 2 with (go_at_call 5; go_fit HDO.out; rintro e w1 ⟨⟨u1, u2, rfl, ho1⟩, hb1⟩; obtain ⟨a6, c6, rfl, hc6, ⟨hm6, hk6, _⟩, _⟩ := ho1.vers.opened; obtain ⟨a7, c7, ev7, hc7, ⟨hm7, hk7, _⟩, _⟩ := ho1.peers.opened; subst ev7)
  clear HDO c0 c1 g0 g1 g2 g3 g4 g5 g6
  by_cases hE0 : E = 0
  · have HK := Lib.hid (hKE.out hE0)
    have hmp := hMP.out hE0
    have hp8 : ps.length ≤ 8 := (placeV_ok.1 hmp).2.1
    obtain ⟨q7, hq7⟩ : ∃ q, q = M.2.length := ⟨_, rfl⟩
    rw [← hq7] at hc7 hm7 ⊢
    obtain rfl : q7 = ps.length := by rw [hq7]; exact HK.out.len
    subst hE0
    have S1 := S0.step hb1
    have T1 := (Since.refl w0).step hb1
    have BY := below_alloc w1 (.cells #[.slice a6 M.1.length c6, .slice a7 ps.length c7] 27)
    have T2 := T1.alloc (.cells #[.slice a6 M.1.length c6, .slice a7 ps.length c7] 27)
    have S2 := S1.alloc (.cells #[.slice a6 M.1.length c6, .slice a7 ps.length c7] 27)
    have hvy0 := ho1.vers.stays RVer.stays BY
    have hpy0 := ho1.peers.stays RPeer.stays BY
    have y0 : (w1.alloc (.cells #[.slice a6 M.1.length c6, .slice a7 ps.length c7] 27)).cell? ⟨w1.heap.size, 0, none⟩ = some (.slice a6 M.1.length c6) := by go_simp
    have y1 : (w1.alloc (.cells #[.slice a6 M.1.length c6, .slice a7 ps.length c7] 27)).cell? ⟨w1.heap.size, 1, none⟩ = some (.slice a7 ps.length c7) := by go_simp
    generalize w1.alloc (.cells #[.slice a6 M.1.length c6, .slice a7 ps.length c7] 27) = w2 at *
    obtain ⟨B5, hB5⟩ : ∃ B5, B5 = w1.heap.size := ⟨_, rfl⟩
    rw [← hB5] at y0 y1 ⊢
    rw [← hq7] at hpy0
    clear hB5 ho1 hb1 hq7 BY hKE hMP
    obtain ⟨MB, MP⟩ := M
    simp only at hvy0 hpy0 y0 hc6 hm6 hk6 ⊢
    have hle : b.length ≤ MB.length := HK.out.le
    have HMV : Hid (meshV (MB, MP) = 0) := Lib.hid HK.out.mesh
    have HBT : Hid (IsVers w2 (.slice a6 b.length c6) b) := Lib.hid (by
      have h := IsRow.take hvy0 b.length hle
      rw [show MB.take b.length = b from HK.out.book] at h
      exact h)
    have HBB : Hid (eqBy verEq b b = true) := Lib.hid ((eqBy_iff verEq_iff).2 rfl)
    have HMR : Hid (b.length < MB.length → kd = 1) := Lib.hid HK.out.more
    have HPK : Hid (∀ (k : Nat) p, ps[k]? = some p → ((oneH (kd, n, pl, data, pr, need, of_) ∧ (k : Int) ≠ n) ∨ (¬ oneH (kd, n, pl, data, pr, need, of_) ∧ p.1 = false)) → MP[k]? = some p) := Lib.hid HK.out.peer
    obtain ⟨N, hN⟩ : ∃ N, N = MB.length := ⟨_, rfl⟩
    have HVY : Hid (∀ w', Since w2.heap.size w2 w' → IsVers w' (.slice a6 N c6) MB ∧ IsPeers w' (.slice a7 ps.length c7) MP ∧ IsVers w' (.slice a6 b.length c6) b) := Lib.hid (fun w' q => ⟨by rw [hN]; exact hvy0.stays RVer.stays q.below, hpy0.stays RPeer.stays q.below, HBT.out.stays RVer.stays q.below⟩)
    rw [← hN] at y0 hc6 hm6 hle HMR ⊢
    clear HK hvy0 hpy0 HBT hN
    have HS : Hid (∀ w', Since w2.heap.size w2 w' → w'.cell? ⟨B, 0, none⟩ = some (.slice a b.length c) ∧ w'.cell? ⟨B, 1, none⟩ = some (.slice a' ps.length c') ∧ w'.cell? ⟨B5, 0, none⟩ = some (.slice a6 N c6) ∧ w'.cell? ⟨B5, 1, none⟩ = some (.slice a7 ps.length c7) ∧ w'.cell? ⟨Bh, 0, none⟩ = some (.int .i64 kd) ∧ w'.cell? ⟨Bh, 1, none⟩ = some (.int .i64 n)) := Lib.hid (fun w' q => by
      have r := HF.out w' ⟨T2.below.trans (q.below.mono T2.2), Nat.le_trans T2.2 q.2⟩
      exact ⟨r.1, r.2.1, below_cell q.below y0, below_cell q.below y1, r.2.2.1, r.2.2.2.1⟩)
    have HBK : Hid (∀ w', Since w2.heap.size w2 w' → IsVers w' (.slice a6 b.length c6) b ∧ IsVers w' (.slice a b.length c) b) := Lib.hid (fun w' q => ⟨(HVY.out w' q).2.2, (HF.out w' ⟨T2.below.trans (q.below.mono T2.2), Nat.le_trans T2.2 q.2⟩).2.2.2.2.1⟩)
    have HPP : Hid (∀ w', Since w2.heap.size w2 w' → IsPeers w' (.slice a' ps.length c') ps) := Lib.hid (fun w' q => (HF.out w' ⟨T2.below.trans (q.below.mono T2.2), Nat.le_trans T2.2 q.2⟩).2.2.2.2.2)
    clear HF y0 y1
    go_upto_region 4 with (go_at_call 6; go_fit (HT.out w2); rintro e w3 ⟨rfl, hb3⟩)
    have T3 := (Since.refl w2).step hb3
    clear hb3
    have hH3 := HS.out w3 T3
    obtain ⟨x0, _⟩ := hH3
    go_upto_region 5 with fail
    clear x0
    have Tq : Since w2.heap.size w2 w3.drew := T3.drew
    have hH := HS.out _ Tq
    obtain ⟨hvy, hpy, _⟩ := HVY.out _ Tq
    have n1 : decide (N < b.length) = false := by simp; omega
    have n1i : decide ((N : Int) < (b.length : Int)) = false := by simp; omega
    have n2 : (0 : Int) ≤ (b.length : Int) := by omega
    have n3 : (b.length : Int) ≤ (c6 : Int) := by omega
    go_cut [72] (fun s72 wx => s72 = .bool false ∧ ∃ wz, wz = wx ∧ Since w3.heap.size w3 wx)
    case first =>
      by_cases hbig : b.length < N
      · have hk1 : (kd != 1) = false := by have := HMR.out hbig; simpa using this
        have n4 : decide (b.length < N) = true := by simp; omega
        have n4i : decide ((b.length : Int) < (N : Int)) = true := by simp; omega
        refine wp_region_held_drew (S := fun w' => w'.cell? ⟨B, 0, none⟩ = some (.slice a b.length c) ∧ w'.cell? ⟨B, 1, none⟩ = some (.slice a' ps.length c') ∧ w'.cell? ⟨B5, 0, none⟩ = some (.slice a6 N c6) ∧ w'.cell? ⟨B5, 1, none⟩ = some (.slice a7 ps.length c7) ∧ w'.cell? ⟨Bh, 0, none⟩ = some (.int .i64 kd) ∧ w'.cell? ⟨Bh, 1, none⟩ = some (.int .i64 n)) (by kernel_rfl) hH (fun _ => ?_)
        refine wpAnyH_take (i := 0) (v := ?vg0) rfl (by kernel_rfl) (by kernel_rfl) (by kernel_rfl) (fun _ _ _ h => h) (Or.inl ⟨by rfl, ?hyg0⟩) (by assumption) ?rg0
        case hyg0 => (intro w hSw; (try dsimp only at hSw); go_simp <;> with_reducible rfl)
        simp only [Act.put, List.setIfInBounds_toArray, List.set_cons_zero, List.set_cons_succ]
        refine wpAnyH_ready (rs := [1]) (by kernel_rfl) (by simp) ?_
        refine AllReadyH.cons (o := ?ocg1) ?hocg1 (fun K' hK' => ?kcg1) AllReadyH.nil
        case hocg1 => (simp only [List.getElem?_toArray, List.getElem?_cons_succ, List.getElem?_cons_zero]; rfl)
        go_simp
        go_at_call 7
        go_fit (meshCheck_any _ MB _ MP _ hvy hpy)
        rintro e wc ⟨rfl, hbc⟩
        rw [HMV.out]
        try go_wp2_with fail
        refine hK'.out _ _ (HS.out _ (Tq.step hbc)) (fun _ => ?_)
        clear hK' K'
        have Tc := Tq.step hbc
        have hHc := HS.out _ Tc
        refine wpAnyH_take (i := 2) (v := ?vcg2) rfl (by kernel_rfl) (by kernel_rfl) (by kernel_rfl) (fun _ _ _ h => h) (Or.inl ⟨by rfl, ?hycg2⟩) (by exact hHc) ?rcg2
        case hycg2 => (intro w hSw; (try dsimp only at hSw); go_simp <;> with_reducible rfl)
        simp only [Act.put, List.setIfInBounds_toArray, List.set_cons_zero, List.set_cons_succ]
        refine wpAnyH_take (i := 3) (v := ?vcg3) rfl (by kernel_rfl) (by kernel_rfl) (by kernel_rfl) (fun _ _ _ h => h) (Or.inl ⟨by rfl, ?hycg3⟩) (by exact hHc) ?rcg3
        case hycg3 => (intro w hSw; (try dsimp only at hSw); go_simp <;> with_reducible rfl)
        simp only [Act.put, List.setIfInBounds_toArray, List.set_cons_zero, List.set_cons_succ]
        refine wpAnyH_take (i := 4) (v := ?vcg4) rfl (by kernel_rfl) (by kernel_rfl) (by kernel_rfl) (fun _ _ _ h => h) (Or.inl ⟨by kernel_rfl, ?hycg4⟩) (by exact hHc) ?rcg4
        case hycg4 => (intro w hSw; (try dsimp only at hSw); go_simp <;> with_reducible rfl)
        simp only [Act.put, List.setIfInBounds_toArray, List.set_cons_zero, List.set_cons_succ]
        refine wpAnyH_take (i := 5) (v := ?vcg5) rfl (by kernel_rfl) (by kernel_rfl) (by kernel_rfl) (fun _ _ _ h => h) (Or.inl ⟨by kernel_rfl, ?hycg5⟩) (by exact hHc) ?rcg5
        case hycg5 => (intro w hSw; (try dsimp only at hSw); go_simp <;> with_reducible rfl)
        simp only [Act.put, List.setIfInBounds_toArray, List.set_cons_zero, List.set_cons_succ]
        refine wpAnyH_take (i := 6) (v := ?vcg6) rfl (by kernel_rfl) (by kernel_rfl) (by kernel_rfl) (fun _ _ _ h => h) (Or.inl ⟨by kernel_rfl, ?hycg6⟩) (by exact hHc) ?rcg6
        case hycg6 => (intro w hSw; (try dsimp only at hSw); go_simp <;> with_reducible rfl)
        simp only [Act.put, List.setIfInBounds_toArray, List.set_cons_zero, List.set_cons_succ]
        refine wpAnyH_take (i := 7) (v := ?vcg7) rfl (by kernel_rfl) (by kernel_rfl) (by kernel_rfl) (fun _ _ _ h => h) (Or.inl ⟨by kernel_rfl, ?hycg7⟩) (by exact hHc) ?rcg7
        case hycg7 => (intro w hSw; (try dsimp only at hSw); go_simp <;> with_reducible rfl)
        simp only [Act.put, List.setIfInBounds_toArray, List.set_cons_zero, List.set_cons_succ]
        refine wpAnyH_take (i := 8) (v := ?vcg8) rfl (by kernel_rfl) (by kernel_rfl) (by kernel_rfl) (fun _ _ _ h => h) (Or.inl ⟨by kernel_rfl, ?hycg8⟩) (by exact hHc) ?rcg8
        case hycg8 => (intro w hSw; (try dsimp only at hSw); go_simp <;> with_reducible rfl)
        simp only [Act.put, List.setIfInBounds_toArray, List.set_cons_zero, List.set_cons_succ]
        refine wpAnyH_take (i := 9) (v := ?vcg9) rfl (by kernel_rfl) (by kernel_rfl) (by kernel_rfl) (fun _ _ _ h => h) (Or.inl ⟨by kernel_rfl, ?hycg9⟩) (by exact hHc) ?rcg9
        case hycg9 => (intro w hSw; (try dsimp only at hSw); go_simp <;> with_reducible rfl)
        simp only [Act.put, List.setIfInBounds_toArray, List.set_cons_zero, List.set_cons_succ]
        refine wpAnyH_take (i := 10) (v := ?vcg10) rfl (by kernel_rfl) (by kernel_rfl) (by kernel_rfl) (fun _ _ _ h => h) (Or.inl ⟨by kernel_rfl, ?hycg10⟩) (by exact hHc) ?rcg10
        case hycg10 => (intro w hSw; (try dsimp only at hSw); go_simp <;> with_reducible rfl)
        simp only [Act.put, List.setIfInBounds_toArray, List.set_cons_zero, List.set_cons_succ]
        refine wpAnyH_take (i := 11) (v := ?vcg11) rfl (by kernel_rfl) (by kernel_rfl) (by kernel_rfl) (fun _ _ _ h => h) (Or.inl ⟨by rfl, ?hycg11⟩) (by exact hHc) ?rcg11
        case hycg11 => (intro w hSw; (try dsimp only at hSw); go_simp <;> with_reducible rfl)
        simp only [Act.put, List.setIfInBounds_toArray, List.set_cons_zero, List.set_cons_succ]
        refine wpAnyH_take (i := 12) (v := ?vcg12) rfl (by kernel_rfl) (by kernel_rfl) (by kernel_rfl) (fun _ _ _ h => h) (Or.inl ⟨by rfl, ?hycg12⟩) (by exact hHc) ?rcg12
        case hycg12 => (intro w hSw; (try dsimp only at hSw); go_simp <;> with_reducible rfl)
        simp only [Act.put, List.setIfInBounds_toArray, List.set_cons_zero, List.set_cons_succ]
        refine wpAnyH_take (i := 13) (v := ?vcg13) rfl (by kernel_rfl) (by kernel_rfl) (by kernel_rfl) (fun _ _ _ h => h) (Or.inl ⟨by kernel_rfl, ?hycg13⟩) (by exact hHc) ?rcg13
        case hycg13 => (intro w hSw; (try dsimp only at hSw); go_simp <;> with_reducible rfl)
        simp only [Act.put, List.setIfInBounds_toArray, List.set_cons_zero, List.set_cons_succ]
        refine wpAnyH_take (i := 14) (v := ?vcg14) rfl (by kernel_rfl) (by kernel_rfl) (by kernel_rfl) (fun _ _ _ h => h) (Or.inl ⟨by kernel_rfl, ?hycg14⟩) (by exact hHc) ?rcg14
        case hycg14 => (intro w hSw; (try dsimp only at hSw); go_simp <;> with_reducible rfl)
        simp only [Act.put, List.setIfInBounds_toArray, List.set_cons_zero, List.set_cons_succ]
        refine wpAnyH_take (i := 15) (v := ?vcg15) rfl (by kernel_rfl) (by kernel_rfl) (by kernel_rfl) (fun _ _ _ h => h) (Or.inl ⟨by kernel_rfl, ?hycg15⟩) (by exact hHc) ?rcg15
        case hycg15 => (intro w hSw; (try dsimp only at hSw); go_simp <;> with_reducible rfl)
        simp only [Act.put, List.setIfInBounds_toArray, List.set_cons_zero, List.set_cons_succ]
        refine wpAnyH_take (i := 16) (v := ?vcg16) rfl (by kernel_rfl) (by kernel_rfl) (by kernel_rfl) (fun _ _ _ h => h) (Or.inl ⟨by kernel_rfl, ?hycg16⟩) (by exact hHc) ?rcg16
        case hycg16 => (intro w hSw; (try dsimp only at hSw); go_simp <;> with_reducible rfl)
        simp only [Act.put, List.setIfInBounds_toArray, List.set_cons_zero, List.set_cons_succ]
        refine wpAnyH_take (i := 17) (v := ?vcg17) rfl (by kernel_rfl) (by kernel_rfl) (by kernel_rfl) (fun _ _ _ h => h) (Or.inl ⟨by kernel_rfl, ?hycg17⟩) (by exact hHc) ?rcg17
        case hycg17 => (intro w hSw; (try dsimp only at hSw); go_simp <;> with_reducible rfl)
        simp only [Act.put, List.setIfInBounds_toArray, List.set_cons_zero, List.set_cons_succ]
        refine wpAnyH_take (i := 18) (v := ?vcg18) rfl (by kernel_rfl) (by kernel_rfl) (by kernel_rfl) (fun _ _ _ h => h) (Or.inl ⟨by kernel_rfl, ?hycg18⟩) (by exact hHc) ?rcg18
        case hycg18 => (intro w hSw; (try dsimp only at hSw); go_simp <;> with_reducible rfl)
        simp only [Act.put, List.setIfInBounds_toArray, List.set_cons_zero, List.set_cons_succ]
        refine wpAnyH_take (i := 19) (v := ?vcg19) rfl (by kernel_rfl) (by kernel_rfl) (by kernel_rfl) (fun _ _ _ h => h) (Or.inl ⟨by rfl, ?hycg19⟩) (by exact hHc) ?rcg19
        case hycg19 => (intro w hSw; (try dsimp only at hSw); go_simp <;> with_reducible rfl)
        simp only [Act.put, List.setIfInBounds_toArray, List.set_cons_zero, List.set_cons_succ]
        refine wpAnyH_take (i := 20) (v := ?vcg20) rfl (by kernel_rfl) (by kernel_rfl) (by kernel_rfl) (fun _ _ _ h => h) (Or.inl ⟨by rfl, ?hycg20⟩) (by exact hHc) ?rcg20
        case hycg20 => (intro w hSw; (try dsimp only at hSw); go_simp <;> with_reducible rfl)
        simp only [Act.put, List.setIfInBounds_toArray, List.set_cons_zero, List.set_cons_succ]
        refine wpAnyH_take (i := 21) (v := ?vcg21) rfl (by kernel_rfl) (by kernel_rfl) (by kernel_rfl) (fun _ _ _ h => h) (Or.inl ⟨by kernel_rfl, ?hycg21⟩) (by exact hHc) ?rcg21
        case hycg21 => (intro w hSw; (try dsimp only at hSw); go_simp <;> with_reducible rfl)
        simp only [Act.put, List.setIfInBounds_toArray, List.set_cons_zero, List.set_cons_succ]
        refine wpAnyH_take (i := 22) (v := ?vcg22) rfl (by kernel_rfl) (by kernel_rfl) (by kernel_rfl) (fun _ _ _ h => h) (Or.inl ⟨by kernel_rfl, ?hycg22⟩) (by exact hHc) ?rcg22
        case hycg22 => (intro w hSw; (try dsimp only at hSw); go_simp <;> with_reducible rfl)
        simp only [Act.put, List.setIfInBounds_toArray, List.set_cons_zero, List.set_cons_succ]
        refine wpAnyH_take (i := 23) (v := ?vcg23) rfl (by kernel_rfl) (by kernel_rfl) (by kernel_rfl) (fun _ _ _ h => h) (Or.inl ⟨by kernel_rfl, ?hycg23⟩) (by exact hHc) ?rcg23
        case hycg23 => (intro w hSw; (try dsimp only at hSw); go_simp <;> with_reducible rfl)
        simp only [Act.put, List.setIfInBounds_toArray, List.set_cons_zero, List.set_cons_succ]
        refine wpAnyH_take (i := 24) (v := ?vcg24) rfl (by kernel_rfl) (by kernel_rfl) (by kernel_rfl) (fun _ _ _ h => h) (Or.inl ⟨by kernel_rfl, ?hycg24⟩) (by exact hHc) ?rcg24
        case hycg24 => (intro w hSw; (try dsimp only at hSw); go_simp <;> with_reducible rfl)
        simp only [Act.put, List.setIfInBounds_toArray, List.set_cons_zero, List.set_cons_succ]
        refine wpAnyH_take (i := 25) (v := ?vcg25) rfl (by kernel_rfl) (by kernel_rfl) (by kernel_rfl) (fun _ _ _ h => h) (Or.inl ⟨by kernel_rfl, ?hycg25⟩) (by exact hHc) ?rcg25
        case hycg25 => (intro w hSw; (try dsimp only at hSw); go_simp <;> with_reducible rfl)
        simp only [Act.put, List.setIfInBounds_toArray, List.set_cons_zero, List.set_cons_succ]
        refine wpAnyH_take (i := 26) (v := ?vcg26) rfl (by kernel_rfl) (by kernel_rfl) (by kernel_rfl) (fun _ _ _ h => h) (Or.inl ⟨by kernel_rfl, ?hycg26⟩) (by exact hHc) ?rcg26
        case hycg26 => (intro w hSw; (try dsimp only at hSw); go_simp <;> with_reducible rfl)
        simp only [Act.put, List.setIfInBounds_toArray, List.set_cons_zero, List.set_cons_succ]
        refine wpAnyH_take (i := 27) (v := ?vcg27) rfl (by kernel_rfl) (by kernel_rfl) (by kernel_rfl) (fun _ _ _ h => h) (Or.inl ⟨by kernel_rfl, ?hycg27⟩) (by exact hHc) ?rcg27
        case hycg27 => (intro w hSw; (try dsimp only at hSw); go_simp <;> with_reducible rfl)
        simp only [Act.put, List.setIfInBounds_toArray, List.set_cons_zero, List.set_cons_succ]
        refine wpAnyH_take (i := 28) (v := ?vcg28) rfl (by kernel_rfl) (by kernel_rfl) (by kernel_rfl) (fun _ _ _ h => h) (Or.inl ⟨by kernel_rfl, ?hycg28⟩) (by exact hHc) ?rcg28
        case hycg28 => (intro w hSw; (try dsimp only at hSw); go_simp <;> with_reducible rfl)
        simp only [Act.put, List.setIfInBounds_toArray, List.set_cons_zero, List.set_cons_succ]
        refine wpAnyH_ready (rs := [29]) (by kernel_rfl) (by simp) ?_
        refine AllReadyH.cons (o := ?odg29) ?hodg29 (fun K' hK' => ?kdg29) AllReadyH.nil
        case hodg29 => (simp only [List.getElem?_toArray, List.getElem?_cons_succ, List.getElem?_cons_zero]; rfl)
        go_simp
        go_at_call 8
        go_fit (Same_book _ _ b b _ (HBK.out _ Tc).1 (HBK.out _ Tc).2)
        rintro e wd ⟨rfl, hbd⟩
        rw [HBB.out]
        try go_wp2_with fail
        refine hK'.out _ _ (HS.out _ (Tc.step hbd)) (fun _ => ?_)
        clear hK' K'
        have Td := Tc.step hbd
        have hHd := HS.out _ Td
        refine wpAnyH_take (i := 30) (v := ?vdg30) rfl (by kernel_rfl) (by kernel_rfl) (by kernel_rfl) (fun _ _ _ h => h) (Or.inl ⟨by kernel_rfl, ?hydg30⟩) (by exact hHd) ?rdg30
        case hydg30 => (intro w hSw; (try dsimp only at hSw); go_simp <;> with_reducible rfl)
        simp only [Act.put, List.setIfInBounds_toArray, List.set_cons_zero, List.set_cons_succ]
        refine wpAnyH_take (i := 31) (v := ?vdg31) rfl (by kernel_rfl) (by kernel_rfl) (by kernel_rfl) (fun _ _ _ h => h) (Or.inl ⟨by rfl, ?hydg31⟩) (by exact hHd) ?rdg31
        case hydg31 => (intro w hSw; (try dsimp only at hSw); go_simp <;> with_reducible rfl)
        simp only [Act.put, List.setIfInBounds_toArray, List.set_cons_zero, List.set_cons_succ]
        refine wpAnyH_take (i := 32) (v := ?vdg32) rfl (by kernel_rfl) (by kernel_rfl) (by kernel_rfl) (fun _ _ _ h => h) (Or.inl ⟨by rfl, ?hydg32⟩) (by exact hHd) ?rdg32
        case hydg32 => (intro w hSw; (try dsimp only at hSw); go_simp <;> with_reducible rfl)
        simp only [Act.put, List.setIfInBounds_toArray, List.set_cons_zero, List.set_cons_succ]
        refine wpAnyH_take (i := 33) (v := ?vdg33) rfl (by kernel_rfl) (by kernel_rfl) (by kernel_rfl) (fun _ _ _ h => h) (Or.inl ⟨by kernel_rfl, ?hydg33⟩) (by exact hHd) ?rdg33
        case hydg33 => (intro w hSw; (try dsimp only at hSw); go_simp <;> with_reducible rfl)
        simp only [Act.put, List.setIfInBounds_toArray, List.set_cons_zero, List.set_cons_succ]
        refine wpAnyH_take (i := 34) (v := ?vdg34) rfl (by kernel_rfl) (by kernel_rfl) (by kernel_rfl) (fun _ _ _ h => h) (Or.inl ⟨by kernel_rfl, ?hydg34⟩) (by exact hHd) ?rdg34
        case hydg34 => (intro w hSw; (try dsimp only at hSw); go_simp <;> with_reducible rfl)
        simp only [Act.put, List.setIfInBounds_toArray, List.set_cons_zero, List.set_cons_succ]
        refine wpAnyH_take (i := 35) (v := ?vdg35) rfl (by kernel_rfl) (by kernel_rfl) (by kernel_rfl) (fun _ _ _ h => h) (Or.inl ⟨by kernel_rfl, ?hydg35⟩) (by exact hHd) ?rdg35
        case hydg35 => (intro w hSw; (try dsimp only at hSw); go_simp <;> with_reducible rfl)
        simp only [Act.put, List.setIfInBounds_toArray, List.set_cons_zero, List.set_cons_succ]
        refine wpAnyH_take (i := 36) (v := ?vdg36) rfl (by kernel_rfl) (by kernel_rfl) (by kernel_rfl) (fun _ _ _ h => h) (Or.inl ⟨by kernel_rfl, ?hydg36⟩) (by exact hHd) ?rdg36
        case hydg36 => (intro w hSw; (try dsimp only at hSw); go_simp <;> with_reducible rfl)
        simp only [Act.put, List.setIfInBounds_toArray, List.set_cons_zero, List.set_cons_succ]
        refine wpAnyH_take (i := 37) (v := ?vdg37) rfl (by kernel_rfl) (by kernel_rfl) (by kernel_rfl) (fun _ _ _ h => h) (Or.inl ⟨by kernel_rfl, ?hydg37⟩) (by exact hHd) ?rdg37
        case hydg37 => (intro w hSw; (try dsimp only at hSw); go_simp <;> with_reducible rfl)
        simp only [Act.put, List.setIfInBounds_toArray, List.set_cons_zero, List.set_cons_succ]
        refine wpAnyH_take (i := 38) (v := ?vdg38) rfl (by kernel_rfl) (by kernel_rfl) (by kernel_rfl) (fun _ _ _ h => h) (Or.inl ⟨by kernel_rfl, ?hydg38⟩) (by exact hHd) ?rdg38
        case hydg38 => (intro w hSw; (try dsimp only at hSw); go_simp <;> with_reducible rfl)
        simp only [Act.put, List.setIfInBounds_toArray, List.set_cons_zero, List.set_cons_succ]
        refine wpAnyH_take (i := 39) (v := ?vdg39) rfl (by kernel_rfl) (by kernel_rfl) (by kernel_rfl) (fun _ _ _ h => h) (Or.inl ⟨by kernel_rfl, ?hydg39⟩) (by exact hHd) ?rdg39
        case hydg39 => (intro w hSw; (try dsimp only at hSw); go_simp <;> with_reducible rfl)
        simp only [Act.put, List.setIfInBounds_toArray, List.set_cons_zero, List.set_cons_succ]
        refine wpAnyH_take (i := 40) (v := ?vdg40) rfl (by kernel_rfl) (by kernel_rfl) (by kernel_rfl) (fun _ _ _ h => h) (Or.inl ⟨by kernel_rfl, ?hydg40⟩) (by exact hHd) ?rdg40
        case hydg40 => (intro w hSw; (try dsimp only at hSw); go_simp <;> with_reducible rfl)
        simp only [Act.put, List.setIfInBounds_toArray, List.set_cons_zero, List.set_cons_succ]
        refine wpAnyH_take (i := 41) (v := ?vdg41) rfl (by kernel_rfl) (by kernel_rfl) (by kernel_rfl) (fun _ _ _ h => h) (Or.inl ⟨by kernel_rfl, ?hydg41⟩) (by exact hHd) ?rdg41
        case hydg41 => (intro w hSw; (try dsimp only at hSw); go_simp <;> with_reducible rfl)
        simp only [Act.put, List.setIfInBounds_toArray, List.set_cons_zero, List.set_cons_succ]
        refine wpAnyH_take (i := 42) (v := ?vdg42) rfl (by kernel_rfl) (by kernel_rfl) (by kernel_rfl) (fun _ _ _ h => h) (Or.inl ⟨by kernel_rfl, ?hydg42⟩) (by exact hHd) ?rdg42
        case hydg42 => (intro w hSw; (try dsimp only at hSw); go_simp <;> with_reducible rfl)
        simp only [Act.put, List.setIfInBounds_toArray, List.set_cons_zero, List.set_cons_succ]
        refine wpAnyH_take (i := 43) (v := ?vdg43) rfl (by kernel_rfl) (by kernel_rfl) (by kernel_rfl) (fun _ _ _ h => h) (Or.inl ⟨by kernel_rfl, ?hydg43⟩) (by exact hHd) ?rdg43
        case hydg43 => (intro w hSw; (try dsimp only at hSw); go_simp <;> with_reducible rfl)
        simp only [Act.put, List.setIfInBounds_toArray, List.set_cons_zero, List.set_cons_succ]
        refine wpAnyH_take (i := 44) (v := ?vdg44) rfl (by kernel_rfl) (by kernel_rfl) (by kernel_rfl) (fun _ _ _ h => h) (Or.inl ⟨by rfl, ?hydg44⟩) (by exact hHd) ?rdg44
        case hydg44 => (intro w hSw; (try dsimp only at hSw); go_simp <;> with_reducible rfl)
        simp only [Act.put, List.setIfInBounds_toArray, List.set_cons_zero, List.set_cons_succ]
        refine wpAnyH_done (by kernel_rfl) ?_ _
        go_simp
        go_wp2_with fail
        go_meet
        exact ⟨by first | rfl | (simp; omega), _, rfl, ((Since.refl w3).drew.step hbc).step hbd⟩
      · have n4 : decide (b.length < N) = false := by simp; omega
        have n4i : decide ((b.length : Int) < (N : Int)) = false := by simp; omega
        refine wp_region_held_drew (S := fun w' => w'.cell? ⟨B, 0, none⟩ = some (.slice a b.length c) ∧ w'.cell? ⟨B, 1, none⟩ = some (.slice a' ps.length c') ∧ w'.cell? ⟨B5, 0, none⟩ = some (.slice a6 N c6) ∧ w'.cell? ⟨B5, 1, none⟩ = some (.slice a7 ps.length c7) ∧ w'.cell? ⟨Bh, 0, none⟩ = some (.int .i64 kd) ∧ w'.cell? ⟨Bh, 1, none⟩ = some (.int .i64 n)) (by kernel_rfl) hH (fun _ => ?_)
        refine wpAnyH_take (i := 0) (v := ?vh0) rfl (by kernel_rfl) (by kernel_rfl) (by kernel_rfl) (fun _ _ _ h => h) (Or.inl ⟨by rfl, ?hyh0⟩) (by assumption) ?rh0
        case hyh0 => (intro w hSw; (try dsimp only at hSw); go_simp <;> with_reducible rfl)
        simp only [Act.put, List.setIfInBounds_toArray, List.set_cons_zero, List.set_cons_succ]
        refine wpAnyH_ready (rs := [1]) (by kernel_rfl) (by simp) ?_
        refine AllReadyH.cons (o := ?och1) ?hoch1 (fun K' hK' => ?kch1) AllReadyH.nil
        case hoch1 => (simp only [List.getElem?_toArray, List.getElem?_cons_succ, List.getElem?_cons_zero]; rfl)
        go_simp
        go_at_call 7
        go_fit (meshCheck_any _ MB _ MP _ hvy hpy)
        rintro e wc ⟨rfl, hbc⟩
        rw [HMV.out]
        try go_wp2_with fail
        refine hK'.out _ _ (HS.out _ (Tq.step hbc)) (fun _ => ?_)
        clear hK' K'
        have Tc := Tq.step hbc
        have hHc := HS.out _ Tc
        refine wpAnyH_take (i := 2) (v := ?vch2) rfl (by kernel_rfl) (by kernel_rfl) (by kernel_rfl) (fun _ _ _ h => h) (Or.inl ⟨by rfl, ?hych2⟩) (by exact hHc) ?rch2
        case hych2 => (intro w hSw; (try dsimp only at hSw); go_simp <;> with_reducible rfl)
        simp only [Act.put, List.setIfInBounds_toArray, List.set_cons_zero, List.set_cons_succ]
        refine wpAnyH_take (i := 3) (v := ?vch3) rfl (by kernel_rfl) (by kernel_rfl) (by kernel_rfl) (fun _ _ _ h => h) (Or.inl ⟨by rfl, ?hych3⟩) (by exact hHc) ?rch3
        case hych3 => (intro w hSw; (try dsimp only at hSw); go_simp <;> with_reducible rfl)
        simp only [Act.put, List.setIfInBounds_toArray, List.set_cons_zero, List.set_cons_succ]
        refine wpAnyH_take (i := 4) (v := ?vch4) rfl (by kernel_rfl) (by kernel_rfl) (by kernel_rfl) (fun _ _ _ h => h) (Or.inl ⟨by kernel_rfl, ?hych4⟩) (by exact hHc) ?rch4
        case hych4 => (intro w hSw; (try dsimp only at hSw); go_simp <;> with_reducible rfl)
        simp only [Act.put, List.setIfInBounds_toArray, List.set_cons_zero, List.set_cons_succ]
        refine wpAnyH_take (i := 5) (v := ?vch5) rfl (by kernel_rfl) (by kernel_rfl) (by kernel_rfl) (fun _ _ _ h => h) (Or.inl ⟨by kernel_rfl, ?hych5⟩) (by exact hHc) ?rch5
        case hych5 => (intro w hSw; (try dsimp only at hSw); go_simp <;> with_reducible rfl)
        simp only [Act.put, List.setIfInBounds_toArray, List.set_cons_zero, List.set_cons_succ]
        refine wpAnyH_take (i := 6) (v := ?vch6) rfl (by kernel_rfl) (by kernel_rfl) (by kernel_rfl) (fun _ _ _ h => h) (Or.inl ⟨by kernel_rfl, ?hych6⟩) (by exact hHc) ?rch6
        case hych6 => (intro w hSw; (try dsimp only at hSw); go_simp <;> with_reducible rfl)
        simp only [Act.put, List.setIfInBounds_toArray, List.set_cons_zero, List.set_cons_succ]
        refine wpAnyH_take (i := 7) (v := ?vch7) rfl (by kernel_rfl) (by kernel_rfl) (by kernel_rfl) (fun _ _ _ h => h) (Or.inl ⟨by kernel_rfl, ?hych7⟩) (by exact hHc) ?rch7
        case hych7 => (intro w hSw; (try dsimp only at hSw); go_simp <;> with_reducible rfl)
        simp only [Act.put, List.setIfInBounds_toArray, List.set_cons_zero, List.set_cons_succ]
        refine wpAnyH_take (i := 8) (v := ?vch8) rfl (by kernel_rfl) (by kernel_rfl) (by kernel_rfl) (fun _ _ _ h => h) (Or.inl ⟨by kernel_rfl, ?hych8⟩) (by exact hHc) ?rch8
        case hych8 => (intro w hSw; (try dsimp only at hSw); go_simp <;> with_reducible rfl)
        simp only [Act.put, List.setIfInBounds_toArray, List.set_cons_zero, List.set_cons_succ]
        refine wpAnyH_take (i := 9) (v := ?vch9) rfl (by kernel_rfl) (by kernel_rfl) (by kernel_rfl) (fun _ _ _ h => h) (Or.inl ⟨by kernel_rfl, ?hych9⟩) (by exact hHc) ?rch9
        case hych9 => (intro w hSw; (try dsimp only at hSw); go_simp <;> with_reducible rfl)
        simp only [Act.put, List.setIfInBounds_toArray, List.set_cons_zero, List.set_cons_succ]
        refine wpAnyH_take (i := 10) (v := ?vch10) rfl (by kernel_rfl) (by kernel_rfl) (by kernel_rfl) (fun _ _ _ h => h) (Or.inl ⟨by kernel_rfl, ?hych10⟩) (by exact hHc) ?rch10
        case hych10 => (intro w hSw; (try dsimp only at hSw); go_simp <;> with_reducible rfl)
        simp only [Act.put, List.setIfInBounds_toArray, List.set_cons_zero, List.set_cons_succ]
        refine wpAnyH_take (i := 11) (v := ?vch11) rfl (by kernel_rfl) (by kernel_rfl) (by kernel_rfl) (fun _ _ _ h => h) (Or.inl ⟨by rfl, ?hych11⟩) (by exact hHc) ?rch11
        case hych11 => (intro w hSw; (try dsimp only at hSw); go_simp <;> with_reducible rfl)
        simp only [Act.put, List.setIfInBounds_toArray, List.set_cons_zero, List.set_cons_succ]
        refine wpAnyH_take (i := 12) (v := ?vch12) rfl (by kernel_rfl) (by kernel_rfl) (by kernel_rfl) (fun _ _ _ h => h) (Or.inl ⟨by rfl, ?hych12⟩) (by exact hHc) ?rch12
        case hych12 => (intro w hSw; (try dsimp only at hSw); go_simp <;> with_reducible rfl)
        simp only [Act.put, List.setIfInBounds_toArray, List.set_cons_zero, List.set_cons_succ]
        refine wpAnyH_take (i := 13) (v := ?vch13) rfl (by kernel_rfl) (by kernel_rfl) (by kernel_rfl) (fun _ _ _ h => h) (Or.inl ⟨by kernel_rfl, ?hych13⟩) (by exact hHc) ?rch13
        case hych13 => (intro w hSw; (try dsimp only at hSw); go_simp <;> with_reducible rfl)
        simp only [Act.put, List.setIfInBounds_toArray, List.set_cons_zero, List.set_cons_succ]
        refine wpAnyH_take (i := 14) (v := ?vch14) rfl (by kernel_rfl) (by kernel_rfl) (by kernel_rfl) (fun _ _ _ h => h) (Or.inl ⟨by kernel_rfl, ?hych14⟩) (by exact hHc) ?rch14
        case hych14 => (intro w hSw; (try dsimp only at hSw); go_simp <;> with_reducible rfl)
        simp only [Act.put, List.setIfInBounds_toArray, List.set_cons_zero, List.set_cons_succ]
        refine wpAnyH_take (i := 15) (v := ?vch15) rfl (by kernel_rfl) (by kernel_rfl) (by kernel_rfl) (fun _ _ _ h => h) (Or.inl ⟨by kernel_rfl, ?hych15⟩) (by exact hHc) ?rch15
        case hych15 => (intro w hSw; (try dsimp only at hSw); go_simp <;> with_reducible rfl)
        simp only [Act.put, List.setIfInBounds_toArray, List.set_cons_zero, List.set_cons_succ]
        refine wpAnyH_take (i := 16) (v := ?vch16) rfl (by kernel_rfl) (by kernel_rfl) (by kernel_rfl) (fun _ _ _ h => h) (Or.inl ⟨by kernel_rfl, ?hych16⟩) (by exact hHc) ?rch16
        case hych16 => (intro w hSw; (try dsimp only at hSw); go_simp <;> with_reducible rfl)
        simp only [Act.put, List.setIfInBounds_toArray, List.set_cons_zero, List.set_cons_succ]
        refine wpAnyH_take (i := 17) (v := ?vch17) rfl (by kernel_rfl) (by kernel_rfl) (by kernel_rfl) (fun _ _ _ h => h) (Or.inl ⟨by kernel_rfl, ?hych17⟩) (by exact hHc) ?rch17
        case hych17 => (intro w hSw; (try dsimp only at hSw); go_simp <;> with_reducible rfl)
        simp only [Act.put, List.setIfInBounds_toArray, List.set_cons_zero, List.set_cons_succ]
        refine wpAnyH_take (i := 18) (v := ?vch18) rfl (by kernel_rfl) (by kernel_rfl) (by kernel_rfl) (fun _ _ _ h => h) (Or.inl ⟨by kernel_rfl, ?hych18⟩) (by exact hHc) ?rch18
        case hych18 => (intro w hSw; (try dsimp only at hSw); go_simp <;> with_reducible rfl)
        simp only [Act.put, List.setIfInBounds_toArray, List.set_cons_zero, List.set_cons_succ]
        refine wpAnyH_take (i := 19) (v := ?vch19) rfl (by kernel_rfl) (by kernel_rfl) (by kernel_rfl) (fun _ _ _ h => h) (Or.inl ⟨by rfl, ?hych19⟩) (by exact hHc) ?rch19
        case hych19 => (intro w hSw; (try dsimp only at hSw); go_simp <;> with_reducible rfl)
        simp only [Act.put, List.setIfInBounds_toArray, List.set_cons_zero, List.set_cons_succ]
        refine wpAnyH_take (i := 20) (v := ?vch20) rfl (by kernel_rfl) (by kernel_rfl) (by kernel_rfl) (fun _ _ _ h => h) (Or.inl ⟨by rfl, ?hych20⟩) (by exact hHc) ?rch20
        case hych20 => (intro w hSw; (try dsimp only at hSw); go_simp <;> with_reducible rfl)
        simp only [Act.put, List.setIfInBounds_toArray, List.set_cons_zero, List.set_cons_succ]
        refine wpAnyH_take (i := 21) (v := ?vch21) rfl (by kernel_rfl) (by kernel_rfl) (by kernel_rfl) (fun _ _ _ h => h) (Or.inl ⟨by kernel_rfl, ?hych21⟩) (by exact hHc) ?rch21
        case hych21 => (intro w hSw; (try dsimp only at hSw); go_simp <;> with_reducible rfl)
        simp only [Act.put, List.setIfInBounds_toArray, List.set_cons_zero, List.set_cons_succ]
        refine wpAnyH_take (i := 22) (v := ?vch22) rfl (by kernel_rfl) (by kernel_rfl) (by kernel_rfl) (fun _ _ _ h => h) (Or.inl ⟨by kernel_rfl, ?hych22⟩) (by exact hHc) ?rch22
        case hych22 => (intro w hSw; (try dsimp only at hSw); go_simp <;> with_reducible rfl)
        simp only [Act.put, List.setIfInBounds_toArray, List.set_cons_zero, List.set_cons_succ]
        refine wpAnyH_take (i := 23) (v := ?vch23) rfl (by kernel_rfl) (by kernel_rfl) (by kernel_rfl) (fun _ _ _ h => h) (Or.inl ⟨by kernel_rfl, ?hych23⟩) (by exact hHc) ?rch23
        case hych23 => (intro w hSw; (try dsimp only at hSw); go_simp <;> with_reducible rfl)
        simp only [Act.put, List.setIfInBounds_toArray, List.set_cons_zero, List.set_cons_succ]
        refine wpAnyH_take (i := 24) (v := ?vch24) rfl (by kernel_rfl) (by kernel_rfl) (by kernel_rfl) (fun _ _ _ h => h) (Or.inl ⟨by kernel_rfl, ?hych24⟩) (by exact hHc) ?rch24
        case hych24 => (intro w hSw; (try dsimp only at hSw); go_simp <;> with_reducible rfl)
        simp only [Act.put, List.setIfInBounds_toArray, List.set_cons_zero, List.set_cons_succ]
        refine wpAnyH_take (i := 25) (v := ?vch25) rfl (by kernel_rfl) (by kernel_rfl) (by kernel_rfl) (fun _ _ _ h => h) (Or.inl ⟨by kernel_rfl, ?hych25⟩) (by exact hHc) ?rch25
        case hych25 => (intro w hSw; (try dsimp only at hSw); go_simp <;> with_reducible rfl)
        simp only [Act.put, List.setIfInBounds_toArray, List.set_cons_zero, List.set_cons_succ]
        refine wpAnyH_take (i := 26) (v := ?vch26) rfl (by kernel_rfl) (by kernel_rfl) (by kernel_rfl) (fun _ _ _ h => h) (Or.inl ⟨by kernel_rfl, ?hych26⟩) (by exact hHc) ?rch26
        case hych26 => (intro w hSw; (try dsimp only at hSw); go_simp <;> with_reducible rfl)
        simp only [Act.put, List.setIfInBounds_toArray, List.set_cons_zero, List.set_cons_succ]
        refine wpAnyH_take (i := 27) (v := ?vch27) rfl (by kernel_rfl) (by kernel_rfl) (by kernel_rfl) (fun _ _ _ h => h) (Or.inl ⟨by kernel_rfl, ?hych27⟩) (by exact hHc) ?rch27
        case hych27 => (intro w hSw; (try dsimp only at hSw); go_simp <;> with_reducible rfl)
        simp only [Act.put, List.setIfInBounds_toArray, List.set_cons_zero, List.set_cons_succ]
        refine wpAnyH_take (i := 28) (v := ?vch28) rfl (by kernel_rfl) (by kernel_rfl) (by kernel_rfl) (fun _ _ _ h => h) (Or.inl ⟨by kernel_rfl, ?hych28⟩) (by exact hHc) ?rch28
        case hych28 => (intro w hSw; (try dsimp only at hSw); go_simp <;> with_reducible rfl)
        simp only [Act.put, List.setIfInBounds_toArray, List.set_cons_zero, List.set_cons_succ]
        refine wpAnyH_ready (rs := [29]) (by kernel_rfl) (by simp) ?_
        refine AllReadyH.cons (o := ?odh29) ?hodh29 (fun K' hK' => ?kdh29) AllReadyH.nil
        case hodh29 => (simp only [List.getElem?_toArray, List.getElem?_cons_succ, List.getElem?_cons_zero]; rfl)
        go_simp
        go_at_call 8
        go_fit (Same_book _ _ b b _ (HBK.out _ Tc).1 (HBK.out _ Tc).2)
        rintro e wd ⟨rfl, hbd⟩
        rw [HBB.out]
        try go_wp2_with fail
        refine hK'.out _ _ (HS.out _ (Tc.step hbd)) (fun _ => ?_)
        clear hK' K'
        have Td := Tc.step hbd
        have hHd := HS.out _ Td
        refine wpAnyH_take (i := 30) (v := ?vdh30) rfl (by kernel_rfl) (by kernel_rfl) (by kernel_rfl) (fun _ _ _ h => h) (Or.inl ⟨by kernel_rfl, ?hydh30⟩) (by exact hHd) ?rdh30
        case hydh30 => (intro w hSw; (try dsimp only at hSw); go_simp <;> with_reducible rfl)
        simp only [Act.put, List.setIfInBounds_toArray, List.set_cons_zero, List.set_cons_succ]
        refine wpAnyH_take (i := 31) (v := ?vdh31) rfl (by kernel_rfl) (by kernel_rfl) (by kernel_rfl) (fun _ _ _ h => h) (Or.inl ⟨by rfl, ?hydh31⟩) (by exact hHd) ?rdh31
        case hydh31 => (intro w hSw; (try dsimp only at hSw); go_simp <;> with_reducible rfl)
        simp only [Act.put, List.setIfInBounds_toArray, List.set_cons_zero, List.set_cons_succ]
        refine wpAnyH_take (i := 32) (v := ?vdh32) rfl (by kernel_rfl) (by kernel_rfl) (by kernel_rfl) (fun _ _ _ h => h) (Or.inl ⟨by rfl, ?hydh32⟩) (by exact hHd) ?rdh32
        case hydh32 => (intro w hSw; (try dsimp only at hSw); go_simp <;> with_reducible rfl)
        simp only [Act.put, List.setIfInBounds_toArray, List.set_cons_zero, List.set_cons_succ]
        refine wpAnyH_take (i := 33) (v := ?vdh33) rfl (by kernel_rfl) (by kernel_rfl) (by kernel_rfl) (fun _ _ _ h => h) (Or.inl ⟨by kernel_rfl, ?hydh33⟩) (by exact hHd) ?rdh33
        case hydh33 => (intro w hSw; (try dsimp only at hSw); go_simp <;> with_reducible rfl)
        simp only [Act.put, List.setIfInBounds_toArray, List.set_cons_zero, List.set_cons_succ]
        refine wpAnyH_take (i := 34) (v := ?vdh34) rfl (by kernel_rfl) (by kernel_rfl) (by kernel_rfl) (fun _ _ _ h => h) (Or.inl ⟨by kernel_rfl, ?hydh34⟩) (by exact hHd) ?rdh34
        case hydh34 => (intro w hSw; (try dsimp only at hSw); go_simp <;> with_reducible rfl)
        simp only [Act.put, List.setIfInBounds_toArray, List.set_cons_zero, List.set_cons_succ]
        refine wpAnyH_take (i := 35) (v := ?vdh35) rfl (by kernel_rfl) (by kernel_rfl) (by kernel_rfl) (fun _ _ _ h => h) (Or.inl ⟨by kernel_rfl, ?hydh35⟩) (by exact hHd) ?rdh35
        case hydh35 => (intro w hSw; (try dsimp only at hSw); go_simp <;> with_reducible rfl)
        simp only [Act.put, List.setIfInBounds_toArray, List.set_cons_zero, List.set_cons_succ]
        refine wpAnyH_take (i := 36) (v := ?vdh36) rfl (by kernel_rfl) (by kernel_rfl) (by kernel_rfl) (fun _ _ _ h => h) (Or.inl ⟨by kernel_rfl, ?hydh36⟩) (by exact hHd) ?rdh36
        case hydh36 => (intro w hSw; (try dsimp only at hSw); go_simp <;> with_reducible rfl)
        simp only [Act.put, List.setIfInBounds_toArray, List.set_cons_zero, List.set_cons_succ]
        refine wpAnyH_take (i := 37) (v := ?vdh37) rfl (by kernel_rfl) (by kernel_rfl) (by kernel_rfl) (fun _ _ _ h => h) (Or.inl ⟨by kernel_rfl, ?hydh37⟩) (by exact hHd) ?rdh37
        case hydh37 => (intro w hSw; (try dsimp only at hSw); go_simp <;> with_reducible rfl)
        simp only [Act.put, List.setIfInBounds_toArray, List.set_cons_zero, List.set_cons_succ]
        refine wpAnyH_take (i := 38) (v := ?vdh38) rfl (by kernel_rfl) (by kernel_rfl) (by kernel_rfl) (fun _ _ _ h => h) (Or.inl ⟨by kernel_rfl, ?hydh38⟩) (by exact hHd) ?rdh38
        case hydh38 => (intro w hSw; (try dsimp only at hSw); go_simp <;> with_reducible rfl)
        simp only [Act.put, List.setIfInBounds_toArray, List.set_cons_zero, List.set_cons_succ]
        refine wpAnyH_take (i := 39) (v := ?vdh39) rfl (by kernel_rfl) (by kernel_rfl) (by kernel_rfl) (fun _ _ _ h => h) (Or.inl ⟨by kernel_rfl, ?hydh39⟩) (by exact hHd) ?rdh39
        case hydh39 => (intro w hSw; (try dsimp only at hSw); go_simp <;> with_reducible rfl)
        simp only [Act.put, List.setIfInBounds_toArray, List.set_cons_zero, List.set_cons_succ]
        refine wpAnyH_take (i := 40) rfl (by kernel_rfl) (by kernel_rfl) (by kernel_rfl) (fun _ _ _ h => h) (Or.inr ⟨by kernel_rfl, rfl⟩) (by exact hHd) ?rdh40
        simp only [Act.put, List.setIfInBounds_toArray, List.set_cons_zero, List.set_cons_succ]
        refine wpAnyH_take (i := 41) rfl (by kernel_rfl) (by kernel_rfl) (by kernel_rfl) (fun _ _ _ h => h) (Or.inr ⟨by kernel_rfl, rfl⟩) (by exact hHd) ?rdh41
        simp only [Act.put, List.setIfInBounds_toArray, List.set_cons_zero, List.set_cons_succ]
        refine wpAnyH_take (i := 42) rfl (by kernel_rfl) (by kernel_rfl) (by kernel_rfl) (fun _ _ _ h => h) (Or.inr ⟨by kernel_rfl, rfl⟩) (by exact hHd) ?rdh42
        simp only [Act.put, List.setIfInBounds_toArray, List.set_cons_zero, List.set_cons_succ]
        refine wpAnyH_take (i := 43) (v := ?vdh43) rfl (by kernel_rfl) (by kernel_rfl) (by kernel_rfl) (fun _ _ _ h => h) (Or.inl ⟨by kernel_rfl, ?hydh43⟩) (by exact hHd) ?rdh43
        case hydh43 => (intro w hSw; (try dsimp only at hSw); go_simp <;> with_reducible rfl)
        simp only [Act.put, List.setIfInBounds_toArray, List.set_cons_zero, List.set_cons_succ]
        refine wpAnyH_take (i := 44) (v := ?vdh44) rfl (by kernel_rfl) (by kernel_rfl) (by kernel_rfl) (fun _ _ _ h => h) (Or.inl ⟨by rfl, ?hydh44⟩) (by exact hHd) ?rdh44
        case hydh44 => (intro w hSw; (try dsimp only at hSw); go_simp <;> with_reducible rfl)
        simp only [Act.put, List.setIfInBounds_toArray, List.set_cons_zero, List.set_cons_succ]
        refine wpAnyH_done (by kernel_rfl) ?_ _
        go_simp
        go_wp2_with fail
        go_meet
        exact ⟨by first | rfl | (simp; omega), _, rfl, ((Since.refl w3).drew.step hbc).step hbd⟩
    case rest =>
      obtain ⟨rfl, w5, rfl, hS5⟩ := hcut
      have T5 := T3.step hS5.below
      clear n1 n1i n2 n3 hS5
      obtain ⟨x0, x1, x2, x3, x4, x5⟩ := HS.out w5 T5
      go_wp2_with fail
      clear x0 x1 x2 x3 x4 x5
      go_loopw [76] (fun i wr => ∃ k : Nat, k ≤ ps.length ∧ i = .int .i64 k ∧ Since w2.heap.size w2 wr) (fun i _ => ps.length - (intOf i).toNat)
      case atStart => exact ⟨0, by omega, rfl, T5⟩
      case round =>
        obtain ⟨k, hk, rfl, hSr⟩ := hrel
        clear T5
        by_cases hlt : k < ps.length
        · have hget : ps[k]? = some ps[k] := List.getElem?_eq_getElem hlt
          obtain ⟨g, off, rfl, cs, hcl, hcs, vk, rfl, hkk, hir⟩ := (HPP.out wr hSr).at hget
          have HMG : Hid (((oneH (kd, n, pl, data, pr, need, of_) ∧ (k : Int) ≠ n) ∨ (¬ oneH (kd, n, pl, data, pr, need, of_) ∧ ps[k].1 = false)) → MP[k]? = some ps[k]) := Lib.hid (HPK.out k _ hget)
          clear hget
          generalize ps[k] = p at *
          obtain ⟨t, r, ks⟩ := p
          simp only at hkk hir HMG
          obtain ⟨uu, cu, rfl, _⟩ := hkk.opened
          have k0 : wr.cell? ⟨g, off + k * 3, none⟩ = some (.bool t) := hcs 0 _ rfl
          have k1 : wr.cell? ⟨g, off + k * 3 + 1, none⟩ = some (.int .i64 r) := hcs 1 _ rfl
          have k2 : wr.cell? ⟨g, off + k * 3 + 2, none⟩ = some (.slice uu ks.length cu) := hcs 2 _ rfl
          have BB := below_alloc wr (.cells #[.bool t, .int .i64 r, .slice uu ks.length cu] 39)
          have Ta := hSr.alloc (.cells #[.bool t, .int .i64 r, .slice uu ks.length cu] 39)
          have f0 : (wr.alloc (.cells #[.bool t, .int .i64 r, .slice uu ks.length cu] 39)).cell? ⟨wr.heap.size, 0, none⟩ = some (.bool t) := by go_simp
          have f1 : (wr.alloc (.cells #[.bool t, .int .i64 r, .slice uu ks.length cu] 39)).cell? ⟨wr.heap.size, 1, none⟩ = some (.int .i64 r) := by go_simp
          have f2 : (wr.alloc (.cells #[.bool t, .int .i64 r, .slice uu ks.length cu] 39)).cell? ⟨wr.heap.size, 2, none⟩ = some (.slice uu ks.length cu) := by go_simp
          have HKK := Lib.hid (hkk.stays RKept.stays BB)
          have HIR := Lib.hid hir
          have hki : I64 (k : Int) := ⟨by omega, by omega⟩
          clear hcs hcl hkk hir BB
          go_upto_region 10 with fail
          clear k0 k1 k2
          generalize wr.alloc (.cells #[.bool t, .int .i64 r, .slice uu ks.length cu] 39) = wa at *
          obtain ⟨Bp, hBp⟩ : ∃ Bp, Bp = wr.heap.size := ⟨_, rfl⟩
          rw [← hBp] at f0 f1 f2 ⊢
          clear hBp
          obtain ⟨_, _, _, f3, fk, f4⟩ := HS.out wa Ta
          have HTA := Lib.hid Ta
          have hpy := (HVY.out wa Ta).2.1
          clear hSr Ta
          have HPE : Hid (prEq (t, r, ks) (t, r, ks) = true) := Lib.hid ((prEq_iff _ _).2 rfl)
          go_cut [10] (fun s10 wx => s10 = .bool (decide (oneH (kd, n, pl, data, pr, need, of_))) ∧ wa = wx)
          case first =>
            clear f0 f1 f2 f3 f4 hpy HPE
            by_cases h2 : 2 ≤ kd
            · by_cases h5 : kd ≤ 5
              · have HO : Hid (decide (oneH (kd, n, pl, data, pr, need, of_)) = true) := Lib.hid (decide_eq_true ⟨h2, h5⟩)
                go_wp2_with fail
                go_meet
                exact ⟨by rw [HO.out], rfl⟩
              · have HO : Hid (decide (oneH (kd, n, pl, data, pr, need, of_)) = false) := Lib.hid (decide_eq_false (fun h => h5 h.2))
                go_wp2_with fail
                go_meet
                exact ⟨by rw [HO.out], rfl⟩
            · have HO : Hid (decide (oneH (kd, n, pl, data, pr, need, of_)) = false) := Lib.hid (decide_eq_false (fun h => h2 h.1))
              go_wp2_with fail
              go_meet
              exact ⟨by rw [HO.out], rfl⟩
          case rest =>
            obtain ⟨rfl, rfl⟩ := hcut
            clear fk
            generalize hon : decide (oneH (kd, n, pl, data, pr, need, of_)) = one at *
            have HON := Lib.hid hon
            clear hon
            go_upto_region 11 with fail
            go_cut [114] (fun s114 wx => s114 = .bool false ∧ ∃ wz, wz = wx ∧ Since wa.heap.size wa wx)
            case first =>
              have hH0 : wa.drew.cell? ⟨Bp, 0, none⟩ = some (.bool t) ∧ wa.drew.cell? ⟨Bp, 1, none⟩ = some (.int .i64 r) ∧ wa.drew.cell? ⟨Bp, 2, none⟩ = some (.slice uu ks.length cu) ∧ wa.drew.cell? ⟨B5, 1, none⟩ = some (.slice a7 ps.length c7) ∧ wa.drew.cell? ⟨Bh, 1, none⟩ = some (.int .i64 n) := ⟨f0, f1, f2, f3, f4⟩
              cases one with
              | true =>
                have hone := of_decide_eq_true HON.out
                by_cases hkn : (k : Int) = n
                · subst hkn
                  have hkn2 : ((k : Int) != (k : Int)) = false := by simp
                  refine wp_region_held_drew (S := fun w' => w'.cell? ⟨Bp, 0, none⟩ = some (.bool t) ∧ w'.cell? ⟨Bp, 1, none⟩ = some (.int .i64 r) ∧ w'.cell? ⟨Bp, 2, none⟩ = some (.slice uu ks.length cu) ∧ w'.cell? ⟨B5, 1, none⟩ = some (.slice a7 ps.length c7) ∧ w'.cell? ⟨Bh, 1, none⟩ = some (.int .i64 k)) (by kernel_rfl) hH0 (fun _ => ?_)
                  refine wpAnyH_take (i := 0) (v := ?vb0) rfl (by kernel_rfl) (by kernel_rfl) (by kernel_rfl) (fun _ _ _ h => h) (Or.inl ⟨by rfl, ?hyb0⟩) (by assumption) ?rb0
                  case hyb0 => (intro w hSw; (try dsimp only at hSw); go_simp <;> with_reducible rfl)
                  simp only [Act.put, List.setIfInBounds_toArray, List.set_cons_zero, List.set_cons_succ]
                  refine wpAnyH_take (i := 1) (v := ?vb1) rfl (by kernel_rfl) (by kernel_rfl) (by kernel_rfl) (fun _ _ _ h => h) (Or.inl ⟨by rfl, ?hyb1⟩) (by assumption) ?rb1
                  case hyb1 => (intro w hSw; (try dsimp only at hSw); go_simp <;> with_reducible rfl)
                  simp only [Act.put, List.setIfInBounds_toArray, List.set_cons_zero, List.set_cons_succ]
                  refine wpAnyH_take (i := 2) (v := ?vb2) rfl (by kernel_rfl) (by kernel_rfl) (by kernel_rfl) (fun _ _ _ h => h) (Or.inl ⟨by kernel_rfl, ?hyb2⟩) (by assumption) ?rb2
                  case hyb2 => (intro w hSw; (try dsimp only at hSw); go_simp <;> with_reducible rfl)
                  simp only [Act.put, List.setIfInBounds_toArray, List.set_cons_zero, List.set_cons_succ]
                  refine wpAnyH_take (i := 3) (v := ?vb3) rfl (by kernel_rfl) (by kernel_rfl) (by kernel_rfl) (fun _ _ _ h => h) (Or.inl ⟨by kernel_rfl, ?hyb3⟩) (by assumption) ?rb3
                  case hyb3 => (intro w hSw; (try dsimp only at hSw); go_simp <;> with_reducible rfl)
                  simp only [Act.put, List.setIfInBounds_toArray, List.set_cons_zero, List.set_cons_succ]
                  refine wpAnyH_take (i := 4) (v := ?vb4) rfl (by kernel_rfl) (by kernel_rfl) (by kernel_rfl) (fun _ _ _ h => h) (Or.inl ⟨by kernel_rfl, ?hyb4⟩) (by assumption) ?rb4
                  case hyb4 => (intro w hSw; (try dsimp only at hSw); go_simp <;> with_reducible rfl)
                  simp only [Act.put, List.setIfInBounds_toArray, List.set_cons_zero, List.set_cons_succ]
                  refine wpAnyH_take (i := 5) (v := ?vb5) rfl (by kernel_rfl) (by kernel_rfl) (by kernel_rfl) (fun _ _ _ h => h) (Or.inl ⟨by kernel_rfl, ?hyb5⟩) (by assumption) ?rb5
                  case hyb5 => (intro w hSw; (try dsimp only at hSw); go_simp <;> with_reducible rfl)
                  simp only [Act.put, List.setIfInBounds_toArray, List.set_cons_zero, List.set_cons_succ]
                  refine wpAnyH_take (i := 6) (v := ?vb6) rfl (by kernel_rfl) (by kernel_rfl) (by kernel_rfl) (fun _ _ _ h => h) (Or.inl ⟨by rfl, ?hyb6⟩) (by assumption) ?rb6
                  case hyb6 => (intro w hSw; (try dsimp only at hSw); go_simp <;> with_reducible rfl)
                  simp only [Act.put, List.setIfInBounds_toArray, List.set_cons_zero, List.set_cons_succ]
                  refine wpAnyH_take (i := 7) (v := ?vb7) rfl (by kernel_rfl) (by kernel_rfl) (by kernel_rfl) (fun _ _ _ h => h) (Or.inl ⟨by rfl, ?hyb7⟩) (by assumption) ?rb7
                  case hyb7 => (intro w hSw; (try dsimp only at hSw); go_simp <;> with_reducible rfl)
                  simp only [Act.put, List.setIfInBounds_toArray, List.set_cons_zero, List.set_cons_succ]
                  refine wpAnyH_take (i := 8) (v := ?vb8) rfl (by kernel_rfl) (by kernel_rfl) (by kernel_rfl) (fun _ _ _ h => h) (Or.inl ⟨by kernel_rfl, ?hyb8⟩) (by assumption) ?rb8
                  case hyb8 => (intro w hSw; (try dsimp only at hSw); go_simp <;> with_reducible rfl)
                  simp only [Act.put, List.setIfInBounds_toArray, List.set_cons_zero, List.set_cons_succ]
                  refine wpAnyH_take (i := 9) (v := ?vb9) rfl (by kernel_rfl) (by kernel_rfl) (by kernel_rfl) (fun _ _ _ h => h) (Or.inl ⟨by kernel_rfl, ?hyb9⟩) (by assumption) ?rb9
                  case hyb9 => (intro w hSw; (try dsimp only at hSw); go_simp <;> with_reducible rfl)
                  simp only [Act.put, List.setIfInBounds_toArray, List.set_cons_zero, List.set_cons_succ]
                  refine wpAnyH_take (i := 10) (v := ?vb10) rfl (by kernel_rfl) (by kernel_rfl) (by kernel_rfl) (fun _ _ _ h => h) (Or.inl ⟨by kernel_rfl, ?hyb10⟩) (by assumption) ?rb10
                  case hyb10 => (intro w hSw; (try dsimp only at hSw); go_simp <;> with_reducible rfl)
                  simp only [Act.put, List.setIfInBounds_toArray, List.set_cons_zero, List.set_cons_succ]
                  refine wpAnyH_take (i := 11) rfl (by kernel_rfl) (by kernel_rfl) (by kernel_rfl) (fun _ _ _ h => h) (Or.inr ⟨by kernel_rfl, rfl⟩) (by assumption) ?rb11
                  simp only [Act.put, List.setIfInBounds_toArray, List.set_cons_zero, List.set_cons_succ]
                  refine wpAnyH_take (i := 12) rfl (by kernel_rfl) (by kernel_rfl) (by kernel_rfl) (fun _ _ _ h => h) (Or.inr ⟨by kernel_rfl, rfl⟩) (by assumption) ?rb12
                  simp only [Act.put, List.setIfInBounds_toArray, List.set_cons_zero, List.set_cons_succ]
                  refine wpAnyH_take (i := 13) rfl (by kernel_rfl) (by kernel_rfl) (by kernel_rfl) (fun _ _ _ h => h) (Or.inr ⟨by kernel_rfl, rfl⟩) (by assumption) ?rb13
                  simp only [Act.put, List.setIfInBounds_toArray, List.set_cons_zero, List.set_cons_succ]
                  refine wpAnyH_take (i := 14) (v := ?vb14) rfl (by kernel_rfl) (by kernel_rfl) (by kernel_rfl) (fun _ _ _ h => h) (Or.inl ⟨by kernel_rfl, ?hyb14⟩) (by assumption) ?rb14
                  case hyb14 => (intro w hSw; (try dsimp only at hSw); go_simp <;> with_reducible rfl)
                  simp only [Act.put, List.setIfInBounds_toArray, List.set_cons_zero, List.set_cons_succ]
                  refine wpAnyH_take (i := 15) (v := ?vb15) rfl (by kernel_rfl) (by kernel_rfl) (by kernel_rfl) (fun _ _ _ h => h) (Or.inl ⟨by rfl, ?hyb15⟩) (by assumption) ?rb15
                  case hyb15 => (intro w hSw; (try dsimp only at hSw); go_simp <;> with_reducible rfl)
                  simp only [Act.put, List.setIfInBounds_toArray, List.set_cons_zero, List.set_cons_succ]
                  refine wpAnyH_take (i := 16) (v := ?vb16) rfl (by kernel_rfl) (by kernel_rfl) (by kernel_rfl) (fun _ _ _ h => h) (Or.inl ⟨by rfl, ?hyb16⟩) (by assumption) ?rb16
                  case hyb16 => (intro w hSw; (try dsimp only at hSw); go_simp <;> with_reducible rfl)
                  simp only [Act.put, List.setIfInBounds_toArray, List.set_cons_zero, List.set_cons_succ]
                  refine wpAnyH_take (i := 17) rfl (by kernel_rfl) (by kernel_rfl) (by kernel_rfl) (fun _ _ _ h => h) (Or.inr ⟨by kernel_rfl, rfl⟩) (by assumption) ?rb17
                  simp only [Act.put, List.setIfInBounds_toArray, List.set_cons_zero, List.set_cons_succ]
                  refine wpAnyH_take (i := 18) rfl (by kernel_rfl) (by kernel_rfl) (by kernel_rfl) (fun _ _ _ h => h) (Or.inr ⟨by kernel_rfl, rfl⟩) (by assumption) ?rb18
                  simp only [Act.put, List.setIfInBounds_toArray, List.set_cons_zero, List.set_cons_succ]
                  refine wpAnyH_take (i := 19) rfl (by kernel_rfl) (by kernel_rfl) (by kernel_rfl) (fun _ _ _ h => h) (Or.inr ⟨by kernel_rfl, rfl⟩) (by assumption) ?rb19
                  simp only [Act.put, List.setIfInBounds_toArray, List.set_cons_zero, List.set_cons_succ]
                  refine wpAnyH_take (i := 20) rfl (by kernel_rfl) (by kernel_rfl) (by kernel_rfl) (fun _ _ _ h => h) (Or.inr ⟨by kernel_rfl, rfl⟩) (by assumption) ?rb20
                  simp only [Act.put, List.setIfInBounds_toArray, List.set_cons_zero, List.set_cons_succ]
                  refine wpAnyH_take (i := 21) rfl (by kernel_rfl) (by kernel_rfl) (by kernel_rfl) (fun _ _ _ h => h) (Or.inr ⟨by kernel_rfl, rfl⟩) (by assumption) ?rb21
                  simp only [Act.put, List.setIfInBounds_toArray, List.set_cons_zero, List.set_cons_succ]
                  refine wpAnyH_take (i := 22) rfl (by kernel_rfl) (by kernel_rfl) (by kernel_rfl) (fun _ _ _ h => h) (Or.inr ⟨by kernel_rfl, rfl⟩) (by assumption) ?rb22
                  simp only [Act.put, List.setIfInBounds_toArray, List.set_cons_zero, List.set_cons_succ]
                  refine wpAnyH_take (i := 23) rfl (by kernel_rfl) (by kernel_rfl) (by kernel_rfl) (fun _ _ _ h => h) (Or.inr ⟨by kernel_rfl, rfl⟩) (by assumption) ?rb23
                  simp only [Act.put, List.setIfInBounds_toArray, List.set_cons_zero, List.set_cons_succ]
                  refine wpAnyH_take (i := 24) rfl (by kernel_rfl) (by kernel_rfl) (by kernel_rfl) (fun _ _ _ h => h) (Or.inr ⟨by kernel_rfl, rfl⟩) (by assumption) ?rb24
                  simp only [Act.put, List.setIfInBounds_toArray, List.set_cons_zero, List.set_cons_succ]
                  refine wpAnyH_take (i := 25) (v := ?vb25) rfl (by kernel_rfl) (by kernel_rfl) (by kernel_rfl) (fun _ _ _ h => h) (Or.inl ⟨by rfl, ?hyb25⟩) (by assumption) ?rb25
                  case hyb25 => (intro w hSw; (try dsimp only at hSw); go_simp <;> with_reducible rfl)
                  simp only [Act.put, List.setIfInBounds_toArray, List.set_cons_zero, List.set_cons_succ]
                  refine wpAnyH_done (by kernel_rfl) ?_ _
                  go_simp
                  go_wp2_with fail
                  go_meet
                  exact ⟨rfl, _, rfl, (Since.refl wa).drew⟩
                · have hkn2 : ((k : Int) != n) = true := by simp [hkn]
                  have HGET := Lib.hid (HMG.out (Or.inl ⟨hone, hkn⟩))
                  clear hone
                  obtain ⟨gy, oy, ey, cs, hcl, hcs, vy, rfl, hky, _⟩ := hpy.at (HGET.out)
                  obtain ⟨uy, cy, rfl, _⟩ := hky.opened
                  subst ey
                  have z0 : wa.cell? ⟨gy, oy + k * 3, none⟩ = some (.bool t) := hcs 0 _ rfl
                  have z1 : wa.cell? ⟨gy, oy + k * 3 + 1, none⟩ = some (.int .i64 r) := hcs 1 _ rfl
                  have z2 : wa.cell? ⟨gy, oy + k * 3 + 2, none⟩ = some (.slice uy ks.length cy) := hcs 2 _ rfl
                  have HP1 : Hid (IsPeer wa.drew (.agg #[.bool t, .int .i64 r, .slice uu ks.length cu]) (t, r, ks)) := Lib.hid ⟨_, rfl, HKK.out.drew RKept.stays, HIR.out⟩
                  have HP2 : Hid (IsPeer wa.drew (.agg #[.bool t, .int .i64 r, .slice uy ks.length cy]) (t, r, ks)) := Lib.hid ⟨_, rfl, hky.drew RKept.stays, HIR.out⟩
                  have HSC : Hid (∀ w', Below wa.drew.heap.size wa.drew w' → w'.cell? ⟨Bp, 0, none⟩ = some (.bool t) ∧ w'.cell? ⟨Bp, 1, none⟩ = some (.int .i64 r) ∧ w'.cell? ⟨Bp, 2, none⟩ = some (.slice uu ks.length cu) ∧ w'.cell? ⟨B5, 1, none⟩ = some (.slice (some ⟨gy, oy, none⟩) ps.length c7) ∧ w'.cell? ⟨Bh, 1, none⟩ = some (.int .i64 n) ∧ w'.cell? ⟨gy, oy + k * 3, none⟩ = some (.bool t) ∧ w'.cell? ⟨gy, oy + k * 3 + 1, none⟩ = some (.int .i64 r) ∧ w'.cell? ⟨gy, oy + k * 3 + 2, none⟩ = some (.slice uy ks.length cy)) := Lib.hid (fun w' q => ⟨below_cell q f0, below_cell q f1, below_cell q f2, below_cell q f3, below_cell q f4, below_cell q z0, below_cell q z1, below_cell q z2⟩)
                  have hHc : wa.drew.cell? ⟨Bp, 0, none⟩ = some (.bool t) ∧ wa.drew.cell? ⟨Bp, 1, none⟩ = some (.int .i64 r) ∧ wa.drew.cell? ⟨Bp, 2, none⟩ = some (.slice uu ks.length cu) ∧ wa.drew.cell? ⟨B5, 1, none⟩ = some (.slice (some ⟨gy, oy, none⟩) ps.length c7) ∧ wa.drew.cell? ⟨Bh, 1, none⟩ = some (.int .i64 n) ∧ wa.drew.cell? ⟨gy, oy + k * 3, none⟩ = some (.bool t) ∧ wa.drew.cell? ⟨gy, oy + k * 3 + 1, none⟩ = some (.int .i64 r) ∧ wa.drew.cell? ⟨gy, oy + k * 3 + 2, none⟩ = some (.slice uy ks.length cy) := ⟨f0, f1, f2, f3, f4, z0, z1, z2⟩
                  clear hcs hcl hky hpy
                  refine wp_region_held_drew (S := fun w' => w'.cell? ⟨Bp, 0, none⟩ = some (.bool t) ∧ w'.cell? ⟨Bp, 1, none⟩ = some (.int .i64 r) ∧ w'.cell? ⟨Bp, 2, none⟩ = some (.slice uu ks.length cu) ∧ w'.cell? ⟨B5, 1, none⟩ = some (.slice (some ⟨gy, oy, none⟩) ps.length c7) ∧ w'.cell? ⟨Bh, 1, none⟩ = some (.int .i64 n) ∧ w'.cell? ⟨gy, oy + k * 3, none⟩ = some (.bool t) ∧ w'.cell? ⟨gy, oy + k * 3 + 1, none⟩ = some (.int .i64 r) ∧ w'.cell? ⟨gy, oy + k * 3 + 2, none⟩ = some (.slice uy ks.length cy)) (by kernel_rfl) hHc (fun _ => ?_)
                  refine wpAnyH_take (i := 0) (v := ?va0) rfl (by kernel_rfl) (by kernel_rfl) (by kernel_rfl) (fun _ _ _ h => h) (Or.inl ⟨by rfl, ?hya0⟩) (by assumption) ?ra0
                  case hya0 => (intro w hSw; (try dsimp only at hSw); go_simp <;> with_reducible rfl)
                  simp only [Act.put, List.setIfInBounds_toArray, List.set_cons_zero, List.set_cons_succ]
                  refine wpAnyH_take (i := 1) (v := ?va1) rfl (by kernel_rfl) (by kernel_rfl) (by kernel_rfl) (fun _ _ _ h => h) (Or.inl ⟨by rfl, ?hya1⟩) (by assumption) ?ra1
                  case hya1 => (intro w hSw; (try dsimp only at hSw); go_simp <;> with_reducible rfl)
                  simp only [Act.put, List.setIfInBounds_toArray, List.set_cons_zero, List.set_cons_succ]
                  refine wpAnyH_take (i := 2) (v := ?va2) rfl (by kernel_rfl) (by kernel_rfl) (by kernel_rfl) (fun _ _ _ h => h) (Or.inl ⟨by kernel_rfl, ?hya2⟩) (by assumption) ?ra2
                  case hya2 => (intro w hSw; (try dsimp only at hSw); go_simp <;> with_reducible rfl)
                  simp only [Act.put, List.setIfInBounds_toArray, List.set_cons_zero, List.set_cons_succ]
                  refine wpAnyH_take (i := 3) (v := ?va3) rfl (by kernel_rfl) (by kernel_rfl) (by kernel_rfl) (fun _ _ _ h => h) (Or.inl ⟨by kernel_rfl, ?hya3⟩) (by assumption) ?ra3
                  case hya3 => (intro w hSw; (try dsimp only at hSw); go_simp <;> with_reducible rfl)
                  simp only [Act.put, List.setIfInBounds_toArray, List.set_cons_zero, List.set_cons_succ]
                  refine wpAnyH_take (i := 4) (v := ?va4) rfl (by kernel_rfl) (by kernel_rfl) (by kernel_rfl) (fun _ _ _ h => h) (Or.inl ⟨by kernel_rfl, ?hya4⟩) (by assumption) ?ra4
                  case hya4 => (intro w hSw; (try dsimp only at hSw); go_simp <;> with_reducible rfl)
                  simp only [Act.put, List.setIfInBounds_toArray, List.set_cons_zero, List.set_cons_succ]
                  refine wpAnyH_take (i := 5) (v := ?va5) rfl (by kernel_rfl) (by kernel_rfl) (by kernel_rfl) (fun _ _ _ h => h) (Or.inl ⟨by kernel_rfl, ?hya5⟩) (by assumption) ?ra5
                  case hya5 => (intro w hSw; (try dsimp only at hSw); go_simp <;> with_reducible rfl)
                  simp only [Act.put, List.setIfInBounds_toArray, List.set_cons_zero, List.set_cons_succ]
                  refine wpAnyH_take (i := 6) (v := ?va6) rfl (by kernel_rfl) (by kernel_rfl) (by kernel_rfl) (fun _ _ _ h => h) (Or.inl ⟨by rfl, ?hya6⟩) (by assumption) ?ra6
                  case hya6 => (intro w hSw; (try dsimp only at hSw); go_simp <;> with_reducible rfl)
                  simp only [Act.put, List.setIfInBounds_toArray, List.set_cons_zero, List.set_cons_succ]
                  refine wpAnyH_take (i := 7) (v := ?va7) rfl (by kernel_rfl) (by kernel_rfl) (by kernel_rfl) (fun _ _ _ h => h) (Or.inl ⟨by rfl, ?hya7⟩) (by assumption) ?ra7
                  case hya7 => (intro w hSw; (try dsimp only at hSw); go_simp <;> with_reducible rfl)
                  simp only [Act.put, List.setIfInBounds_toArray, List.set_cons_zero, List.set_cons_succ]
                  refine wpAnyH_take (i := 8) rfl (by kernel_rfl) (by kernel_rfl) (by kernel_rfl) (fun _ _ _ h => h) (Or.inr ⟨by kernel_rfl, rfl⟩) (by assumption) ?ra8
                  simp only [Act.put, List.setIfInBounds_toArray, List.set_cons_zero, List.set_cons_succ]
                  refine wpAnyH_take (i := 9) rfl (by kernel_rfl) (by kernel_rfl) (by kernel_rfl) (fun _ _ _ h => h) (Or.inr ⟨by kernel_rfl, rfl⟩) (by assumption) ?ra9
                  simp only [Act.put, List.setIfInBounds_toArray, List.set_cons_zero, List.set_cons_succ]
                  refine wpAnyH_take (i := 10) rfl (by kernel_rfl) (by kernel_rfl) (by kernel_rfl) (fun _ _ _ h => h) (Or.inr ⟨by kernel_rfl, rfl⟩) (by assumption) ?ra10
                  simp only [Act.put, List.setIfInBounds_toArray, List.set_cons_zero, List.set_cons_succ]
                  refine wpAnyH_take (i := 11) rfl (by kernel_rfl) (by kernel_rfl) (by kernel_rfl) (fun _ _ _ h => h) (Or.inr ⟨by kernel_rfl, rfl⟩) (by assumption) ?ra11
                  simp only [Act.put, List.setIfInBounds_toArray, List.set_cons_zero, List.set_cons_succ]
                  refine wpAnyH_take (i := 12) rfl (by kernel_rfl) (by kernel_rfl) (by kernel_rfl) (fun _ _ _ h => h) (Or.inr ⟨by kernel_rfl, rfl⟩) (by assumption) ?ra12
                  simp only [Act.put, List.setIfInBounds_toArray, List.set_cons_zero, List.set_cons_succ]
                  refine wpAnyH_take (i := 13) rfl (by kernel_rfl) (by kernel_rfl) (by kernel_rfl) (fun _ _ _ h => h) (Or.inr ⟨by kernel_rfl, rfl⟩) (by assumption) ?ra13
                  simp only [Act.put, List.setIfInBounds_toArray, List.set_cons_zero, List.set_cons_succ]
                  refine wpAnyH_take (i := 14) rfl (by kernel_rfl) (by kernel_rfl) (by kernel_rfl) (fun _ _ _ h => h) (Or.inr ⟨by kernel_rfl, rfl⟩) (by assumption) ?ra14
                  simp only [Act.put, List.setIfInBounds_toArray, List.set_cons_zero, List.set_cons_succ]
                  refine wpAnyH_take (i := 15) (v := ?va15) rfl (by kernel_rfl) (by kernel_rfl) (by kernel_rfl) (fun _ _ _ h => h) (Or.inl ⟨by rfl, ?hya15⟩) (by assumption) ?ra15
                  case hya15 => (intro w hSw; (try dsimp only at hSw); go_simp <;> with_reducible rfl)
                  simp only [Act.put, List.setIfInBounds_toArray, List.set_cons_zero, List.set_cons_succ]
                  refine wpAnyH_take (i := 16) (v := ?va16) rfl (by kernel_rfl) (by kernel_rfl) (by kernel_rfl) (fun _ _ _ h => h) (Or.inl ⟨by rfl, ?hya16⟩) (by assumption) ?ra16
                  case hya16 => (intro w hSw; (try dsimp only at hSw); go_simp <;> with_reducible rfl)
                  simp only [Act.put, List.setIfInBounds_toArray, List.set_cons_zero, List.set_cons_succ]
                  refine wpAnyH_take (i := 17) (v := ?va17) rfl (by kernel_rfl) (by kernel_rfl) (by kernel_rfl) (fun _ _ _ h => h) (Or.inl ⟨by kernel_rfl, ?hya17⟩) (by assumption) ?ra17
                  case hya17 => (intro w hSw; (try dsimp only at hSw); go_simp <;> with_reducible rfl)
                  simp only [Act.put, List.setIfInBounds_toArray, List.set_cons_zero, List.set_cons_succ]
                  refine wpAnyH_take (i := 18) (v := ?va18) rfl (by kernel_rfl) (by kernel_rfl) (by kernel_rfl) (fun _ _ _ h => h) (Or.inl ⟨by kernel_rfl, ?hya18⟩) (by assumption) ?ra18
                  case hya18 => (intro w hSw; (try dsimp only at hSw); go_simp <;> with_reducible rfl)
                  simp only [Act.put, List.setIfInBounds_toArray, List.set_cons_zero, List.set_cons_succ]
                  refine wpAnyH_take (i := 19) (v := ?va19) rfl (by kernel_rfl) (by kernel_rfl) (by kernel_rfl) (fun _ _ _ h => h) (Or.inl ⟨by kernel_rfl, ?hya19⟩) (by assumption) ?ra19
                  case hya19 => (intro w hSw; (try dsimp only at hSw); go_simp <;> with_reducible rfl)
                  simp only [Act.put, List.setIfInBounds_toArray, List.set_cons_zero, List.set_cons_succ]
                  refine wpAnyH_take (i := 20) (v := ?va20) rfl (by kernel_rfl) (by kernel_rfl) (by kernel_rfl) (fun _ _ _ h => h) (Or.inl ⟨by kernel_rfl, ?hya20⟩) (by assumption) ?ra20
                  case hya20 => (intro w hSw; (try dsimp only at hSw); go_simp <;> with_reducible rfl)
                  simp only [Act.put, List.setIfInBounds_toArray, List.set_cons_zero, List.set_cons_succ]
                  refine wpAnyH_take (i := 21) (v := ?va21) rfl (by kernel_rfl) (by kernel_rfl) (by kernel_rfl) (fun _ _ _ h => h) (Or.inl ⟨by kernel_rfl, ?hya21⟩) (by assumption) ?ra21
                  case hya21 => (intro w hSw; (try dsimp only at hSw); go_simp <;> with_reducible rfl)
                  simp only [Act.put, List.setIfInBounds_toArray, List.set_cons_zero, List.set_cons_succ]
                  refine wpAnyH_take (i := 22) (v := ?va22) rfl (by kernel_rfl) (by kernel_rfl) (by kernel_rfl) (fun _ _ _ h => h) (Or.inl ⟨by kernel_rfl, ?hya22⟩) (by assumption) ?ra22
                  case hya22 => (intro w hSw; (try dsimp only at hSw); go_simp <;> with_reducible rfl)
                  simp only [Act.put, List.setIfInBounds_toArray, List.set_cons_zero, List.set_cons_succ]
                  refine wpAnyH_ready (rs := [23]) (by kernel_rfl) (by simp) ?_
                  refine AllReadyH.cons (o := ?oaq23) ?hoaq23 (fun K' hK' => ?kaq23) AllReadyH.nil
                  case hoaq23 => (simp only [List.getElem?_toArray, List.getElem?_cons_succ, List.getElem?_cons_zero]; rfl)
                  go_simp
                  go_at_call 9
                  go_fit (SamePr_any _ _ _ _ _ HP1.out HP2.out)
                  rintro e wd ⟨rfl, hbd⟩
                  rw [HPE.out]
                  try go_wp2_with fail
                  refine hK'.out _ _ (HSC.out _ hbd) (fun _ => ?_)
                  clear hK' K'
                  have hHd := HSC.out _ hbd
                  refine wpAnyH_take (i := 24) (v := ?var24) rfl (by kernel_rfl) (by kernel_rfl) (by kernel_rfl) (fun _ _ _ h => h) (Or.inl ⟨by kernel_rfl, ?hyar24⟩) (by exact hHd) ?rar24
                  case hyar24 => (intro w hSw; (try dsimp only at hSw); go_simp <;> with_reducible rfl)
                  simp only [Act.put, List.setIfInBounds_toArray, List.set_cons_zero, List.set_cons_succ]
                  refine wpAnyH_take (i := 25) (v := ?var25) rfl (by kernel_rfl) (by kernel_rfl) (by kernel_rfl) (fun _ _ _ h => h) (Or.inl ⟨by rfl, ?hyar25⟩) (by exact hHd) ?rar25
                  case hyar25 => (intro w hSw; (try dsimp only at hSw); go_simp <;> with_reducible rfl)
                  simp only [Act.put, List.setIfInBounds_toArray, List.set_cons_zero, List.set_cons_succ]
                  refine wpAnyH_done (by kernel_rfl) ?_ _
                  go_simp
                  go_wp2_with fail
                  go_meet
                  exact ⟨rfl, _, rfl, (Since.refl wa).drew.step hbd⟩
              | false =>
                have hone := of_decide_eq_false HON.out
                cases t with
                | true =>
                  refine wp_region_held_drew (S := fun w' => w'.cell? ⟨Bp, 0, none⟩ = some (.bool true) ∧ w'.cell? ⟨Bp, 1, none⟩ = some (.int .i64 r) ∧ w'.cell? ⟨Bp, 2, none⟩ = some (.slice uu ks.length cu) ∧ w'.cell? ⟨B5, 1, none⟩ = some (.slice a7 ps.length c7) ∧ w'.cell? ⟨Bh, 1, none⟩ = some (.int .i64 n)) (by kernel_rfl) hH0 (fun _ => ?_)
                  refine wpAnyH_take (i := 0) (v := ?vf0) rfl (by kernel_rfl) (by kernel_rfl) (by kernel_rfl) (fun _ _ _ h => h) (Or.inl ⟨by rfl, ?hyf0⟩) (by assumption) ?rf0
                  case hyf0 => (intro w hSw; (try dsimp only at hSw); go_simp <;> with_reducible rfl)
                  simp only [Act.put, List.setIfInBounds_toArray, List.set_cons_zero, List.set_cons_succ]
                  refine wpAnyH_take (i := 1) (v := ?vf1) rfl (by kernel_rfl) (by kernel_rfl) (by kernel_rfl) (fun _ _ _ h => h) (Or.inl ⟨by rfl, ?hyf1⟩) (by assumption) ?rf1
                  case hyf1 => (intro w hSw; (try dsimp only at hSw); go_simp <;> with_reducible rfl)
                  simp only [Act.put, List.setIfInBounds_toArray, List.set_cons_zero, List.set_cons_succ]
                  refine wpAnyH_take (i := 2) rfl (by kernel_rfl) (by kernel_rfl) (by kernel_rfl) (fun _ _ _ h => h) (Or.inr ⟨by kernel_rfl, rfl⟩) (by assumption) ?rf2
                  simp only [Act.put, List.setIfInBounds_toArray, List.set_cons_zero, List.set_cons_succ]
                  refine wpAnyH_take (i := 3) rfl (by kernel_rfl) (by kernel_rfl) (by kernel_rfl) (fun _ _ _ h => h) (Or.inr ⟨by kernel_rfl, rfl⟩) (by assumption) ?rf3
                  simp only [Act.put, List.setIfInBounds_toArray, List.set_cons_zero, List.set_cons_succ]
                  refine wpAnyH_take (i := 4) rfl (by kernel_rfl) (by kernel_rfl) (by kernel_rfl) (fun _ _ _ h => h) (Or.inr ⟨by kernel_rfl, rfl⟩) (by assumption) ?rf4
                  simp only [Act.put, List.setIfInBounds_toArray, List.set_cons_zero, List.set_cons_succ]
                  refine wpAnyH_take (i := 5) rfl (by kernel_rfl) (by kernel_rfl) (by kernel_rfl) (fun _ _ _ h => h) (Or.inr ⟨by kernel_rfl, rfl⟩) (by assumption) ?rf5
                  simp only [Act.put, List.setIfInBounds_toArray, List.set_cons_zero, List.set_cons_succ]
                  refine wpAnyH_take (i := 6) (v := ?vf6) rfl (by kernel_rfl) (by kernel_rfl) (by kernel_rfl) (fun _ _ _ h => h) (Or.inl ⟨by rfl, ?hyf6⟩) (by assumption) ?rf6
                  case hyf6 => (intro w hSw; (try dsimp only at hSw); go_simp <;> with_reducible rfl)
                  simp only [Act.put, List.setIfInBounds_toArray, List.set_cons_zero, List.set_cons_succ]
                  refine wpAnyH_take (i := 7) (v := ?vf7) rfl (by kernel_rfl) (by kernel_rfl) (by kernel_rfl) (fun _ _ _ h => h) (Or.inl ⟨by rfl, ?hyf7⟩) (by assumption) ?rf7
                  case hyf7 => (intro w hSw; (try dsimp only at hSw); go_simp <;> with_reducible rfl)
                  simp only [Act.put, List.setIfInBounds_toArray, List.set_cons_zero, List.set_cons_succ]
                  refine wpAnyH_take (i := 8) (v := ?vf8) rfl (by kernel_rfl) (by kernel_rfl) (by kernel_rfl) (fun _ _ _ h => h) (Or.inl ⟨by kernel_rfl, ?hyf8⟩) (by assumption) ?rf8
                  case hyf8 => (intro w hSw; (try dsimp only at hSw); go_simp <;> with_reducible rfl)
                  simp only [Act.put, List.setIfInBounds_toArray, List.set_cons_zero, List.set_cons_succ]
                  refine wpAnyH_take (i := 9) (v := ?vf9) rfl (by kernel_rfl) (by kernel_rfl) (by kernel_rfl) (fun _ _ _ h => h) (Or.inl ⟨by kernel_rfl, ?hyf9⟩) (by assumption) ?rf9
                  case hyf9 => (intro w hSw; (try dsimp only at hSw); go_simp <;> with_reducible rfl)
                  simp only [Act.put, List.setIfInBounds_toArray, List.set_cons_zero, List.set_cons_succ]
                  refine wpAnyH_take (i := 10) (v := ?vf10) rfl (by kernel_rfl) (by kernel_rfl) (by kernel_rfl) (fun _ _ _ h => h) (Or.inl ⟨by kernel_rfl, ?hyf10⟩) (by assumption) ?rf10
                  case hyf10 => (intro w hSw; (try dsimp only at hSw); go_simp <;> with_reducible rfl)
                  simp only [Act.put, List.setIfInBounds_toArray, List.set_cons_zero, List.set_cons_succ]
                  refine wpAnyH_take (i := 11) (v := ?vf11) rfl (by kernel_rfl) (by kernel_rfl) (by kernel_rfl) (fun _ _ _ h => h) (Or.inl ⟨by kernel_rfl, ?hyf11⟩) (by assumption) ?rf11
                  case hyf11 => (intro w hSw; (try dsimp only at hSw); go_simp <;> with_reducible rfl)
                  simp only [Act.put, List.setIfInBounds_toArray, List.set_cons_zero, List.set_cons_succ]
                  refine wpAnyH_take (i := 12) (v := ?vf12) rfl (by kernel_rfl) (by kernel_rfl) (by kernel_rfl) (fun _ _ _ h => h) (Or.inl ⟨by kernel_rfl, ?hyf12⟩) (by assumption) ?rf12
                  case hyf12 => (intro w hSw; (try dsimp only at hSw); go_simp <;> with_reducible rfl)
                  simp only [Act.put, List.setIfInBounds_toArray, List.set_cons_zero, List.set_cons_succ]
                  refine wpAnyH_take (i := 13) (v := ?vf13) rfl (by kernel_rfl) (by kernel_rfl) (by kernel_rfl) (fun _ _ _ h => h) (Or.inl ⟨by kernel_rfl, ?hyf13⟩) (by assumption) ?rf13
                  case hyf13 => (intro w hSw; (try dsimp only at hSw); go_simp <;> with_reducible rfl)
                  simp only [Act.put, List.setIfInBounds_toArray, List.set_cons_zero, List.set_cons_succ]
                  refine wpAnyH_take (i := 14) (v := ?vf14) rfl (by kernel_rfl) (by kernel_rfl) (by kernel_rfl) (fun _ _ _ h => h) (Or.inl ⟨by kernel_rfl, ?hyf14⟩) (by assumption) ?rf14
                  case hyf14 => (intro w hSw; (try dsimp only at hSw); go_simp <;> with_reducible rfl)
                  simp only [Act.put, List.setIfInBounds_toArray, List.set_cons_zero, List.set_cons_succ]
                  refine wpAnyH_take (i := 15) (v := ?vf15) rfl (by kernel_rfl) (by kernel_rfl) (by kernel_rfl) (fun _ _ _ h => h) (Or.inl ⟨by rfl, ?hyf15⟩) (by assumption) ?rf15
                  case hyf15 => (intro w hSw; (try dsimp only at hSw); go_simp <;> with_reducible rfl)
                  simp only [Act.put, List.setIfInBounds_toArray, List.set_cons_zero, List.set_cons_succ]
                  refine wpAnyH_take (i := 16) (v := ?vf16) rfl (by kernel_rfl) (by kernel_rfl) (by kernel_rfl) (fun _ _ _ h => h) (Or.inl ⟨by rfl, ?hyf16⟩) (by assumption) ?rf16
                  case hyf16 => (intro w hSw; (try dsimp only at hSw); go_simp <;> with_reducible rfl)
                  simp only [Act.put, List.setIfInBounds_toArray, List.set_cons_zero, List.set_cons_succ]
                  refine wpAnyH_take (i := 17) rfl (by kernel_rfl) (by kernel_rfl) (by kernel_rfl) (fun _ _ _ h => h) (Or.inr ⟨by kernel_rfl, rfl⟩) (by assumption) ?rf17
                  simp only [Act.put, List.setIfInBounds_toArray, List.set_cons_zero, List.set_cons_succ]
                  refine wpAnyH_take (i := 18) rfl (by kernel_rfl) (by kernel_rfl) (by kernel_rfl) (fun _ _ _ h => h) (Or.inr ⟨by kernel_rfl, rfl⟩) (by assumption) ?rf18
                  simp only [Act.put, List.setIfInBounds_toArray, List.set_cons_zero, List.set_cons_succ]
                  refine wpAnyH_take (i := 19) rfl (by kernel_rfl) (by kernel_rfl) (by kernel_rfl) (fun _ _ _ h => h) (Or.inr ⟨by kernel_rfl, rfl⟩) (by assumption) ?rf19
                  simp only [Act.put, List.setIfInBounds_toArray, List.set_cons_zero, List.set_cons_succ]
                  refine wpAnyH_take (i := 20) rfl (by kernel_rfl) (by kernel_rfl) (by kernel_rfl) (fun _ _ _ h => h) (Or.inr ⟨by kernel_rfl, rfl⟩) (by assumption) ?rf20
                  simp only [Act.put, List.setIfInBounds_toArray, List.set_cons_zero, List.set_cons_succ]
                  refine wpAnyH_take (i := 21) rfl (by kernel_rfl) (by kernel_rfl) (by kernel_rfl) (fun _ _ _ h => h) (Or.inr ⟨by kernel_rfl, rfl⟩) (by assumption) ?rf21
                  simp only [Act.put, List.setIfInBounds_toArray, List.set_cons_zero, List.set_cons_succ]
                  refine wpAnyH_take (i := 22) rfl (by kernel_rfl) (by kernel_rfl) (by kernel_rfl) (fun _ _ _ h => h) (Or.inr ⟨by kernel_rfl, rfl⟩) (by assumption) ?rf22
                  simp only [Act.put, List.setIfInBounds_toArray, List.set_cons_zero, List.set_cons_succ]
                  refine wpAnyH_take (i := 23) rfl (by kernel_rfl) (by kernel_rfl) (by kernel_rfl) (fun _ _ _ h => h) (Or.inr ⟨by kernel_rfl, rfl⟩) (by assumption) ?rf23
                  simp only [Act.put, List.setIfInBounds_toArray, List.set_cons_zero, List.set_cons_succ]
                  refine wpAnyH_take (i := 24) rfl (by kernel_rfl) (by kernel_rfl) (by kernel_rfl) (fun _ _ _ h => h) (Or.inr ⟨by kernel_rfl, rfl⟩) (by assumption) ?rf24
                  simp only [Act.put, List.setIfInBounds_toArray, List.set_cons_zero, List.set_cons_succ]
                  refine wpAnyH_take (i := 25) (v := ?vf25) rfl (by kernel_rfl) (by kernel_rfl) (by kernel_rfl) (fun _ _ _ h => h) (Or.inl ⟨by rfl, ?hyf25⟩) (by assumption) ?rf25
                  case hyf25 => (intro w hSw; (try dsimp only at hSw); go_simp <;> with_reducible rfl)
                  simp only [Act.put, List.setIfInBounds_toArray, List.set_cons_zero, List.set_cons_succ]
                  refine wpAnyH_done (by kernel_rfl) ?_ _
                  go_simp
                  go_wp2_with fail
                  go_meet
                  exact ⟨rfl, _, rfl, (Since.refl wa).drew⟩
                | false =>
                  have HGET := Lib.hid (HMG.out (Or.inr ⟨hone, rfl⟩))
                  clear hone
                  obtain ⟨gy, oy, ey, cs, hcl, hcs, vy, rfl, hky, _⟩ := hpy.at (HGET.out)
                  obtain ⟨uy, cy, rfl, _⟩ := hky.opened
                  subst ey
                  have z0 : wa.cell? ⟨gy, oy + k * 3, none⟩ = some (.bool false) := hcs 0 _ rfl
                  have z1 : wa.cell? ⟨gy, oy + k * 3 + 1, none⟩ = some (.int .i64 r) := hcs 1 _ rfl
                  have z2 : wa.cell? ⟨gy, oy + k * 3 + 2, none⟩ = some (.slice uy ks.length cy) := hcs 2 _ rfl
                  have HP1 : Hid (IsPeer wa.drew (.agg #[.bool false, .int .i64 r, .slice uu ks.length cu]) (false, r, ks)) := Lib.hid ⟨_, rfl, HKK.out.drew RKept.stays, HIR.out⟩
                  have HP2 : Hid (IsPeer wa.drew (.agg #[.bool false, .int .i64 r, .slice uy ks.length cy]) (false, r, ks)) := Lib.hid ⟨_, rfl, hky.drew RKept.stays, HIR.out⟩
                  have HSC : Hid (∀ w', Below wa.drew.heap.size wa.drew w' → w'.cell? ⟨Bp, 0, none⟩ = some (.bool false) ∧ w'.cell? ⟨Bp, 1, none⟩ = some (.int .i64 r) ∧ w'.cell? ⟨Bp, 2, none⟩ = some (.slice uu ks.length cu) ∧ w'.cell? ⟨B5, 1, none⟩ = some (.slice (some ⟨gy, oy, none⟩) ps.length c7) ∧ w'.cell? ⟨Bh, 1, none⟩ = some (.int .i64 n) ∧ w'.cell? ⟨gy, oy + k * 3, none⟩ = some (.bool false) ∧ w'.cell? ⟨gy, oy + k * 3 + 1, none⟩ = some (.int .i64 r) ∧ w'.cell? ⟨gy, oy + k * 3 + 2, none⟩ = some (.slice uy ks.length cy)) := Lib.hid (fun w' q => ⟨below_cell q f0, below_cell q f1, below_cell q f2, below_cell q f3, below_cell q f4, below_cell q z0, below_cell q z1, below_cell q z2⟩)
                  have hHc : wa.drew.cell? ⟨Bp, 0, none⟩ = some (.bool false) ∧ wa.drew.cell? ⟨Bp, 1, none⟩ = some (.int .i64 r) ∧ wa.drew.cell? ⟨Bp, 2, none⟩ = some (.slice uu ks.length cu) ∧ wa.drew.cell? ⟨B5, 1, none⟩ = some (.slice (some ⟨gy, oy, none⟩) ps.length c7) ∧ wa.drew.cell? ⟨Bh, 1, none⟩ = some (.int .i64 n) ∧ wa.drew.cell? ⟨gy, oy + k * 3, none⟩ = some (.bool false) ∧ wa.drew.cell? ⟨gy, oy + k * 3 + 1, none⟩ = some (.int .i64 r) ∧ wa.drew.cell? ⟨gy, oy + k * 3 + 2, none⟩ = some (.slice uy ks.length cy) := ⟨f0, f1, f2, f3, f4, z0, z1, z2⟩
                  clear hcs hcl hky hpy
                  refine wp_region_held_drew (S := fun w' => w'.cell? ⟨Bp, 0, none⟩ = some (.bool false) ∧ w'.cell? ⟨Bp, 1, none⟩ = some (.int .i64 r) ∧ w'.cell? ⟨Bp, 2, none⟩ = some (.slice uu ks.length cu) ∧ w'.cell? ⟨B5, 1, none⟩ = some (.slice (some ⟨gy, oy, none⟩) ps.length c7) ∧ w'.cell? ⟨Bh, 1, none⟩ = some (.int .i64 n) ∧ w'.cell? ⟨gy, oy + k * 3, none⟩ = some (.bool false) ∧ w'.cell? ⟨gy, oy + k * 3 + 1, none⟩ = some (.int .i64 r) ∧ w'.cell? ⟨gy, oy + k * 3 + 2, none⟩ = some (.slice uy ks.length cy)) (by kernel_rfl) hHc (fun _ => ?_)
                  refine wpAnyH_take (i := 0) (v := ?ve0) rfl (by kernel_rfl) (by kernel_rfl) (by kernel_rfl) (fun _ _ _ h => h) (Or.inl ⟨by rfl, ?hye0⟩) (by assumption) ?re0
                  case hye0 => (intro w hSw; (try dsimp only at hSw); go_simp <;> with_reducible rfl)
                  simp only [Act.put, List.setIfInBounds_toArray, List.set_cons_zero, List.set_cons_succ]
                  refine wpAnyH_take (i := 1) (v := ?ve1) rfl (by kernel_rfl) (by kernel_rfl) (by kernel_rfl) (fun _ _ _ h => h) (Or.inl ⟨by rfl, ?hye1⟩) (by assumption) ?re1
                  case hye1 => (intro w hSw; (try dsimp only at hSw); go_simp <;> with_reducible rfl)
                  simp only [Act.put, List.setIfInBounds_toArray, List.set_cons_zero, List.set_cons_succ]
                  refine wpAnyH_take (i := 2) rfl (by kernel_rfl) (by kernel_rfl) (by kernel_rfl) (fun _ _ _ h => h) (Or.inr ⟨by kernel_rfl, rfl⟩) (by assumption) ?re2
                  simp only [Act.put, List.setIfInBounds_toArray, List.set_cons_zero, List.set_cons_succ]
                  refine wpAnyH_take (i := 3) rfl (by kernel_rfl) (by kernel_rfl) (by kernel_rfl) (fun _ _ _ h => h) (Or.inr ⟨by kernel_rfl, rfl⟩) (by assumption) ?re3
                  simp only [Act.put, List.setIfInBounds_toArray, List.set_cons_zero, List.set_cons_succ]
                  refine wpAnyH_take (i := 4) rfl (by kernel_rfl) (by kernel_rfl) (by kernel_rfl) (fun _ _ _ h => h) (Or.inr ⟨by kernel_rfl, rfl⟩) (by assumption) ?re4
                  simp only [Act.put, List.setIfInBounds_toArray, List.set_cons_zero, List.set_cons_succ]
                  refine wpAnyH_take (i := 5) rfl (by kernel_rfl) (by kernel_rfl) (by kernel_rfl) (fun _ _ _ h => h) (Or.inr ⟨by kernel_rfl, rfl⟩) (by assumption) ?re5
                  simp only [Act.put, List.setIfInBounds_toArray, List.set_cons_zero, List.set_cons_succ]
                  refine wpAnyH_take (i := 6) (v := ?ve6) rfl (by kernel_rfl) (by kernel_rfl) (by kernel_rfl) (fun _ _ _ h => h) (Or.inl ⟨by rfl, ?hye6⟩) (by assumption) ?re6
                  case hye6 => (intro w hSw; (try dsimp only at hSw); go_simp <;> with_reducible rfl)
                  simp only [Act.put, List.setIfInBounds_toArray, List.set_cons_zero, List.set_cons_succ]
                  refine wpAnyH_take (i := 7) (v := ?ve7) rfl (by kernel_rfl) (by kernel_rfl) (by kernel_rfl) (fun _ _ _ h => h) (Or.inl ⟨by rfl, ?hye7⟩) (by assumption) ?re7
                  case hye7 => (intro w hSw; (try dsimp only at hSw); go_simp <;> with_reducible rfl)
                  simp only [Act.put, List.setIfInBounds_toArray, List.set_cons_zero, List.set_cons_succ]
                  refine wpAnyH_take (i := 8) (v := ?ve8) rfl (by kernel_rfl) (by kernel_rfl) (by kernel_rfl) (fun _ _ _ h => h) (Or.inl ⟨by kernel_rfl, ?hye8⟩) (by assumption) ?re8
                  case hye8 => (intro w hSw; (try dsimp only at hSw); go_simp <;> with_reducible rfl)
                  simp only [Act.put, List.setIfInBounds_toArray, List.set_cons_zero, List.set_cons_succ]
                  refine wpAnyH_take (i := 9) (v := ?ve9) rfl (by kernel_rfl) (by kernel_rfl) (by kernel_rfl) (fun _ _ _ h => h) (Or.inl ⟨by kernel_rfl, ?hye9⟩) (by assumption) ?re9
                  case hye9 => (intro w hSw; (try dsimp only at hSw); go_simp <;> with_reducible rfl)
                  simp only [Act.put, List.setIfInBounds_toArray, List.set_cons_zero, List.set_cons_succ]
                  refine wpAnyH_take (i := 10) (v := ?ve10) rfl (by kernel_rfl) (by kernel_rfl) (by kernel_rfl) (fun _ _ _ h => h) (Or.inl ⟨by kernel_rfl, ?hye10⟩) (by assumption) ?re10
                  case hye10 => (intro w hSw; (try dsimp only at hSw); go_simp <;> with_reducible rfl)
                  simp only [Act.put, List.setIfInBounds_toArray, List.set_cons_zero, List.set_cons_succ]
                  refine wpAnyH_take (i := 11) (v := ?ve11) rfl (by kernel_rfl) (by kernel_rfl) (by kernel_rfl) (fun _ _ _ h => h) (Or.inl ⟨by kernel_rfl, ?hye11⟩) (by assumption) ?re11
                  case hye11 => (intro w hSw; (try dsimp only at hSw); go_simp <;> with_reducible rfl)
                  simp only [Act.put, List.setIfInBounds_toArray, List.set_cons_zero, List.set_cons_succ]
                  refine wpAnyH_take (i := 12) (v := ?ve12) rfl (by kernel_rfl) (by kernel_rfl) (by kernel_rfl) (fun _ _ _ h => h) (Or.inl ⟨by kernel_rfl, ?hye12⟩) (by assumption) ?re12
                  case hye12 => (intro w hSw; (try dsimp only at hSw); go_simp <;> with_reducible rfl)
                  simp only [Act.put, List.setIfInBounds_toArray, List.set_cons_zero, List.set_cons_succ]
                  refine wpAnyH_take (i := 13) (v := ?ve13) rfl (by kernel_rfl) (by kernel_rfl) (by kernel_rfl) (fun _ _ _ h => h) (Or.inl ⟨by kernel_rfl, ?hye13⟩) (by assumption) ?re13
                  case hye13 => (intro w hSw; (try dsimp only at hSw); go_simp <;> with_reducible rfl)
                  simp only [Act.put, List.setIfInBounds_toArray, List.set_cons_zero, List.set_cons_succ]
                  refine wpAnyH_take (i := 14) (v := ?ve14) rfl (by kernel_rfl) (by kernel_rfl) (by kernel_rfl) (fun _ _ _ h => h) (Or.inl ⟨by kernel_rfl, ?hye14⟩) (by assumption) ?re14
                  case hye14 => (intro w hSw; (try dsimp only at hSw); go_simp <;> with_reducible rfl)
                  simp only [Act.put, List.setIfInBounds_toArray, List.set_cons_zero, List.set_cons_succ]
                  refine wpAnyH_take (i := 15) (v := ?ve15) rfl (by kernel_rfl) (by kernel_rfl) (by kernel_rfl) (fun _ _ _ h => h) (Or.inl ⟨by rfl, ?hye15⟩) (by assumption) ?re15
                  case hye15 => (intro w hSw; (try dsimp only at hSw); go_simp <;> with_reducible rfl)
                  simp only [Act.put, List.setIfInBounds_toArray, List.set_cons_zero, List.set_cons_succ]
                  refine wpAnyH_take (i := 16) (v := ?ve16) rfl (by kernel_rfl) (by kernel_rfl) (by kernel_rfl) (fun _ _ _ h => h) (Or.inl ⟨by rfl, ?hye16⟩) (by assumption) ?re16
                  case hye16 => (intro w hSw; (try dsimp only at hSw); go_simp <;> with_reducible rfl)
                  simp only [Act.put, List.setIfInBounds_toArray, List.set_cons_zero, List.set_cons_succ]
                  refine wpAnyH_take (i := 17) (v := ?ve17) rfl (by kernel_rfl) (by kernel_rfl) (by kernel_rfl) (fun _ _ _ h => h) (Or.inl ⟨by kernel_rfl, ?hye17⟩) (by assumption) ?re17
                  case hye17 => (intro w hSw; (try dsimp only at hSw); go_simp <;> with_reducible rfl)
                  simp only [Act.put, List.setIfInBounds_toArray, List.set_cons_zero, List.set_cons_succ]
                  refine wpAnyH_take (i := 18) (v := ?ve18) rfl (by kernel_rfl) (by kernel_rfl) (by kernel_rfl) (fun _ _ _ h => h) (Or.inl ⟨by kernel_rfl, ?hye18⟩) (by assumption) ?re18
                  case hye18 => (intro w hSw; (try dsimp only at hSw); go_simp <;> with_reducible rfl)
                  simp only [Act.put, List.setIfInBounds_toArray, List.set_cons_zero, List.set_cons_succ]
                  refine wpAnyH_take (i := 19) (v := ?ve19) rfl (by kernel_rfl) (by kernel_rfl) (by kernel_rfl) (fun _ _ _ h => h) (Or.inl ⟨by kernel_rfl, ?hye19⟩) (by assumption) ?re19
                  case hye19 => (intro w hSw; (try dsimp only at hSw); go_simp <;> with_reducible rfl)
                  simp only [Act.put, List.setIfInBounds_toArray, List.set_cons_zero, List.set_cons_succ]
                  refine wpAnyH_take (i := 20) (v := ?ve20) rfl (by kernel_rfl) (by kernel_rfl) (by kernel_rfl) (fun _ _ _ h => h) (Or.inl ⟨by kernel_rfl, ?hye20⟩) (by assumption) ?re20
                  case hye20 => (intro w hSw; (try dsimp only at hSw); go_simp <;> with_reducible rfl)
                  simp only [Act.put, List.setIfInBounds_toArray, List.set_cons_zero, List.set_cons_succ]
                  refine wpAnyH_take (i := 21) (v := ?ve21) rfl (by kernel_rfl) (by kernel_rfl) (by kernel_rfl) (fun _ _ _ h => h) (Or.inl ⟨by kernel_rfl, ?hye21⟩) (by assumption) ?re21
                  case hye21 => (intro w hSw; (try dsimp only at hSw); go_simp <;> with_reducible rfl)
                  simp only [Act.put, List.setIfInBounds_toArray, List.set_cons_zero, List.set_cons_succ]
                  refine wpAnyH_take (i := 22) (v := ?ve22) rfl (by kernel_rfl) (by kernel_rfl) (by kernel_rfl) (fun _ _ _ h => h) (Or.inl ⟨by kernel_rfl, ?hye22⟩) (by assumption) ?re22
                  case hye22 => (intro w hSw; (try dsimp only at hSw); go_simp <;> with_reducible rfl)
                  simp only [Act.put, List.setIfInBounds_toArray, List.set_cons_zero, List.set_cons_succ]
                  refine wpAnyH_ready (rs := [23]) (by kernel_rfl) (by simp) ?_
                  refine AllReadyH.cons (o := ?oeq23) ?hoeq23 (fun K' hK' => ?keq23) AllReadyH.nil
                  case hoeq23 => (simp only [List.getElem?_toArray, List.getElem?_cons_succ, List.getElem?_cons_zero]; rfl)
                  go_simp
                  go_at_call 9
                  go_fit (SamePr_any _ _ _ _ _ HP1.out HP2.out)
                  rintro e wd ⟨rfl, hbd⟩
                  rw [HPE.out]
                  try go_wp2_with fail
                  refine hK'.out _ _ (HSC.out _ hbd) (fun _ => ?_)
                  clear hK' K'
                  have hHd := HSC.out _ hbd
                  refine wpAnyH_take (i := 24) (v := ?ver24) rfl (by kernel_rfl) (by kernel_rfl) (by kernel_rfl) (fun _ _ _ h => h) (Or.inl ⟨by kernel_rfl, ?hyer24⟩) (by exact hHd) ?rer24
                  case hyer24 => (intro w hSw; (try dsimp only at hSw); go_simp <;> with_reducible rfl)
                  simp only [Act.put, List.setIfInBounds_toArray, List.set_cons_zero, List.set_cons_succ]
                  refine wpAnyH_take (i := 25) (v := ?ver25) rfl (by kernel_rfl) (by kernel_rfl) (by kernel_rfl) (fun _ _ _ h => h) (Or.inl ⟨by rfl, ?hyer25⟩) (by exact hHd) ?rer25
                  case hyer25 => (intro w hSw; (try dsimp only at hSw); go_simp <;> with_reducible rfl)
                  simp only [Act.put, List.setIfInBounds_toArray, List.set_cons_zero, List.set_cons_succ]
                  refine wpAnyH_done (by kernel_rfl) ?_ _
                  go_simp
                  go_wp2_with fail
                  go_meet
                  exact ⟨rfl, _, rfl, (Since.refl wa).drew.step hbd⟩
            case rest =>
              obtain ⟨rfl, wz, rfl, hSz⟩ := hcut
              have Tz := HTA.out.step hSz.below
              clear f0 f1 f2 f3 f4 hpy
              go_wp2_with fail
              go_roundw
              case rel => exact ⟨k + 1, by omega, by go_num, Tz⟩
              case measure => simp [intOf]; omega
        · have hke : ¬ ((k : Int) < (ps.length : Int)) := by omega
          go_wp2_with fail
          go_ret
          exact ⟨rfl, (S2.step hSr.below).below⟩
  · have hne : (E != 0) = true := by simpa using hE0
    have S1 := S0.step hb1
    have S2 := S1.alloc (.cells #[.slice a6 M.1.length c6, .slice a7 M.2.length c7] 27)
    clear ho1
    go_upto_region 3 with (go_at_call 6; go_fit (HT.out _); rintro e w3 ⟨rfl, hb3⟩)
    go_wp2_with (go_at_call 6; go_fit (HT.out _); rintro e w4 ⟨rfl, hb4⟩)
    go_ret
    exact ⟨rfl, ((S2.step hb3).step hb4).below⟩
end Go.Proofs.YtnpdojjffbhalaaGreat
