/-
  peer.Drop: what is dropped is the call's own, all through.
-/
import Derived.Test.YtnidbghgadnjeaaGreatDrop
import Derived.Test.YtnidbghgadnjeaaGreatDelR
namespace Go.Proofs.YtnidbghgadnjeaaGreat
open Go.RowKit

set_option maxRecDepth 100000 in
set_option maxHeartbeats 4000000 in
theorem Drop_deep (vb : Value) (b : List Ver) (u : Value) (p : Pr) (v : Int) (W : World) (hb : IsVers W vb b) (hu : IsKepts W u p.2.2) (hi : I64 p.2.1) :
    Calls Tryz.prog 98 #[.agg #[vb], .agg #[.bool p.1, .int .i64 p.2.1, u], .int .i64 v] W fun e w' =>
      (∃ v', e = .returned (.tuple #[.agg #[.bool (dropC b p v).1, .int .i64 (dropC b p v).2.1, v'], .int .i64 (peerV b p)]) ∧ OwnD w' W.heap.size v' (dropC b p v).2.2) ∧ Below W.heap.size W w' := by
  obtain ⟨ab, cb, rfl, hcb, ⟨hbm, hbc, _⟩, _⟩ := hb.opened
  obtain ⟨au, cu, rfl, hcu, ⟨hum, huc, _⟩, _⟩ := hu.opened
  obtain ⟨t, r, l⟩ := p
  simp only at hu hi hcu hum hcb ⊢
  obtain ⟨w0, hw0⟩ : ∃ w0, w0 = (((W.alloc (.cells #[.slice ab b.length cb] 32)).alloc (.cells #[.bool t, .int .i64 r, .slice au l.length cu] 78)).alloc (.cells #[.int .i64 v] 3)).alloc (.cells #[.bool false, .int .i64 0, .slice none 0 0] 78) := ⟨_, rfl⟩
  have S0 := ((((Since.refl W).alloc (.cells #[.slice ab b.length cb] 32)).alloc (.cells #[.bool t, .int .i64 r, .slice au l.length cu] 78)).alloc (.cells #[.int .i64 v] 3)).alloc (.cells #[.bool false, .int .i64 0, .slice none 0 0] 78)
  rw [← hw0] at S0
  have a0 : w0.cell? ⟨W.heap.size, 0, none⟩ = some (.slice ab b.length cb) := by rw [hw0]; go_simp
  have p0 : w0.cell? ⟨W.heap.size + 1, 0, none⟩ = some (.bool t) := by rw [hw0]; go_simp
  have p1 : w0.cell? ⟨W.heap.size + 1, 1, none⟩ = some (.int .i64 r) := by rw [hw0]; go_simp
  have p2 : w0.cell? ⟨W.heap.size + 1, 2, none⟩ = some (.slice au l.length cu) := by rw [hw0]; go_simp
  have p3 : ∀ j, w0.frozen? ⟨W.heap.size + 1, j, none⟩ = false := by intro j; rw [hw0]; go_simp
  have k0 : w0.cell? ⟨W.heap.size + 2, 0, none⟩ = some (.int .i64 v) := by rw [hw0]; go_simp
  have q0 : w0.cell? ⟨W.heap.size + 3, 0, none⟩ = some (.bool false) := by rw [hw0]; go_simp
  have q1 : w0.cell? ⟨W.heap.size + 3, 1, none⟩ = some (.int .i64 0) := by rw [hw0]; go_simp
  have q2 : w0.cell? ⟨W.heap.size + 3, 2, none⟩ = some (.slice none 0 0) := by rw [hw0]; go_simp
  have q3 : ∀ j, w0.frozen? ⟨W.heap.size + 3, j, none⟩ = false := by intro j; rw [hw0]; go_simp
  have hsz0 : w0.heap.size = W.heap.size + 4 := by rw [hw0]; simp
  have HW := Lib.hid hw0
  clear hw0
  obtain ⟨B3, hB3⟩ : ∃ B3, B3 = W.heap.size := ⟨_, rfl⟩
  obtain ⟨B4, hB4⟩ : ∃ B4, B4 = W.heap.size + 1 := ⟨_, rfl⟩
  obtain ⟨B5, hB5⟩ : ∃ B5, B5 = W.heap.size + 2 := ⟨_, rfl⟩
  obtain ⟨B6, hB6⟩ : ∃ B6, B6 = W.heap.size + 3 := ⟨_, rfl⟩
  rw [← hB6] at q0 q1 q2 q3
  rw [← hB5] at k0
  rw [← hB4] at p0 p1 p2 p3
  rw [← hB3] at a0
  have l3 : B3 < w0.heap.size := by omega
  have l4 : B4 < w0.heap.size := by omega
  have l5 : B5 < w0.heap.size := by omega
  have l6 : B6 < w0.heap.size := by omega
  have m4 : W.heap.size ≤ B4 := by omega
  have m6 : W.heap.size ≤ B6 := by omega
  have n34 : ¬ B3 = B4 := by omega
  have n46 : ¬ B4 = B6 := by omega
  have n54 : ¬ B5 = B4 := by omega
  have n64 : ¬ B6 = B4 := by omega
  have n56 : ¬ B5 = B6 := by omega
  have HB3 := Lib.hid hB3
  have HB4 := Lib.hid hB4
  have HB5 := Lib.hid hB5
  have HB6 := Lib.hid hB6
  clear hB3 hB4 hB5 hB6 hsz0
  have HS0 := Lib.hid S0
  have hvb0 := hb.stays RVer.stays S0.below
  have hvu0 := hu.stays RKept.stays S0.below
  clear S0 hb hu
  go_enter Tryz.func98, Tryz.ntmps98
  go_upto_region 1 with fail
  rw [← HW.out, ← HB6.out, ← HB5.out, ← HB4.out, ← HB3.out]
  go_upto_region 2 with (go_at_call 122; refine (peerCheck_any _ b _ (t, r, l) _ hvb0 hvu0 hi).mono ?_; rintro e w1 ⟨rfl, hb1⟩)
  have S1 := (Since.refl w0).step hb1
  have b40 := below_cell hb1 p0
  have b41 := below_cell hb1 p1
  have b42 := below_cell hb1 p2
  have g40 := below_free hb1 p0 (p3 0)
  have g41 := below_free hb1 p1 (p3 1)
  have g42 := below_free hb1 p2 (p3 2)
  have b5 := below_cell hb1 k0
  have b60 := below_cell hb1 q0
  have b61 := below_cell hb1 q1
  have b62 := below_cell hb1 q2
  have g60 := below_free hb1 q0 (q3 0)
  have g61 := below_free hb1 q1 (q3 1)
  have g62 := below_free hb1 q2 (q3 2)
  have hvu1 := hvu0.stays RKept.stays hb1
  clear a0 p0 p1 p2 p3 k0 q0 q1 q2 q3 hvb0 hvu0 hb1
  by_cases h0 : peerV b (t, r, l) = 0
  · have hok := peerV_ok.1 h0
    have hl20 : (l.length : Int) ≤ 20 := by
      have h1 := hok.few
      have h2 := hok.room
      simp only at h1 h2
      omega
    have HRISE := Lib.hid (rise_one hok.rise v)
    have HC := Lib.hid (show dropC b (t, r, l) v = (t, r, dropK v l) by unfold dropC; rw [if_pos h0])
    have H0 := Lib.hid h0
    rw [h0]
    clear h0 hok
    go_upto_region 5 with (go_at_call 87; refine (peerCopy_deep t r _ l _ hvu1 (by omega)).mono ?_; rintro e w3 ⟨⟨v3, zs3, rfl, hm3, hd3⟩, hb3⟩; have ho3 : OwnD w3 w1.heap.size v3 l := ⟨zs3, hm3, hd3⟩; obtain ⟨a3, cp3, rfl, hcp3, ⟨_, hcm3, _⟩, _⟩ := ho3.isKepts.opened; clear hm3 hd3; have d40 := below_cell hb3 b40; have d41 := below_cell hb3 b41; have d42 := below_cell hb3 b42; have x40 := below_free hb3 b40 g40; have x41 := below_free hb3 b41 g41; have x42 := below_free hb3 b42 g42)
    have hwb := HS0.out.2
    have hlo := ho3.lt
    have hs1 := S1.2
    have hn4 : (Value.slice a3 l.length cp3).ownBlock = none ∨ (Value.slice a3 l.length cp3).ownBlock ≠ some B4 := by
      cases hq : (Value.slice a3 l.length cp3).ownBlock with
      | none => exact Or.inl rfl
      | some j => right; intro e; cases e; have := (hlo _ hq).1; omega
    have hEB : ∀ j, some B4 = some j → j < w1.heap.size := fun j hj => by cases hj; omega
    have ho4 := ((ho3.kept (grown_setCell w3 ⟨B4, 0, none⟩ (.bool t)) hEB).kept (grown_setCell _ ⟨B4, 1, none⟩ (.int .i64 r)) hEB).kept (grown_setCell _ ⟨B4, 2, none⟩ (.slice a3 l.length cp3)) hEB
    have S4 : Since W.heap.size W (((w3.setCell ⟨B4, 0, none⟩ (.bool t)).setCell ⟨B4, 1, none⟩ (.int .i64 r)).setCell ⟨B4, 2, none⟩ (.slice a3 l.length cp3)) := (((HS0.out.step (S1.step hb3).below).setCell (a := ⟨B4, 0, none⟩) m4 (.bool t)).setCell (a := ⟨B4, 1, none⟩) m4 (.int .i64 r)).setCell (a := ⟨B4, 2, none⟩) m4 (.slice a3 l.length cp3)
    have c5 := below_cell hb3 b5
    have c60 := below_cell hb3 b60
    have c61 := below_cell hb3 b61
    have c62 := below_cell hb3 b62
    have y60 := below_free hb3 b60 g60
    have y61 := below_free hb3 b61 g61
    have y62 := below_free hb3 b62 g62
    obtain ⟨w4, hw4⟩ : ∃ w4, w4 = ((w3.setCell ⟨B4, 0, none⟩ (.bool t)).setCell ⟨B4, 1, none⟩ (.int .i64 r)).setCell ⟨B4, 2, none⟩ (.slice a3 l.length cp3) := ⟨_, rfl⟩
    have v40 : w4.cell? ⟨B4, 0, none⟩ = some (.bool t) := by rw [hw4]; go_simp
    have v41 : w4.cell? ⟨B4, 1, none⟩ = some (.int .i64 r) := by rw [hw4]; go_simp
    have v42 : w4.cell? ⟨B4, 2, none⟩ = some (.slice a3 l.length cp3) := by rw [hw4]; go_simp
    have v5 : w4.cell? ⟨B5, 0, none⟩ = some (.int .i64 v) := by rw [hw4]; go_simp
    have v60 : w4.cell? ⟨B6, 0, none⟩ = some (.bool false) := by rw [hw4]; go_simp
    have v61 : w4.cell? ⟨B6, 1, none⟩ = some (.int .i64 0) := by rw [hw4]; go_simp
    have v62 : w4.cell? ⟨B6, 2, none⟩ = some (.slice none 0 0) := by rw [hw4]; go_simp
    have z60 : w4.frozen? ⟨B6, 0, none⟩ = false := by rw [hw4]; go_simp
    have z61 : w4.frozen? ⟨B6, 1, none⟩ = false := by rw [hw4]; go_simp
    have z62 : w4.frozen? ⟨B6, 2, none⟩ = false := by rw [hw4]; go_simp
    have z42 : w4.frozen? ⟨B4, 2, none⟩ = false := by rw [hw4]; go_simp
    rw [← hw4] at ho4 S4 ⊢
    clear hw4 ho3 hn4 hEB hb3 c5 c60 c61 c62 y60 y61 y62 b40 b41 b42 g40 g41 g42 b5 b60 b61 b62 g60 g61 g62 d40 d41 d42 x40 x41 x42 hvu1
    have hlo4 : ∀ k, k < w0.heap.size → some k ≠ (Value.slice a3 l.length cp3).ownBlock := fun k hk e => by have := (hlo k e.symm).1; omega
    have l5' := cell_lt v5
    obtain ⟨zs4, hm4, hd4⟩ := ho4
    have HDEL := Lib.hid (DeleteFuncKepts_deep 139 (fun _ _ => rfl) #[.pointer (some ⟨B5, 0, none⟩)] (fun x => decide (x.1 = v)) w1.heap.size (.slice a3 l.length cp3) zs4 w4 hd4 (by rw [hm4]; exact HRISE.out)
      (by rw [hm4]; exact IndexKepts_any 139 (fun _ _ => rfl) #[.pointer (some ⟨B5, 0, none⟩)] (fun x => decide (x.1 = v)) _ l w4 (hm4 ▸ hd4.isKepts) (fun u z w _ hSw hk => DropOne_any u z v B5 w hk ((hSw.below.cell (p := ⟨B5, 0, none⟩) l5').trans v5)))
      (fun u z w hg hk => DropOne_any u z v B5 w hk (hg.cell v5 (hlo4 B5 l5))))
    rw [hm4] at HDEL
    clear hm4 hd4
    have HLO := Lib.hid hlo
    have HLO4 := Lib.hid hlo4
    clear hlo hlo4
    go_upto_region 6 with (go_at_call 138; refine HDEL.out.mono ?_; rintro e w5 ⟨⟨v5', rfl, ho5⟩, hg5⟩; rw [dropK_filter] at ho5; obtain ⟨a5, c5, rfl, hc5, ⟨_, hcm5, _⟩, _⟩ := ho5.isKepts.opened; have e42 := hg5.cell v42 (HLO4.out B4 l4); have x42 := grown_free hg5 v42 z42 (HLO4.out B4 l4))
    have e40 := hg5.cell v40 (HLO4.out B4 l4)
    have e41 := hg5.cell v41 (HLO4.out B4 l4)
    have e60 := hg5.cell v60 (HLO4.out B6 l6)
    have e61 := hg5.cell v61 (HLO4.out B6 l6)
    have e62 := hg5.cell v62 (HLO4.out B6 l6)
    have x60 := grown_free hg5 v60 z60 (HLO4.out B6 l6)
    have x61 := grown_free hg5 v61 z61 (HLO4.out B6 l6)
    have x62 := grown_free hg5 v62 z62 (HLO4.out B6 l6)
    obtain ⟨L8, hL8⟩ : ∃ L8, L8 = dropK v l := ⟨_, rfl⟩
    rw [← hL8] at ho5 hc5 HC ⊢
    have hn : ∀ k, k < w0.heap.size → (Value.slice a5 L8.length c5).ownBlock = none ∨ (Value.slice a5 L8.length c5).ownBlock ≠ some k := fun k hk => by
      cases hq : (Value.slice a5 L8.length c5).ownBlock with
      | none => exact Or.inl rfl
      | some m => right; intro e; cases e; have := (ho5.lt _ hq).1; omega
    have hE4 : ∀ m, some B4 = some m → m < w1.heap.size := fun m hm => by cases hm; omega
    have hE6 : ∀ m, some B6 = some m → m < w1.heap.size := fun m hm => by cases hm; omega
    have ho6 := ho5.kept (grown_setCell w5 ⟨B4, 2, none⟩ (.slice a5 L8.length c5)) hE4
    have S6 := (S4.grown hg5 (fun k hk => by have := (HLO.out k hk).1; omega)).setCell (a := ⟨B4, 2, none⟩) m4 (.slice a5 L8.length c5)
    have u40 : (w5.setCell ⟨B4, 2, none⟩ (.slice a5 L8.length c5)).cell? ⟨B4, 0, none⟩ = some (.bool t) := by go_simp
    have u41 : (w5.setCell ⟨B4, 2, none⟩ (.slice a5 L8.length c5)).cell? ⟨B4, 1, none⟩ = some (.int .i64 r) := by go_simp
    have u42 : (w5.setCell ⟨B4, 2, none⟩ (.slice a5 L8.length c5)).cell? ⟨B4, 2, none⟩ = some (.slice a5 L8.length c5) := by go_simp
    have u60 := (cell_set_other w5 B4 2 (.slice a5 L8.length c5) (p := ⟨B6, 0, none⟩) n64).trans e60
    have u61 := (cell_set_other w5 B4 2 (.slice a5 L8.length c5) (p := ⟨B6, 1, none⟩) n64).trans e61
    have u62 := (cell_set_other w5 B4 2 (.slice a5 L8.length c5) (p := ⟨B6, 2, none⟩) n64).trans e62
    have y60 := (free_set_other w5 B4 2 (.slice a5 L8.length c5) (p := ⟨B6, 0, none⟩) n64).trans x60
    have y61 := (free_set_other w5 B4 2 (.slice a5 L8.length c5) (p := ⟨B6, 1, none⟩) n64).trans x61
    have y62 := (free_set_other w5 B4 2 (.slice a5 L8.length c5) (p := ⟨B6, 2, none⟩) n64).trans x62
    clear e40 e41 e42 e60 e61 e62 x42 x60 x61 x62 ho5 hg5 v40 v41 v42 v5 v60 v61 v62 z60 z61 z62 z42 hL8
    generalize w5.setCell ⟨B4, 2, none⟩ (.slice a5 L8.length c5) = w6 at *
    go_wp2_with fail
    obtain ⟨f0, f1, f2⟩ := cells3 (w := w6) (B := B6) (x := .bool t) (y := .int .i64 r) (z := .slice a5 L8.length c5) (by rw [u60]; rfl) (by rw [u61]; rfl) (by rw [u62]; rfl)
    have ho11 := (((ho6.kept (grown_setCell w6 ⟨B6, 0, none⟩ (.bool t)) hE6).kept (grown_setCell _ ⟨B6, 1, none⟩ (.int .i64 r)) hE6).kept (grown_setCell _ ⟨B6, 2, none⟩ (.slice a5 L8.length c5)) hE6)
    have S11 := ((S6.setCell (a := ⟨B6, 0, none⟩) m6 (.bool t)).setCell (a := ⟨B6, 1, none⟩) m6 (.int .i64 r)).setCell (a := ⟨B6, 2, none⟩) m6 (.slice a5 L8.length c5)
    have HO11 := Lib.hid (ho11.mono (b := W.heap.size) (by omega))
    clear u40 u41 u42 u60 u61 u62 y60 y61 y62 ho11 ho6 hn
    generalize ((w6.setCell ⟨B6, 0, none⟩ (.bool t)).setCell ⟨B6, 1, none⟩ (.int .i64 r)).setCell ⟨B6, 2, none⟩ (.slice a5 L8.length c5) = w11 at *
    exact bodyPost_ret (v := .tuple #[.agg #[.bool t, .int .i64 r, .slice a5 L8.length c5], .int .i64 0]) (by simp [results, Tryz.results98, go_sem, f0, f1, f2]) rfl ⟨⟨_, by rw [HC.out, H0.out], by rw [HC.out]; exact HO11.out⟩, S11.below⟩
  · have HC := Lib.hid (show dropC b (t, r, l) v = (false, 0, []) by unfold dropC; rw [if_neg h0])
    have hne : (peerV b (t, r, l) != 0) = true := by simpa using h0
    clear h0
    go_wp2_with fail
    obtain ⟨f0, f1, f2⟩ := cells3 (w := w1) (B := B6) (x := .bool false) (y := .int .i64 0) (z := .slice none 0 0) (by rw [b60]; rfl) (by rw [b61]; rfl) (by rw [b62]; rfl)
    have S11 := (((HS0.out.step S1.below).setCell (a := ⟨B6, 0, none⟩) m6 (.bool false)).setCell (a := ⟨B6, 1, none⟩) m6 (.int .i64 0)).setCell (a := ⟨B6, 2, none⟩) m6 (.slice none 0 0)
    clear b40 b41 b42 g40 g41 g42 b5 b60 b61 b62 g60 g61 g62
    generalize ((w1.setCell ⟨B6, 0, none⟩ (.bool false)).setCell ⟨B6, 1, none⟩ (.int .i64 0)).setCell ⟨B6, 2, none⟩ (.slice none 0 0) = w11 at *
    exact bodyPost_ret (v := .tuple #[.agg #[.bool false, .int .i64 0, .slice none 0 0], .int .i64 (peerV b (t, r, l))]) (by simp [results, Tryz.results98, go_sem, f0, f1, f2]) rfl ⟨⟨_, by rw [HC.out], by rw [HC.out]; exact OwnD.nil _ _⟩, S11.below⟩

end Go.Proofs.YtnidbghgadnjeaaGreat
