/-
  The walk of a peer's copy.
-/
import Derived.Test.YtpjlngkndofjfaaPeer4
namespace Go.Proofs.Ytpjlngkndofjfaa
open Go.RowKit

set_option maxRecDepth 100000 in
set_option maxHeartbeats 2000000 in
theorem peerCopy_any (t : Bool) (r : Int) (v : Value) (b : List Kp) (W : World) (hv : IsKepts W v b) (hb : b.length ≤ 1000000) :
    Calls Try.prog 35 #[.agg #[.bool t, .int .i64 r, v]] W fun e w' => (∃ v', e = .returned (.agg #[.bool t, .int .i64 r, v']) ∧ OwnRow 3 RKept (fun k => k < W.heap.size) w' 44 W.heap.size v' b) ∧ Below W.heap.size W w' := by
  obtain ⟨a, c, rfl, hc, ⟨hm, hcm, _⟩, _⟩ := hv.opened
  have S0 := ((Since.refl W).alloc (.cells #[.bool t, .int .i64 r, .slice a b.length c] 37)).alloc (.cells #[.bool false, .int .i64 0, .slice none 0 0] 37)
  obtain ⟨w0, hw0⟩ : ∃ w0, w0 = (W.alloc (.cells #[.bool t, .int .i64 r, .slice a b.length c] 37)).alloc (.cells #[.bool false, .int .i64 0, .slice none 0 0] 37) := ⟨_, rfl⟩
  have p0 : w0.cell? ⟨W.heap.size, 0, none⟩ = some (.bool t) := by rw [hw0]; go_simp
  have p1 : w0.cell? ⟨W.heap.size, 1, none⟩ = some (.int .i64 r) := by rw [hw0]; go_simp
  have p2 : w0.cell? ⟨W.heap.size, 2, none⟩ = some (.slice a b.length c) := by rw [hw0]; go_simp
  have p3 : w0.frozen? ⟨W.heap.size, 2, none⟩ = false := by rw [hw0]; go_simp
  have q0 : w0.cell? ⟨W.heap.size + 1, 0, none⟩ = some (.bool false) := by rw [hw0]; go_simp
  have q1 : w0.cell? ⟨W.heap.size + 1, 1, none⟩ = some (.int .i64 0) := by rw [hw0]; go_simp
  have q2 : w0.cell? ⟨W.heap.size + 1, 2, none⟩ = some (.slice none 0 0) := by rw [hw0]; go_simp
  have q3 : ∀ j, w0.frozen? ⟨W.heap.size + 1, j, none⟩ = false := by intro j; rw [hw0]; go_simp
  have hsz0 : w0.heap.size = W.heap.size + 2 := by rw [hw0]; simp
  rw [← hw0] at S0
  have HW := Lib.hid hw0
  clear hw0
  obtain ⟨B, hB⟩ : ∃ B, B = W.heap.size := ⟨_, rfl⟩
  obtain ⟨B1, hB1⟩ : ∃ B1, B1 = W.heap.size + 1 := ⟨_, rfl⟩
  have hBW : W.heap.size ≤ B := by omega
  have hBW1 : W.heap.size ≤ B1 := by omega
  have hBB : ¬ B1 = B := by omega
  have hBB' : ¬ B = B1 := by omega
  have hB0 : B < w0.heap.size := by omega
  have hB10 : B1 < w0.heap.size := by omega
  rw [← hB1] at q0 q1 q2 q3
  rw [← hB] at p0 p1 p2 p3
  have HB := Lib.hid hB
  have HB1 := Lib.hid hB1
  clear hB hB1 hsz0
  have HDW := Lib.hid (Dirty.old S0.below (fun _ => False))
  go_enter Try.func35, Try.ntmps35
  go_upto_region 1 with fail
  rw [← HW.out, ← HB1.out, ← HB.out]
  go_wp2_with (go_at_call 43; refine (CloneKepts_any _ b W _ HDW.out hv hb).mono ?_; rintro e w1 ⟨⟨v1, rfl, ho1⟩, hb1⟩; obtain ⟨a1, cp1, rfl, hcp1, ⟨_, hcpm, _⟩, _⟩ := ho1.isRow.opened; have e0 := below_cell hb1 p0; have e1 := below_cell hb1 p1; have e2 := below_cell hb1 p2; have e3 := below_free hb1 p2 p3; have k0 := below_cell hb1 q0; have k1 := below_cell hb1 q1; have k2 := below_cell hb1 q2; have hh1 := hB10; have k3 : ∀ j, w1.frozen? ⟨B1, j, none⟩ = false := fun j => (hb1.frozen (p := ⟨B1, j, none⟩) hB10).trans (q3 j))
  have hlo := ho1.lt
  have hn2 : (Value.slice a1 b.length cp1).ownBlock = none ∨ (Value.slice a1 b.length cp1).ownBlock ≠ some B := by
    cases hk : (Value.slice a1 b.length cp1).ownBlock with
    | none => exact Or.inl rfl
    | some k => right; intro e; cases e; have := (hlo B hk).1; omega
  have ho2 := (ho1.weaken (E' := fun k => W.heap.size ≤ k ∧ k < w0.heap.size) (fun k _ h => Or.inl h.1)).kept (grown_setCell w1 ⟨B, 2, none⟩ (.slice a1 b.length cp1)) (by intro k hk; cases hk; exact ⟨hBW, hB0⟩) hn2
  have ho3 := ho2.flag (C := numsIn (fun k => w0.heap.size ≤ k ∧ (Value.slice a1 b.length cp1).ownBlock ≠ some k))
  have HOB := Lib.hid (fun k hk => (hlo k hk).1)
  have S3 := (S0.step hb1).setCell (a := ⟨B, 2, none⟩) hBW (.slice a1 b.length cp1)
  have hs3 : w0.heap.size ≤ (w1.setCell ⟨B, 2, none⟩ (.slice a1 b.length cp1)).heap.size := by have := hb1.size; simpa using this
  have m0 : (w1.setCell ⟨B, 2, none⟩ (.slice a1 b.length cp1)).cell? ⟨B, 0, none⟩ = some (.bool t) := by go_simp
  have m1 : (w1.setCell ⟨B, 2, none⟩ (.slice a1 b.length cp1)).cell? ⟨B, 1, none⟩ = some (.int .i64 r) := by go_simp
  have m2 : (w1.setCell ⟨B, 2, none⟩ (.slice a1 b.length cp1)).cell? ⟨B, 2, none⟩ = some (.slice a1 b.length cp1) := by go_simp
  have j0 : (w1.setCell ⟨B, 2, none⟩ (.slice a1 b.length cp1)).cell? ⟨B1, 0, none⟩ = some (.bool false) := by go_simp
  have j1 : (w1.setCell ⟨B, 2, none⟩ (.slice a1 b.length cp1)).cell? ⟨B1, 1, none⟩ = some (.int .i64 0) := by go_simp
  have j2 : (w1.setCell ⟨B, 2, none⟩ (.slice a1 b.length cp1)).cell? ⟨B1, 2, none⟩ = some (.slice none 0 0) := by go_simp
  have j3 : ∀ j, (w1.setCell ⟨B, 2, none⟩ (.slice a1 b.length cp1)).frozen? ⟨B1, j, none⟩ = false := by intro j; rw [World.frozen?_setCell]; exact k3 j
  clear ho1 ho2 hlo hn2 e0 e1 e2 e3 k0 k1 k2 k3 hb1 p0 p1 p2 p3 q0 q1 q2 q3
  generalize w1.setCell ⟨B, 2, none⟩ (.slice a1 b.length cp1) = w3 at *
  have HSB : Hid (∀ w', Since w0.heap.size w3 w' → w'.cell? ⟨B, 2, none⟩ = some (.slice a1 b.length cp1)) := Lib.hid (fun w' q => (q.below.cell (p := ⟨B, 2, none⟩) hB0).trans m2)
  have HSC : Hid (∀ w', Since w0.heap.size w3 w' → w'.cell? ⟨B, 0, none⟩ = some (.bool t) ∧ w'.cell? ⟨B, 1, none⟩ = some (.int .i64 r) ∧ w'.cell? ⟨B1, 0, none⟩ = some (.bool false) ∧ w'.cell? ⟨B1, 1, none⟩ = some (.int .i64 0) ∧ w'.cell? ⟨B1, 2, none⟩ = some (.slice none 0 0) ∧ ∀ j, w'.frozen? ⟨B1, j, none⟩ = false) :=
    Lib.hid (fun w' q => ⟨(q.below.cell (p := ⟨B, 0, none⟩) hB0).trans m0, (q.below.cell (p := ⟨B, 1, none⟩) hB0).trans m1, (q.below.cell (p := ⟨B1, 0, none⟩) hB10).trans j0, (q.below.cell (p := ⟨B1, 1, none⟩) hB10).trans j1, (q.below.cell (p := ⟨B1, 2, none⟩) hB10).trans j2, fun j => (q.below.frozen (p := ⟨B1, j, none⟩) hB10).trans (j3 j)⟩)
  clear m0 m1 m2 j0 j1 j2 j3
  have HS3 := Lib.hid S3
  have HS0 := Lib.hid S0.2
  go_loopw [12] (fun i wr => ∃ k : Nat, k ≤ b.length ∧ i = .int .i64 k ∧ Since w0.heap.size w3 wr ∧ OwnRow 3 (RFlag RKept (numsIn (fun k => w0.heap.size ≤ k ∧ (Value.slice a1 b.length cp1).ownBlock ≠ some k))) (fun k => W.heap.size ≤ k ∧ k < w0.heap.size) wr 44 w0.heap.size (.slice a1 b.length cp1) (flagL b k)) (fun i _ => b.length - (intOf i).toNat)
  case atStart => exact ⟨0, by omega, rfl, ⟨Below.refl _ _, hs3⟩, ho3⟩
  case round =>
    obtain ⟨k, hk, rfl, hS, ho⟩ := hrel
    clear S3 hs3 ho3 S0
    by_cases hlt : k < b.length
    · have hx : b[k]? = some b[k] := List.getElem?_eq_getElem hlt
      generalize b[k] = x at *
      obtain ⟨g, cap, u, cu, ev, hg1, hg2, hcap, k0, n1, n2, hp, i1, i2, fz⟩ := ownKept_at ho.unflag hx
      simp only [Value.slice.injEq, true_and] at ev
      obtain ⟨rfl, rfl⟩ := ev
      have HX := Lib.hid hx
      clear hx
      have s1 : (k : Int) < (b.length : Int) := by omega
      have BB := below_alloc wr (.cells #[.int .i64 x.1, .int .i64 x.2.1, .slice u x.2.2.length cu] 44)
      have S4 := hS.alloc (.cells #[.int .i64 x.1, .int .i64 x.2.1, .slice u x.2.2.length cu] 44)
      have hp4 := hp.stays BB
      have ho4 := ho.stays BB
      have c1 := below_cell BB n1
      have c2 := below_cell BB n2
      have z1 := below_free BB n1 (fz _)
      have z2 := below_free BB n2 (fz _)
      have r1 : (wr.alloc (.cells #[.int .i64 x.1, .int .i64 x.2.1, .slice u x.2.2.length cu] 44)).cell? ⟨wr.heap.size, 1, none⟩ = some (.int .i64 x.2.1) := by go_simp
      have r2 : (wr.alloc (.cells #[.int .i64 x.1, .int .i64 x.2.1, .slice u x.2.2.length cu] 44)).cell? ⟨wr.heap.size, 2, none⟩ = some (.slice u x.2.2.length cu) := by go_simp
      go_upto_region 5 with fail
      clear k0 n1 n2 fz hp
      obtain ⟨r0, hr0⟩ : ∃ r0, r0 = wr.heap.size := ⟨_, rfl⟩
      have hgr : g < r0 := by omega
      have hr1 : w0.heap.size ≤ r0 := by have := hS.2; omega
      have hBg : B ≠ g := by omega
      have hrg : r0 ≠ g := by omega
      rw [← hr0] at r1 r2 ⊢
      clear hr0 hg2 ho hS BB
      generalize wr.alloc (.cells #[.int .i64 x.1, .int .i64 x.2.1, .slice u x.2.2.length cu] 44) = w4 at *
      have hb4 := HSB.out w4 S4
      have d0 : w4.drew.cell? ⟨B, 2, none⟩ = some (.slice (some ⟨g, 0, none⟩) b.length cp1) ∧ w4.drew.cell? ⟨r0, 1, none⟩ = some (.int .i64 x.2.1) ∧ w4.drew.cell? ⟨r0, 2, none⟩ = some (.slice u x.2.2.length cu) := ⟨hb4, r1, r2⟩
      clear hb4
      have HP4 := Lib.hid hp4.drew
      have U4 := Since.refl w4.drew
      have q1 : w4.drew.cell? ⟨g, k * 3 + 1, none⟩ = some (.int .i64 x.2.1) := c1
      have q2 : w4.drew.cell? ⟨g, k * 3 + 2, none⟩ = some (.slice u x.2.2.length cu) := c2
      have y1 : w4.drew.frozen? ⟨g, k * 3 + 1, none⟩ = false := z1
      have y2 : w4.drew.frozen? ⟨g, k * 3 + 2, none⟩ = false := z2
      clear c1 c2 z1 z2 hp4
      go_region_held3 (fun w' => w'.cell? ⟨B, 2, none⟩ = some (.slice (some ⟨g, 0, none⟩) b.length cp1) ∧ w'.cell? ⟨r0, 1, none⟩ = some (.int .i64 x.2.1) ∧ w'.cell? ⟨r0, 2, none⟩ = some (.slice u x.2.2.length cu)) (first | exact d0 | exact d5 | exact ⟨(cell_set_other _ _ _ _ hBg).trans ((cell_set_other _ _ _ _ hBg).trans d5.1), (cell_set_other _ _ _ _ hrg).trans ((cell_set_other _ _ _ _ hrg).trans d5.2.1), (cell_set_other _ _ _ _ hrg).trans ((cell_set_other _ _ _ _ hrg).trans d5.2.2)⟩) (first
        | (go_at_call 37; refine (shareCopy_any x.2.1 _ x.2.2 _ HP4.out).mono ?_; rintro e w5 ⟨⟨v5, rfl, hv5⟩, hb5⟩; obtain ⟨a5, c5, rfl, _⟩ := hv5.isInts.opened; have d5 : w5.cell? ⟨B, 2, none⟩ = some (.slice (some ⟨g, 0, none⟩) b.length cp1) ∧ w5.cell? ⟨r0, 1, none⟩ = some (.int .i64 x.2.1) ∧ w5.cell? ⟨r0, 2, none⟩ = some (.slice u x.2.2.length cu) := ⟨below_cell hb5 d0.1, below_cell hb5 d0.2.1, below_cell hb5 d0.2.2⟩; have t1 := below_cell hb5 q1; have t2 := below_cell hb5 q2; have x1 := below_free hb5 q1 y1; have x2 := below_free hb5 q2 y2))
      all_goals
        have S6 : Since w0.heap.size w3 ((w5.setCell ⟨g, k * 3 + 1, none⟩ (.int .i64 x.2.1)).setCell ⟨g, k * 3 + 1 + 1, none⟩ (.slice a5 x.2.2.length c5)) := ((S4.drew.step hb5).setCell (a := ⟨g, k * 3 + 1, none⟩) hg1 (.int .i64 x.2.1)).setCell (a := ⟨g, k * 3 + 1 + 1, none⟩) hg1 (.slice a5 x.2.2.length c5)
        have ho6 : OwnRow 3 (RFlag RKept (numsIn (fun k => w0.heap.size ≤ k ∧ (Value.slice (some ⟨g, 0, none⟩) b.length cp1).ownBlock ≠ some k))) (fun k => W.heap.size ≤ k ∧ k < w0.heap.size) ((w5.setCell ⟨g, k * 3 + 1, none⟩ (.int .i64 x.2.1)).setCell ⟨g, k * 3 + 1 + 1, none⟩ (.slice a5 x.2.2.length c5)) 44 w0.heap.size (.slice (some ⟨g, 0, none⟩) b.length cp1) (flagL b (k + 1)) :=
          (ho4.drew.stays hb5).copyShare HX.out hv5.isInts (fun m hm => by
            have h1 := (hv5.lies m hm).1
            have h2 := cell_lt d0.2.1
            simp at h1 h2
            exact ⟨by omega, fun hh => by omega⟩) (fun m hm => by
            have h1 := (hv5.lies m hm).1
            have h2 := cell_lt d0.2.1
            simp at h1 h2
            exact ⟨by omega, by intro e; simp [Value.ownBlock] at e; omega⟩)
        clear d0 d5 q1 q2 y1 y2 t1 t2 x1 x2 hv5 hb5 ho4 S4 U4
        generalize (w5.setCell ⟨g, k * 3 + 1, none⟩ (.int .i64 x.2.1)).setCell ⟨g, k * 3 + 1 + 1, none⟩ (.slice a5 x.2.2.length c5) = w6 at *
        go_wp2_with fail
        go_roundw
        case rel => exact ⟨k + 1, by omega, by go_num, S6, ho6⟩
        case measure => simp [intOf]; omega
    · obtain rfl : b.length = k := by omega
      have hB := HSB.out wr hS
      obtain ⟨m0, m1, j0, j1, j2, j3⟩ := HSC.out wr hS
      have hn : ∀ k, k < w0.heap.size → (Value.slice a1 b.length cp1).ownBlock = none ∨ (Value.slice a1 b.length cp1).ownBlock ≠ some k := fun k hk => by
        cases hq : (Value.slice a1 b.length cp1).ownBlock with
        | none => exact Or.inl rfl
        | some j => right; intro e; cases e; have := HOB.out _ hq; omega
      have hEB : ∀ k, some B1 = some k → W.heap.size ≤ k ∧ k < w0.heap.size := fun k hk => by cases hk; exact ⟨hBW1, hB10⟩
      have ho7 := ((((ho.kept (grown_setCell wr ⟨B1, 0, none⟩ (.bool t)) hEB (hn B1 hB10)).kept (grown_setCell _ ⟨B1, 1, none⟩ (.int .i64 r)) hEB (hn B1 hB10)).kept (grown_setCell _ ⟨B1, 2, none⟩ (.slice a1 b.length cp1)) hEB (hn B1 hB10)).copiedK (E' := fun k => k < W.heap.size) (fun k hk => ⟨hk.2, by have := hk.1; have := HS0.out; omega⟩)).mono HS0.out
      have S7 : Since W.heap.size W (((wr.setCell ⟨B1, 0, none⟩ (.bool t)).setCell ⟨B1, 1, none⟩ (.int .i64 r)).setCell ⟨B1, 2, none⟩ (.slice a1 b.length cp1)) :=
        (((show Since W.heap.size W wr from ⟨HS3.out.below.trans (hS.below.mono HS0.out), by have := hS.2; omega⟩).setCell (a := ⟨B1, 0, none⟩) hBW1 (.bool t)).setCell (a := ⟨B1, 1, none⟩) hBW1 (.int .i64 r)).setCell (a := ⟨B1, 2, none⟩) hBW1 (.slice a1 b.length cp1)
      have v0 : (((wr.setCell ⟨B1, 0, none⟩ (.bool t)).setCell ⟨B1, 1, none⟩ (.int .i64 r)).setCell ⟨B1, 2, none⟩ (.slice a1 b.length cp1)).cell? ⟨B1, 0, none⟩ = some (.bool t) := by go_simp
      have v1 : (((wr.setCell ⟨B1, 0, none⟩ (.bool t)).setCell ⟨B1, 1, none⟩ (.int .i64 r)).setCell ⟨B1, 2, none⟩ (.slice a1 b.length cp1)).cell? ⟨B1, 1, none⟩ = some (.int .i64 r) := by go_simp
      have v2 : (((wr.setCell ⟨B1, 0, none⟩ (.bool t)).setCell ⟨B1, 1, none⟩ (.int .i64 r)).setCell ⟨B1, 2, none⟩ (.slice a1 b.length cp1)).cell? ⟨B1, 2, none⟩ = some (.slice a1 b.length cp1) := by go_simp
      have f0 := j3 0
      have f1 := j3 1
      have f2 := j3 2
      have HO7 := Lib.hid ho7
      clear ho hS hn hEB ho7 j3
      go_wp2_with fail
      clear m0 m1 j0 j1 j2 f0 f1 f2 hB
      generalize ((wr.setCell ⟨B1, 0, none⟩ (.bool t)).setCell ⟨B1, 1, none⟩ (.int .i64 r)).setCell ⟨B1, 2, none⟩ (.slice a1 b.length cp1) = w7 at *
      exact bodyPost_ret (v := .agg #[.bool t, .int .i64 r, .slice a1 b.length cp1]) (by simp [results, Try.results35, go_sem, v0, v1, v2]) rfl ⟨⟨_, rfl, HO7.out⟩, S7.below⟩

end Go.Proofs.Ytpjlngkndofjfaa
