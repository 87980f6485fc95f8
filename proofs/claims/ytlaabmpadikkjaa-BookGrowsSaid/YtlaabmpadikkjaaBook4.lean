/-
  The walk of Add.
-/
import Derived.Test.YtlaabmpadikkjaaBook3
import Derived.Deep.DeepCutAuto
import Derived.Deep.DrawnRows
namespace Go.Proofs.Ytlaabmpadikkjaa
open Go.RowKit
attribute [local go_sem ↓] Go.wp_at_zero Go.wp_at_succ

theorem addVE_chk {b : List Ver} (x : Ver) (h : bookV b ≠ 0) : addVE b x = bookV b := by unfold addVE; rw [if_pos h]
theorem addVE_full {b : List Ver} (x : Ver) (h : bookV b = 0) (hl : b.length = 12) : addVE b x = 1 := by unfold addVE; rw [if_neg (by simpa using h), if_pos (by omega)]
theorem addVE_new {b : List Ver} (x : Ver) (h : bookV b = 0) (hl : b.length ≠ 12) : addVE b x = bookV (b ++ [x]) := by unfold addVE; rw [if_neg (by simpa using h), if_neg (by omega)]

theorem fresh_cells (w : World) (l : List Value) (T : TypeId) (n : Nat) (hn : n = w.heap.size) : ∀ j u, l[j]? = some u → (w.alloc (.cells l.toArray T)).cell? ((⟨n, 0, none⟩ : Addr).add j) = some u := by
  intro j u h
  subst hn
  rw [add_none', Nat.zero_add]
  unfold World.cell? World.alloc
  simpa using h
/-- A version that has just been laid down, its parents in a block of their own. -/
theorem ver_fresh {w : World} {u : Value} {x : Ver} {D : Nat → Prop} (hu : IsInts w u x.1) (i : I64 x.2.1 ∧ I64 x.2.2.1 ∧ I64 x.2.2.2) (hD : ∀ k, Value.lies u k → ¬ D k) (o : Obj) :
    Framed D RVer (w.alloc o) [u, .int .i64 x.2.1, .int .i64 x.2.2.1, .int .i64 x.2.2.2] x := by
  intro w' hw'
  exact ⟨u, rfl, (hu.stays (below_alloc w o)).framed (fun k hk _ => hD k hk) hw', i⟩
/-- The value is this version. -/
def IsVer (w : World) (v : Value) (x : Ver) : Prop := ∃ u, v = .agg #[u, .int .i64 x.2.1, .int .i64 x.2.2.1, .int .i64 x.2.2.2] ∧ IsInts w u x.1 ∧ I64 x.2.1 ∧ I64 x.2.2.1 ∧ I64 x.2.2.2

set_option maxRecDepth 100000 in
set_option maxHeartbeats 2000000 in
theorem bookAdd_no (v vx : Value) (b : List Ver) (x : Ver) (W : World) (hv : IsVers W v b) (hx : IsVer W vx x) (hE : bookV b ≠ 0 ∨ b.length = 12) :
    Calls Try.prog 40 #[.agg #[v], vx] W fun e w' => e = .returned (.tuple #[.agg #[.slice none 0 0], .int .i64 (addVE b x)]) ∧ Below W.heap.size W w' := by
  obtain ⟨vp, rfl, hp, _⟩ := hx
  obtain ⟨ap, cp, rfl, _⟩ := hp.opened
  obtain ⟨a, c, rfl, hc, ⟨hm, hcm, _⟩, _⟩ := hv.opened
  clear hp
  obtain ⟨w0, hw0⟩ : ∃ w0, w0 = ((W.alloc (.cells #[.slice a b.length c] 50)).alloc (.cells #[.slice ap x.1.length cp, .int .i64 x.2.1, .int .i64 x.2.2.1, .int .i64 x.2.2.2] 63)).alloc (.cells #[.slice none 0 0] 50) := ⟨_, rfl⟩
  have S0 : Since W.heap.size W w0 := by rw [hw0]; exact (((Since.refl W).alloc _).alloc _).alloc _
  have c0 : w0.cell? ⟨W.heap.size, 0, none⟩ = some (.slice a b.length c) := by rw [hw0]; go_simp
  have c2 : w0.cell? ⟨W.heap.size + 2, 0, none⟩ = some (.slice none 0 0) := by rw [hw0]; go_simp
  have f2 : w0.frozen? ⟨W.heap.size + 2, 0, none⟩ = false := by rw [hw0]; go_simp
  have hv0 := hv.later RVer.stays (Dirty.old S0.below _)
  have HW := Lib.hid hw0
  obtain ⟨B2, hB2⟩ : ∃ B, B = W.heap.size + 2 := ⟨_, rfl⟩
  have hBW : W.heap.size ≤ B2 := by omega
  rw [← hB2] at c2 f2
  have HB2 := Lib.hid hB2
  have l0 := cell_lt c0
  have l2 := cell_lt c2
  clear hw0 hv hB2
  go_enter Try.func40, Try.ntmps40
  go_wp2_with fail
  rw [← HW.out, ← HB2.out]
  refine (bookCheck_any _ b _ hv0).mono ?_
  rintro e w1 ⟨rfl, hb1⟩
  have S1 := S0.step hb1
  have d0 := (hb1.cell (p := ⟨W.heap.size, 0, none⟩) l0).trans c0
  have d2 := (hb1.cell (p := ⟨B2, 0, none⟩) l2).trans c2
  have g2 := (hb1.frozen (p := ⟨B2, 0, none⟩) l2).trans f2
  clear c0 c2 f2 hb1
  have S2 := S1.setCell (a := ⟨B2, 0, none⟩) hBW (.slice none 0 0)
  have m2 : (w1.setCell ⟨B2, 0, none⟩ (.slice none 0 0)).cell? ⟨B2, 0, none⟩ = some (.slice none 0 0) := by go_simp
  by_cases h0 : bookV b = 0
  · have hl : b.length = 12 := by
      rcases hE with h | h
      · exact absurd h0 h
      · exact h
    have HE := Lib.hid (addVE_full x h0 hl)
    have hl1 : ((b.length : Int) == 12) = true := by rw [hl]; rfl
    rw [h0]
    clear hl hE h0
    go_wp2_with fail
    exact bodyPost_ret (v := .tuple #[.agg #[.slice none 0 0], .int .i64 1]) (by simp [results, Try.results40, go_sem, m2]) rfl ⟨by rw [HE.out], S2.below⟩
  · have HE := Lib.hid (addVE_chk x h0)
    have hne : (bookV b != 0) = true := by simpa using h0
    clear hE h0
    go_wp2_with fail
    exact bodyPost_ret (v := .tuple #[.agg #[.slice none 0 0], .int .i64 (bookV b)]) (by simp [results, Try.results40, go_sem, m2]) rfl ⟨by rw [HE.out], S2.below⟩

set_option maxRecDepth 100000 in
set_option maxHeartbeats 4000000 in
theorem bookAdd_yes (v vx : Value) (b : List Ver) (x : Ver) (W : World) (hv : IsVers W v b) (hx : IsVer W vx x) (h0 : bookV b = 0) (hl : b.length ≠ 12) :
    Calls Try.prog 40 #[.agg #[v], vx] W fun e w' => (∃ v', e = .returned (.tuple #[.agg #[v'], .int .i64 (addVE b x)]) ∧ IsVers w' v' (addC b x)) ∧ Below W.heap.size W w' := by
  have h12 := (bookV_ok.1 h0).top
  have HE := Lib.hid (addVE_new x h0 hl)
  have hl1 : ((b.length : Int) == 12) = false := by simp; omega
  have H0 := Lib.hid h0
  clear hl h0
  obtain ⟨vp, rfl, hp, ip⟩ := hx
  obtain ⟨ap, cp, rfl, _⟩ := hp.opened
  obtain ⟨a, c, rfl, hc, ⟨hm, hcm, _⟩, _⟩ := hv.opened
  obtain ⟨w0, hw0⟩ : ∃ w0, w0 = ((W.alloc (.cells #[.slice a b.length c] 50)).alloc (.cells #[.slice ap x.1.length cp, .int .i64 x.2.1, .int .i64 x.2.2.1, .int .i64 x.2.2.2] 63)).alloc (.cells #[.slice none 0 0] 50) := ⟨_, rfl⟩
  have S0 : Since W.heap.size W w0 := by rw [hw0]; exact (((Since.refl W).alloc _).alloc _).alloc _
  have c0 : w0.cell? ⟨W.heap.size, 0, none⟩ = some (.slice a b.length c) := by rw [hw0]; go_simp
  have f0 : w0.frozen? ⟨W.heap.size, 0, none⟩ = false := by rw [hw0]; go_simp
  have q0 : w0.cell? ⟨W.heap.size + 1, 0, none⟩ = some (.slice ap x.1.length cp) := by rw [hw0]; go_simp
  have q1 : w0.cell? ⟨W.heap.size + 1, 1, none⟩ = some (.int .i64 x.2.1) := by rw [hw0]; go_simp
  have q2 : w0.cell? ⟨W.heap.size + 1, 2, none⟩ = some (.int .i64 x.2.2.1) := by rw [hw0]; go_simp
  have q3 : w0.cell? ⟨W.heap.size + 1, 3, none⟩ = some (.int .i64 x.2.2.2) := by rw [hw0]; go_simp
  have c2 : w0.cell? ⟨W.heap.size + 2, 0, none⟩ = some (.slice none 0 0) := by rw [hw0]; go_simp
  have f2 : w0.frozen? ⟨W.heap.size + 2, 0, none⟩ = false := by rw [hw0]; go_simp
  have hv0 := hv.later RVer.stays (Dirty.old S0.below _)
  have HW := Lib.hid hw0
  obtain ⟨B0, hB0⟩ : ∃ B, B = W.heap.size := ⟨_, rfl⟩
  obtain ⟨B1, hB1⟩ : ∃ B, B = W.heap.size + 1 := ⟨_, rfl⟩
  obtain ⟨B2, hB2⟩ : ∃ B, B = W.heap.size + 2 := ⟨_, rfl⟩
  have hBW0 : W.heap.size ≤ B0 := by omega
  have hBW2 : W.heap.size ≤ B2 := by omega
  have hB01 : B1 ≠ B0 := by omega
  have hB02 : B2 ≠ B0 := by omega
  rw [← hB0] at c0 f0
  rw [← hB1] at q0 q1 q2 q3
  rw [← hB2] at c2 f2
  have HB0 := Lib.hid hB0
  have HB1 := Lib.hid hB1
  have HB2 := Lib.hid hB2
  have l0 := cell_lt c0
  have l1 := cell_lt q0
  have l2 := cell_lt c2
  clear hw0 hv hB0 hB1 hB2
  go_enter Try.func40, Try.ntmps40
  go_wp2_with fail
  rw [← HW.out, ← HB2.out, ← HB1.out, ← HB0.out]
  refine (bookCheck_any _ b _ hv0).mono ?_
  rintro e w1 ⟨rfl, hb1⟩
  rw [H0.out]
  have S1 := S0.step hb1
  have T1 := (Since.refl w0).step hb1
  have d0 := (T1.below.cell (p := ⟨B0, 0, none⟩) l0).trans c0
  have hv1 := hv0.stays RVer.stays hb1
  go_wp2_with fail
  refine (bookCopy_any _ b _ hv1 (by omega)).mono ?_
  rintro e w2 ⟨⟨v2, rfl, ho2⟩, hb2⟩
  have T2 := T1.step hb2
  have S2 := S1.step hb2
  have hsz1 := T1.2
  have d0 := (T2.below.cell (p := ⟨B0, 0, none⟩) l0).trans c0
  have g0 := (T2.below.frozen (p := ⟨B0, 0, none⟩) l0).trans f0
  have e0 := (T2.below.cell (p := ⟨B1, 0, none⟩) l1).trans q0
  have e1 := (T2.below.cell (p := ⟨B1, 1, none⟩) l1).trans q1
  have e2 := (T2.below.cell (p := ⟨B1, 2, none⟩) l1).trans q2
  have e3 := (T2.below.cell (p := ⟨B1, 3, none⟩) l1).trans q3
  have d2 := (T2.below.cell (p := ⟨B2, 0, none⟩) l2).trans c2
  have g2 := (T2.below.frozen (p := ⟨B2, 0, none⟩) l2).trans f2
  obtain ⟨a2, c2', rfl, hcap2, ⟨_, hcm2, _⟩, _⟩ := ho2.isRow.opened
  have hlo := ho2.lt
  have hn2 : (Value.slice a2 b.length c2').ownBlock = none ∨ (Value.slice a2 b.length c2').ownBlock ≠ some B0 := by
    cases hk : (Value.slice a2 b.length c2').ownBlock with
    | none => exact Or.inl rfl
    | some k => right; intro e; cases e; have := (hlo B0 hk).1; omega
  have ho3 := ho2.kept (grown_setCell w2 ⟨B0, 0, none⟩ (.slice a2 b.length c2')) (by intro k hk; cases hk; exact Nat.lt_of_lt_of_le l0 hsz1) hn2
  have S3 := S2.setCell (a := ⟨B0, 0, none⟩) hBW0 (.slice a2 b.length c2')
  have T3 : Since w0.heap.size w0 w2 := T2
  have hp3 := hp.stays S3.below
  have n0 : (w2.setCell ⟨B0, 0, none⟩ (.slice a2 b.length c2')).cell? ⟨B0, 0, none⟩ = some (.slice a2 b.length c2') := by go_simp
  have n1 : (w2.setCell ⟨B0, 0, none⟩ (.slice a2 b.length c2')).frozen? ⟨B0, 0, none⟩ = false := by go_simp
  have m0 := (cell_set_other w2 B0 0 (.slice a2 b.length c2') (p := ⟨B1, 0, none⟩) hB01).trans e0
  have m1 := (cell_set_other w2 B0 0 (.slice a2 b.length c2') (p := ⟨B1, 1, none⟩) hB01).trans e1
  have m2 := (cell_set_other w2 B0 0 (.slice a2 b.length c2') (p := ⟨B1, 2, none⟩) hB01).trans e2
  have m3 := (cell_set_other w2 B0 0 (.slice a2 b.length c2') (p := ⟨B1, 3, none⟩) hB01).trans e3
  have d2 := (cell_set_other w2 B0 0 (.slice a2 b.length c2') (p := ⟨B2, 0, none⟩) hB02).trans d2
  have g2 := (free_set_other w2 B0 0 (.slice a2 b.length c2') (p := ⟨B2, 0, none⟩) hB02).trans g2
  have hs3 : w1.heap.size ≤ (w2.setCell ⟨B0, 0, none⟩ (.slice a2 b.length c2')).heap.size := by have := hb2.size; simpa using this
  go_upto_region 7 with fail
  clear d0 g0 e0 e1 e2 e3
  generalize w2.setCell ⟨B0, 0, none⟩ (.slice a2 b.length c2') = w3 at *
  have L := Lib.hid (Clone_ints _ x.1 w3.drew hp3.drew)
  have G : Hid (∀ w5, Below w3.drew.heap.size w3.drew w5 → w5.cell? ⟨B0, 0, none⟩ = some (.slice a2 b.length c2') ∧ w5.frozen? ⟨B0, 0, none⟩ = false ∧ w5.cell? ⟨B1, 0, none⟩ = some (.slice ap x.1.length cp) ∧ w5.cell? ⟨B1, 1, none⟩ = some (.int .i64 x.2.1) ∧ w5.cell? ⟨B1, 2, none⟩ = some (.int .i64 x.2.2.1) ∧ w5.cell? ⟨B1, 3, none⟩ = some (.int .i64 x.2.2.2) ∧ w5.cell? ⟨B2, 0, none⟩ = some (.slice none 0 0) ∧ w5.frozen? ⟨B2, 0, none⟩ = false) :=
    Lib.hid (fun w5 hb => ⟨(hb.cell (p := ⟨B0, 0, none⟩) (cell_lt n0)).trans n0, (hb.frozen (p := ⟨B0, 0, none⟩) (cell_lt n0)).trans n1, (hb.cell (p := ⟨B1, 0, none⟩) (cell_lt m0)).trans m0, (hb.cell (p := ⟨B1, 1, none⟩) (cell_lt m1)).trans m1, (hb.cell (p := ⟨B1, 2, none⟩) (cell_lt m2)).trans m2, (hb.cell (p := ⟨B1, 3, none⟩) (cell_lt m3)).trans m3, (hb.cell (p := ⟨B2, 0, none⟩) (cell_lt d2)).trans d2, (hb.frozen (p := ⟨B2, 0, none⟩) (cell_lt d2)).trans g2⟩)
  have HO := Lib.hid ho3
  have HLO := Lib.hid hlo
  have NB : Hid (some B0 ≠ (Value.slice a2 b.length c2').ownBlock ∧ some B2 ≠ (Value.slice a2 b.length c2').ownBlock) := Lib.hid ⟨fun e => by have := (HLO.out B0 e.symm).1; omega, fun e => by have := (HLO.out B2 e.symm).1; omega⟩
  have hs3d : w1.heap.size ≤ w3.drew.heap.size := hs3
  have hlo3 := ho3.lt
  have HLO3 := Lib.hid hlo3
  clear ho2 ho3 hlo hlo3 hn2
  go_cut [30] (fun s30 wx => ∃ a6 c6, s30 = .slice a6 (b.length + 1) c6 ∧ Since W.heap.size W wx ∧ b.length + 1 ≤ c6 ∧ c6 ≤ 9223372036854775807 ∧ wx.cell? ⟨B0, 0, none⟩ = some (.slice a6 (b.length + 1) c6) ∧ wx.cell? ⟨B2, 0, none⟩ = some (.slice none 0 0) ∧ wx.frozen? ⟨B2, 0, none⟩ = false ∧ OwnRow 4 RVer (fun k => k < w1.heap.size) wx 63 w1.heap.size (.slice a6 (b.length + 1) c6) (b ++ [x]))
  case first =>
    go_region_law (first
      | (go_simp; go_at_call 30; refine L.out.mono ?_; rintro e w5 ⟨⟨v5, rfl, hv5⟩, hb5⟩; obtain ⟨a5, c5, rfl, _⟩ := hv5.isInts.opened; obtain ⟨k0, k1, k2, k3, k4, k5, k6, k7⟩ := G.out w5 hb5; have kk0 := alloc_cell k0 (.cells #[.slice a5 x.1.length c5, .int .i64 x.2.1, .int .i64 x.2.2.1, .int .i64 x.2.2.2] 63))
      | (refine step_append_row rfl _ _ 48 rfl 4 (fun k => k < w1.heap.size) 63 Try.underlying48 _ 48 info_ver rfl (by omega) (by omega) w1.heap.size (.slice a2 b.length c2') b rfl ((HO.out.drew.stays hb5).stays (below_alloc w5 _)) ⟨w5.heap.size, 0, none⟩ 1 [.slice a5 x.1.length c5, .int .i64 x.2.1, .int .i64 x.2.2.1, .int .i64 x.2.2.2] x rfl rfl (by intro u hu; simp at hu; rcases hu with rfl | rfl | rfl | rfl <;> rfl) (fresh_cells w5 [.slice a5 x.1.length c5, .int .i64 x.2.1, .int .i64 x.2.2.1, .int .i64 x.2.2.2] 63 _ rfl) (ver_fresh hv5.isInts ip (fun k hk hd => by have h5 := (hv5.lies k hk).1; simp at h5; rcases hd with hd | hd; (have := (HLO3.out k hd).2; omega); omega) _) (by omega) (by have := hb5.size; simp at this ⊢; omega) ?_; intro v6 w6 ho6 hg6 hat6; obtain ⟨a6, c6, rfl, hcap6, ⟨hl6, hcm6, _⟩, _⟩ := ho6.isRow.opened; have z0 := hg6.cell (alloc_cell k0 _) NB.out.1; have z1 := grown_free hg6 (alloc_cell k0 _) (alloc_free k0 k1 _) NB.out.1; have z2 := hg6.cell (alloc_cell k6 _) NB.out.2; have z3 := grown_free hg6 (alloc_cell k6 _) (alloc_free k6 k7 _) NB.out.2))
    all_goals
      have hl6 : (b ++ [x]).length = b.length + 1 := by simp
      rw [hl6] at ho6 hcap6
      have S6 := (((S3.drew.step hb5).alloc (.cells #[.slice a5 x.1.length c5, .int .i64 x.2.1, .int .i64 x.2.2.1, .int .i64 x.2.2.2] 63)).grown hg6 (fun k hk => by have := (HLO.out k hk).1; have := S1.2; omega)).setCell (a := ⟨B0, 0, none⟩) hBW0 (.slice a6 (b.length + 1) c6)
      have hn6 : (Value.slice a6 (b.length + 1) c6).ownBlock = none ∨ (Value.slice a6 (b.length + 1) c6).ownBlock ≠ some B0 := by
        cases hk : (Value.slice a6 (b.length + 1) c6).ownBlock with
        | none => exact Or.inl rfl
        | some k => right; intro e; cases e; have := (ho6.lt B0 hk).1; omega
      have ho7 := ho6.kept (grown_setCell w6 ⟨B0, 0, none⟩ (.slice a6 (b.length + 1) c6)) (by intro k hk; cases hk; exact Nat.lt_of_lt_of_le l0 hsz1) hn6
      have y0 : (w6.setCell ⟨B0, 0, none⟩ (.slice a6 (b.length + 1) c6)).cell? ⟨B0, 0, none⟩ = some (.slice a6 (b.length + 1) c6) := by go_simp
      have y2 := (cell_set_other w6 B0 0 (.slice a6 (b.length + 1) c6) (p := ⟨B2, 0, none⟩) hB02).trans z2
      have y3 := (free_set_other w6 B0 0 (.slice a6 (b.length + 1) c6) (p := ⟨B2, 0, none⟩) hB02).trans z3
      clear k0 k1 k2 k3 k4 k5 k6 k7 z0 z1 z2 z3 ho6 hg6 hat6 hb5 hv5 n0 n1 m0 m1 m2 m3 d2 g2 hn6
      go_wp2_with fail
      go_meet
      exact ⟨_, _, rfl, S6, hcap6, hcm6, y0, y2, y3, ho7⟩
  case rest =>
    obtain ⟨a6, c6, rfl, S6, hcap6, hcm6, y0, y2, y3, ho7⟩ := hcut
    have hi7 := ho7.isRow
    have HO7 := Lib.hid ho7
    have hl6 : (b ++ [x]).length = b.length + 1 := by simp
    have HL6 := Lib.hid hl6
    clear ho7 hl6 n0 n1 m0 m1 m2 m3 d2 g2 S3 S2 hp3
    go_wp2_with fail
    refine (bookCheck_any _ (b ++ [x]) _ hi7).mono ?_
    rintro e w8 ⟨rfl, hb8⟩
    rw [← HE.out]
    have S8 := S6.step hb8
    have o0 := below_cell hb8 y0
    have o2 := below_cell hb8 y2
    have o3 := below_free hb8 y2 y3
    have hi8 := hi7.stays RVer.stays hb8
    by_cases hz : addVE b x = 0
    · have HC := Lib.hid (addC_ok hz)
      have HZ := Lib.hid hz
      rw [hz]
      have S9 := S8.setCell (a := ⟨B2, 0, none⟩) hBW2 (.slice a6 (b.length + 1) c6)
      have m2 : (w8.setCell ⟨B2, 0, none⟩ (.slice a6 (b.length + 1) c6)).cell? ⟨B2, 0, none⟩ = some (.slice a6 (b.length + 1) c6) := by go_simp
      have hi9 := ((HO7.out.stays hb8).kept (grown_setCell w8 ⟨B2, 0, none⟩ (.slice a6 (b.length + 1) c6)) (by intro k hk; cases hk; exact Nat.lt_of_lt_of_le l2 hsz1) (by
        cases hk : (Value.slice a6 (b.length + 1) c6).ownBlock with
        | none => exact Or.inl rfl
        | some k => right; intro e; cases e; have := (HO7.out.lt B2 hk).1; omega)).isRow
      clear y0 y2 y3 hz
      go_wp2_with fail
      exact bodyPost_ret (v := .tuple #[.agg #[.slice a6 (b.length + 1) c6], .int .i64 0]) (by simp [results, Try.results40, go_sem, m2]) rfl ⟨⟨_, by rw [HZ.out], by rw [HC.out]; exact hi9⟩, S9.below⟩
    · have hne : (addVE b x != 0) = true := by simpa using hz
      have HC := Lib.hid (addC_no hz)
      have S9 := S8.setCell (a := ⟨B2, 0, none⟩) hBW2 (.slice none 0 0)
      have m2 : (w8.setCell ⟨B2, 0, none⟩ (.slice none 0 0)).cell? ⟨B2, 0, none⟩ = some (.slice none 0 0) := by go_simp
      clear y0 y2 y3 hz
      go_wp2_with fail
      exact bodyPost_ret (v := .tuple #[.agg #[.slice none 0 0], .int .i64 (addVE b x)]) (by simp [results, Try.results40, go_sem, m2]) rfl ⟨⟨_, rfl, by rw [HC.out]; exact IsRow.nil _⟩, S9.below⟩

end Go.Proofs.Ytlaabmpadikkjaa
