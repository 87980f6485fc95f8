/-
  The reference's Without, deep.
-/
import Derived.Test.YtjakdgchfimhkaaGreatWithout
namespace Go.Proofs.YtjakdgchfimhkaaGreat
open Go.RowKit

set_option maxRecDepth 100000 in
set_option maxHeartbeats 2000000 in
theorem WithoutD_any (t : Bool) (r : Int) (u : Value) (l : List Kp) (v : Int) (W0 W : World) (hW : Since W0.heap.size W0 W) (hu : IsKepts W0 u l) (hl : l.length ≤ 1000) :
    Calls Tryz.prog 35 #[.agg #[.bool t, .int .i64 r, u], .int .i64 v] W fun e w' =>
      (∃ v', e = .returned (.agg #[.bool t, .int .i64 r, v']) ∧ (∀ j, v'.ownBlock = some j → W.heap.size ≤ j) ∧ ∀ w'', Dirty (fun j => W0.heap.size ≤ j ∧ v'.ownBlock ≠ some j) w' w'' → IsKepts w'' v' (dropK v l)) ∧ Below W.heap.size W w' := by
  obtain ⟨au, cu, rfl, hcu, ⟨hum, huc, _⟩, _⟩ := hu.opened
  obtain ⟨w0, hw0⟩ : ∃ w0, w0 = (W.alloc (.cells #[.bool t, .int .i64 r, .slice au l.length cu] 45)).alloc (.cells #[.bool false, .int .i64 0, .slice none 0 0] 45) := ⟨_, rfl⟩
  have S0 := ((Since.refl W).alloc (.cells #[.bool t, .int .i64 r, .slice au l.length cu] 45)).alloc (.cells #[.bool false, .int .i64 0, .slice none 0 0] 45)
  rw [← hw0] at S0
  have p0 : w0.cell? ⟨W.heap.size, 0, none⟩ = some (.bool t) := by rw [hw0]; go_simp
  have p1 : w0.cell? ⟨W.heap.size, 1, none⟩ = some (.int .i64 r) := by rw [hw0]; go_simp
  have p2 : w0.cell? ⟨W.heap.size, 2, none⟩ = some (.slice au l.length cu) := by rw [hw0]; go_simp
  have p3 : w0.frozen? ⟨W.heap.size, 2, none⟩ = false := by rw [hw0]; go_simp
  have q0 : w0.cell? ⟨W.heap.size + 1, 0, none⟩ = some (.bool false) := by rw [hw0]; go_simp
  have q1 : w0.cell? ⟨W.heap.size + 1, 1, none⟩ = some (.int .i64 0) := by rw [hw0]; go_simp
  have q2 : w0.cell? ⟨W.heap.size + 1, 2, none⟩ = some (.slice none 0 0) := by rw [hw0]; go_simp
  have q3 : ∀ j, w0.frozen? ⟨W.heap.size + 1, j, none⟩ = false := by intro j; rw [hw0]; go_simp
  have hsz0 : w0.heap.size = W.heap.size + 2 := by rw [hw0]; simp
  have HW := Lib.hid hw0
  clear hw0
  obtain ⟨B2, hB2⟩ : ∃ B2, B2 = W.heap.size := ⟨_, rfl⟩
  obtain ⟨B4, hB4⟩ : ∃ B4, B4 = W.heap.size + 1 := ⟨_, rfl⟩
  have hW2 : W.heap.size ≤ B2 := by omega
  have hW4 : W.heap.size ≤ B4 := by omega
  have h20 : B2 < w0.heap.size := by omega
  have h40 : B4 < w0.heap.size := by omega
  have n24 : ¬ B2 = B4 := by omega
  have n42 : ¬ B4 = B2 := by omega
  rw [← hB4] at q0 q1 q2 q3
  rw [← hB2] at p0 p1 p2 p3
  have HB2 := Lib.hid hB2
  have HB4 := Lib.hid hB4
  clear hB2 hB4 hsz0
  have HS0 := Lib.hid S0
  have HU := Lib.hid hu
  have HWW := Lib.hid hW
  have HC : Hid (∀ w', Since w0.heap.size w0 w' → w'.cell? ⟨B2, 0, none⟩ = some (.bool t) ∧ w'.cell? ⟨B2, 1, none⟩ = some (.int .i64 r) ∧ w'.cell? ⟨B2, 2, none⟩ = some (.slice au l.length cu) ∧ w'.frozen? ⟨B2, 2, none⟩ = false ∧ w'.cell? ⟨B4, 0, none⟩ = some (.bool false) ∧ w'.cell? ⟨B4, 1, none⟩ = some (.int .i64 0) ∧ w'.cell? ⟨B4, 2, none⟩ = some (.slice none 0 0) ∧ w'.frozen? ⟨B4, 0, none⟩ = false ∧ w'.frozen? ⟨B4, 1, none⟩ = false ∧ w'.frozen? ⟨B4, 2, none⟩ = false) :=
    Lib.hid (fun w' q => ⟨below_cell q.below p0, below_cell q.below p1, below_cell q.below p2, below_free q.below p2 p3, below_cell q.below q0, below_cell q.below q1, below_cell q.below q2, below_free q.below q0 (q3 0), below_free q.below q1 (q3 1), below_free q.below q2 (q3 2)⟩)
  clear p0 p1 p3 q0 q1 q2 q3 hu S0 hW
  go_enter Tryz.func35, Tryz.ntmps35
  go_upto_region 1 with fail
  rw [← HW.out, ← HB4.out, ← HB2.out]
  go_wp2_with fail
  clear p2
  go_loopw [11, 5] (fun i o wr => ∃ k : Nat, k ≤ l.length ∧ i = .int .i64 k ∧ Since w0.heap.size w0 wr ∧ OwnRow 3 RKept (fun j => W0.heap.size ≤ j) wr 60 w0.heap.size o (dropK v (l.take k))) (fun i _ _ => l.length - (intOf i).toNat)
  case atStart => exact ⟨0, by omega, rfl, Since.refl w0, by simpa [dropK] using OwnRow.nil _ _ _⟩
  case round =>
    obtain ⟨k, hk, rfl, hS, ho⟩ := hrel
    by_cases hlt : k < l.length
    · have hx : l[k]? = some l[k] := List.getElem?_eq_getElem hlt
      have SW : Since W.heap.size W wr := ⟨HS0.out.below.trans (hS.below.mono HS0.out.2), Nat.le_trans HS0.out.2 hS.2⟩
      obtain ⟨g, off, ux, cx, rfl, k0', k1', k2', hxi, i1, i2⟩ := kept_at HU.out hx
      have k0 := below_cell (HWW.out.step SW.below).below k0'
      have k1 := below_cell (HWW.out.step SW.below).below k1'
      have k2 := below_cell (HWW.out.step SW.below).below k2'
      have HST := Lib.hid (dropK_step (v := v) hx)
      have hdl := Nat.le_trans (dropK_len v (l.take k)) (by rw [List.length_take]; omega : (l.take k).length ≤ l.length)
      generalize l[k] = x at *
      have S1 := hS.alloc (.cells #[.int .i64 x.1, .int .i64 x.2.1, .slice ux x.2.2.length cx] 60)
      have ho1 := ho.stays (below_alloc wr (.cells #[.int .i64 x.1, .int .i64 x.2.1, .slice ux x.2.2.length cx] 60))
      clear ho k0' k1' k2'
      by_cases hv : x.1 = v
      · have hne : (x.1 != v) = false := by simpa using hv
        have HN := Lib.hid (show dropK v (l.take (k + 1)) = dropK v (l.take k) by rw [HST.out, if_neg (by simpa using hv), List.append_nil])
        clear hv
        go_wp2_with fail
        go_roundw
        case rel => exact ⟨k + 1, by omega, by go_num, S1, by rw [HN.out]; exact ho1⟩
        case measure => simp [intOf]; omega
      · have hne : (x.1 != v) = true := by simpa using hv
        have HN := Lib.hid (show dropK v (l.take (k + 1)) = dropK v (l.take k) ++ [x] by rw [HST.out, if_pos hv])
        clear hv
        have S2 := S1.alloc (.cells #[.int .i64 x.1, .int .i64 x.2.1, .slice ux x.2.2.length cx] 60)
        have HO2 := Lib.hid (ho1.stays (below_alloc _ (.cells #[.int .i64 x.1, .int .i64 x.2.1, .slice ux x.2.2.length cx] 60)))
        have hw := S2.2
        have HFR : Hid (∀ v' : Value, (∀ m, v'.ownBlock = some m → w0.heap.size ≤ m) → Framed (fun m => v'.ownBlock = some m ∨ W0.heap.size ≤ m) RKept ((wr.alloc (.cells #[.int .i64 x.1, .int .i64 x.2.1, .slice ux x.2.2.length cx] 60)).alloc (.cells #[.int .i64 x.1, .int .i64 x.2.1, .slice ux x.2.2.length cx] 60)) [.int .i64 x.1, .int .i64 x.2.1, .slice ux x.2.2.length cx] x) :=
          Lib.hid (fun v' hv' => RKept.stays.framed (w0 := W0) ⟨_, rfl, hxi, i1, i2⟩ (Dirty.old (HWW.out.step ((SW.alloc _).alloc _).below).below _) (fun m hm => by
            rcases hm with hm | hm
            · have := hv' m hm; have := HS0.out.2; have := HWW.out.2; omega
            · exact hm))
        have HLT := Lib.hid (HO2.out.lt)
        have HNC : Hid (∀ j u, [Value.int .i64 x.1, .int .i64 x.2.1, .slice ux x.2.2.length cx][j]? = some u → ((wr.alloc (.cells #[.int .i64 x.1, .int .i64 x.2.1, .slice ux x.2.2.length cx] 60)).alloc (.cells #[.int .i64 x.1, .int .i64 x.2.1, .slice ux x.2.2.length cx] 60)).cell? ((⟨wr.heap.size + 1, 0, none⟩ : Addr).add j) = some u) := Lib.hid (fun j u hj => by
          rw [add_zero']
          match j, hj with
          | 0, hj => simp at hj; subst hj; go_simp
          | 1, hj => simp at hj; subst hj; go_simp
          | 2, hj => simp at hj; subst hj; go_simp)
        clear ho1 hxi i1 i2
        go_wp2_with (at_builtin; refine wpList_append_row rfl _ _ 43 rfl 3 (fun j => W0.heap.size ≤ j) 60 Tryz.underlying43 _ 40 info_kept rfl (by omega) (by omega) w0.heap.size _ (dropK v (l.take k)) (by rfl) HO2.out ⟨wr.heap.size + 1, 0, none⟩ 1 [.int .i64 x.1, .int .i64 x.2.1, .slice ux x.2.2.length cx] x (by rfl) rfl (by intro c hc; simp at hc; rcases hc with rfl | rfl | rfl <;> rfl) HNC.out (HFR.out _ (fun m hm => (HLT.out m hm).1)) (by omega) (by omega) ?_; intro v' w6 ho6 hg6 _)
        have S6 := S2.row HO2.out hg6
        have HO6 := Lib.hid ho6
        clear ho6 hg6
        go_roundw
        case rel => exact ⟨k + 1, by omega, by go_num, S6, by rw [HN.out]; exact HO6.out⟩
        case measure => simp [intOf]; omega
    · obtain rfl : l.length = k := by omega
      rw [List.take_length] at ho
      obtain ⟨o20, o21, o22, f22, o40, o41, o42, f40, f41, f42⟩ := HC.out wr hS
      obtain ⟨a5, c5, rfl, _⟩ := ho.isRow.opened
      obtain ⟨L8, hL8⟩ : ∃ L8, L8 = dropK v l := ⟨_, rfl⟩
      have HL8 := Lib.hid hL8
      rw [← hL8] at ho ⊢
      have hn : ∀ k, k < w0.heap.size → (Value.slice a5 L8.length c5).ownBlock = none ∨ (Value.slice a5 L8.length c5).ownBlock ≠ some k := fun k hk => by
        cases hq : (Value.slice a5 L8.length c5).ownBlock with
        | none => exact Or.inl rfl
        | some m => right; intro e; cases e; have := (ho.lt _ hq).1; omega
      have ho6 := (((ho.kept (grown_setCell wr ⟨B2, 2, none⟩ (.slice a5 L8.length c5)) (fun m hm => by cases hm; exact Nat.le_trans HWW.out.2 hW2) (hn B2 h20)).kept (grown_setCell _ ⟨B4, 0, none⟩ (.bool t)) (fun m hm => by cases hm; exact Nat.le_trans HWW.out.2 hW4) (hn B4 h40)).kept (grown_setCell _ ⟨B4, 1, none⟩ (.int .i64 r)) (fun m hm => by cases hm; exact Nat.le_trans HWW.out.2 hW4) (hn B4 h40)).kept (grown_setCell _ ⟨B4, 2, none⟩ (.slice a5 L8.length c5)) (fun m hm => by cases hm; exact Nat.le_trans HWW.out.2 hW4) (hn B4 h40)
      have HI6 : Hid (∀ w'', Dirty (fun j => W0.heap.size ≤ j ∧ (Value.slice a5 L8.length c5).ownBlock ≠ some j) ((((wr.setCell ⟨B2, 2, none⟩ (.slice a5 L8.length c5)).setCell ⟨B4, 0, none⟩ (.bool t)).setCell ⟨B4, 1, none⟩ (.int .i64 r)).setCell ⟨B4, 2, none⟩ (.slice a5 L8.length c5)) w'' → IsKepts w'' (.slice a5 L8.length c5) L8) := Lib.hid (fun w'' hw'' => ((ho6.weaken (E' := fun j => W0.heap.size ≤ j ∧ (Value.slice a5 L8.length c5).ownBlock ≠ some j) (fun j _ hj => Or.inl hj.1)).later hw'' (fun j hj h => h.2 hj)).isRow)
      have HOW : Hid (∀ j, (Value.slice a5 L8.length c5).ownBlock = some j → W.heap.size ≤ j) := Lib.hid (fun j hj => Nat.le_trans HS0.out.2 (ho6.lt j hj).1)
      have SW : Since W.heap.size W wr := ⟨HS0.out.below.trans (hS.below.mono HS0.out.2), Nat.le_trans HS0.out.2 hS.2⟩
      have S6 := (((SW.setCell (a := ⟨B2, 2, none⟩) hW2 (.slice a5 L8.length c5)).setCell (a := ⟨B4, 0, none⟩) hW4 (.bool t)).setCell (a := ⟨B4, 1, none⟩) hW4 (.int .i64 r)).setCell (a := ⟨B4, 2, none⟩) hW4 (.slice a5 L8.length c5)
      clear ho ho6 hn hL8
      go_wp2_with fail
      obtain ⟨g0, g1, g2⟩ := cells3 (w := wr.setCell ⟨B2, 2, none⟩ (.slice a5 L8.length c5)) (B := B4) (x := .bool t) (y := .int .i64 r) (z := .slice a5 L8.length c5) (by rw [cell_set_other _ _ _ _ n42, o40]; rfl) (by rw [cell_set_other _ _ _ _ n42, o41]; rfl) (by rw [cell_set_other _ _ _ _ n42, o42]; rfl)
      clear o20 o21 o22 f22 o40 o41 o42 f40 f41 f42
      generalize (((wr.setCell ⟨B2, 2, none⟩ (.slice a5 L8.length c5)).setCell ⟨B4, 0, none⟩ (.bool t)).setCell ⟨B4, 1, none⟩ (.int .i64 r)).setCell ⟨B4, 2, none⟩ (.slice a5 L8.length c5) = w7 at *
      exact bodyPost_ret (v := .agg #[.bool t, .int .i64 r, .slice a5 L8.length c5]) (by simp [results, Tryz.results35, go_sem, g0, g1, g2]) rfl ⟨⟨_, rfl, HOW.out, by rw [← HL8.out]; exact HI6.out⟩, S6.below⟩

end Go.Proofs.YtjakdgchfimhkaaGreat
