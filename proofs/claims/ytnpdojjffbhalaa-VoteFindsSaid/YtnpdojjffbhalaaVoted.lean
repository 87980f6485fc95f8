/-
  The closed fact of the vote.
-/
import Derived.Test.YtnpdojjffbhalaaMost
import Derived.Deep.RegionHeld3
import Derived.Deep.DeepCutAuto
namespace Go.Proofs.Ytnpdojjffbhalaa
open Go.RowKit

theorem Most_any (n o s : Int) (v : Value) (ls : List Sh) (W : World) (hd : IsShares W v ls) :
    Calls Try.prog 19 #[.agg #[.int .i64 n, .int .i64 o, .int .i64 s], v] W fun e w' => (∃ vb vw, e = .returned (.tuple #[vb, vw, .int .i64 (mostE n o s ls)]) ∧ IsInts w' vb (mostB n o s ls) ∧ IsInts w' vw (mostW n o s ls)) ∧ Below W.heap.size W w' := by
  by_cases h : checksL n o s ls = 0
  · have hp : planV n o s = 0 := by
      unfold checksL at h
      split at h
      · rename_i h1; exact absurd h h1
      · rename_i h1; simpa using h1
    obtain ⟨n, o, s, rfl, rfl, rfl⟩ := plan_nat hp
    exact Most_ok n o s v ls W hd (right_iff.1 h)
  · refine (Most_no n o s v ls W hd h).mono ?_
    rintro e w' ⟨rfl, hb⟩
    have hE : mostE n o s ls ≠ 0 := by rw [mostE_chk h]; exact h
    exact ⟨⟨_, _, rfl, by rw [mostB_no hE]; exact IsInts.nil _, by rw [mostW_no hE]; exact IsInts.nil _⟩, hb⟩

/-- One share's numbers are put elsewhere. -/
theorem OwnSh.setV {w : World} {ei e : TypeId} {base g n : Nat} {ls : List Sh} {f : Nat → Value} (h : OwnSh w ei e base g n ls f) {k : Nat} {t : Sh} (ht : ls[k]? = some t) {v : Value} {l : List Int} (hv : IsInts w v l) (hoff : ∀ j, Value.lies v j → j ≠ g) :
    IsShares (w.setCell ⟨g, k * 2 + 1, none⟩ v) (.slice (some ⟨g, 0, none⟩) n n) (ls.set k (t.1, l)) := by
  have hl := h.len
  have htop := h.top
  have hd : Dirty (fun j => j = g) w (w.setCell ⟨g, k * 2 + 1, none⟩ v) := (Dirty.of_grown (grown_setCell w ⟨g, k * 2 + 1, none⟩ v)).mono fun j _ hj => by cases hj; rfl
  refine ⟨some ⟨g, 0, none⟩, n, by rw [List.length_set, hl], by rw [List.length_set]; omega, ⟨by rw [List.length_set]; omega, by omega, fun e => by cases e⟩, fun i hi => ?_⟩
  rw [List.length_set] at hi
  have hs : ls[i]? = some ls[i] := List.getElem?_eq_getElem hi
  generalize ls[i] = u at hs
  have c0 := h.cellN hs
  have c1 := h.cellV hs
  obtain ⟨cur, _, _, hcs⟩ := h.row
  have hi0 := (hcs i u hs).2.2
  have e0 : (w.setCell ⟨g, k * 2 + 1, none⟩ v).cell? ⟨g, i * 2, none⟩ = some (.int .i64 u.1) := (World.cell?_setCell_other (a := ⟨g, k * 2 + 1, none⟩) (b := ⟨g, i * 2, none⟩) _ _ (by intro e; have e2 : k * 2 + 1 = i * 2 := congrArg Addr.off e; omega)).trans c0
  by_cases hik : k = i
  · subst hik
    rw [ht] at hs
    cases hs
    refine ⟨g, 0, v, (t.1, l), rfl, by simpa using e0, ?_, hv.framed (fun j hj _ => hoff j hj) hd, by rw [List.getElem?_set, if_pos rfl, if_pos hi], hi0⟩
    rw [Nat.zero_add]
    exact World.cell?_setCell_same _ _ _ c1
  · refine ⟨g, 0, f i, u, rfl, by simpa using e0, ?_, ?_, by rw [List.getElem?_set, if_neg hik]; exact hs, hi0⟩
    · rw [Nat.zero_add]
      exact (World.cell?_setCell_other (a := ⟨g, k * 2 + 1, none⟩) (b := ⟨g, i * 2 + 1, none⟩) _ _ (by intro e; have e2 : k * 2 + 1 = i * 2 + 1 := congrArg Addr.off e; omega)).trans c1
    · refine (h.own i u hs).isInts.framed (fun j hj _ e => ?_) hd
      obtain ⟨a, n', c', ef, rfl⟩ := hj
      subst e
      exact h.off i (by omega) (by rw [ef]; rfl)

def vtL : List Sh := [(0, [5]), (1, [8]), (2, [9]), (3, [11])]

set_option maxRecDepth 100000 in
set_option maxHeartbeats 4000000 in
theorem voted_any (W : World) : Calls Try.prog 14 #[] W fun e w' => e = .returned (.bool true) ∧ Below W.heap.size W w' := by
  have E1 := Lib.hid (show splitE ((2 : Nat) : Int) ((4 : Nat) : Int) ((2 : Nat) : Int) [5, 7] = 0 from by decide +kernel)
  have E2 : Hid (sharesL 2 [5, 7] 4 (rowsN 2 2) = [(0, [5]), (1, [7]), (2, [9]), (3, [11])]) := Lib.hid (by decide +kernel)
  have E3 := Lib.hid (show checksL ((2 : Nat) : Int) ((4 : Nat) : Int) ((2 : Nat) : Int) vtL = 0 from by decide +kernel)
  have E4 := Lib.hid (show mostE ((2 : Nat) : Int) ((4 : Nat) : Int) ((2 : Nat) : Int) vtL = 0 from by decide +kernel)
  have E5 : Hid (mostB ((2 : Nat) : Int) ((4 : Nat) : Int) ((2 : Nat) : Int) vtL = [5, 7]) := Lib.hid (by decide +kernel)
  have E6 : Hid (mostW ((2 : Nat) : Int) ((4 : Nat) : Int) ((2 : Nat) : Int) vtL = [1]) := Lib.hid (by
    rw [mostW_nat E4.out, show badF (finV 2 4 2 vtL).2 0 vtL = [1] by decide +kernel]
    simp)
  have E7 := Lib.hid (show mostE ((2 : Nat) : Int) ((4 : Nat) : Int) ((2 : Nat) : Int) [(0, [5])] = 7 from by decide +kernel)
  have E8 : Hid (eqInts [5, 7] [5, 7] = true) := Lib.hid (by decide)
  have E9 : Hid (eqInts [1] [1] = true) := Lib.hid (by decide)
  go_enter Try.func14, Try.ntmps14
  go_upto_region 2 with fail
  have c0 : (W.alloc (.cells #[.int .i64 2, .int .i64 4, .int .i64 2] 23)).cell? ⟨W.heap.size, 0, none⟩ = some (.int .i64 2) := by go_simp
  have c1 : (W.alloc (.cells #[.int .i64 2, .int .i64 4, .int .i64 2] 23)).cell? ⟨W.heap.size, 1, none⟩ = some (.int .i64 4) := by go_simp
  have c2 : (W.alloc (.cells #[.int .i64 2, .int .i64 4, .int .i64 2] 23)).cell? ⟨W.heap.size, 2, none⟩ = some (.int .i64 2) := by go_simp
  have S0 := (Since.refl W).alloc (.cells #[.int .i64 2, .int .i64 4, .int .i64 2] 23)
  generalize W.alloc (.cells #[.int .i64 2, .int .i64 4, .int .i64 2] 23) = w0 at *
  obtain ⟨B, hB⟩ : ∃ B, B = W.heap.size := ⟨_, rfl⟩
  rw [← hB] at c0 c1 c2 ⊢
  have hBl := cell_lt c0
  clear hB
  have HC : Hid (∀ w', Since w0.heap.size w0 w' → w'.cell? ⟨B, 0, none⟩ = some (.int .i64 2) ∧ w'.cell? ⟨B, 1, none⟩ = some (.int .i64 4) ∧ w'.cell? ⟨B, 2, none⟩ = some (.int .i64 2)) := Lib.hid (fun w' q => ⟨below_cell q.below c0, below_cell q.below c1, below_cell q.below c2⟩)
  go_upto_region 5 with (go_at_call 13; go_fit (Split_ok 2 4 2 _ [5, 7] _ (IsInts.fresh w0 3 [5, 7] (by decide) (wfNums _ (by decide)) _ rfl) E1.out); rintro e w1 ⟨⟨g, f, rfl, ho1⟩, hb1⟩)
  have T1 := ((Since.refl w0).alloc (.cells #[.int .i64 5, .int .i64 7] 3)).step hb1
  have hz1 := hb1.size
  rw [E2.out] at ho1
  have ho2 := ho1.stays (below_alloc w1 (.cells #[.int .i64 8] 3))
  have hgl := ho1.lt
  have hgb := ho1.low
  have k1 := ho2.cellV (k := 1) (s := (1, [7])) rfl
  have k2 := ho2.free (1 * 2 + 1)
  have HV := Lib.hid (ho2.setV (k := 1) (t := (1, [7])) rfl (IsInts.fresh w1 3 [8] (by decide) (wfNums _ (by decide)) _ rfl) (by rintro j ⟨y, n', c', e, rfl⟩; simp only [Value.slice.injEq, Option.some.injEq] at e; obtain ⟨rfl, _, _⟩ := e; dsimp only; omega))
  have T2 := T1.alloc (.cells #[.int .i64 8] 3)
  have T3 := T2.setCell (a := ⟨g, 1 * 2 + 1, none⟩) (by dsimp only; simp at hgb; omega) (.slice (some ⟨w1.heap.size, 0, none⟩) 1 1)
  have hv3 : IsShares ((w1.alloc (.cells #[.int .i64 8] 3)).setCell ⟨g, 3, none⟩ (.slice (some ⟨w1.heap.size, 0, none⟩) 1 1)) (.slice (some ⟨g, 0, none⟩) 4 4) vtL := HV.out
  have T4 : Since w0.heap.size w0 ((w1.alloc (.cells #[.int .i64 8] 3)).setCell ⟨g, 3, none⟩ (.slice (some ⟨w1.heap.size, 0, none⟩) 1 1)) := T3
  rw [World.setCell_alloc_past _ g 3 _ hgl] at hv3 T4
  obtain ⟨d0, d1, d2⟩ := HC.out _ T4
  have k3 : (w1.alloc (.cells #[.int .i64 8] 3)).cell? ⟨g, 3, none⟩ = some (f 1) := k1
  have k4 : (w1.alloc (.cells #[.int .i64 8] 3)).frozen? ⟨g, 3, none⟩ = false := k2
  rw [World.cell?_alloc_past _ g 3 hgl] at k3
  rw [World.frozen?_alloc_past _ g 3 hgl] at k4
  have k5 : w1.cell? ⟨g, 1 * 2 + 1, none⟩ = some (f 1) := k3
  have k6 : w1.frozen? ⟨g, 1 * 2 + 1, none⟩ = false := k4
  clear c0 c1 c2 hb1 ho1 ho2 k1 k2 HV
  go_upto_region 6 with fail
  generalize hw2 : (w1.setCell ⟨g, 3, none⟩ (.slice (some ⟨w1.heap.size, 0, none⟩) 1 1)).alloc (.cells #[.int .i64 8] 3) = w2 at *
  have hv4 := shares_take hv3 1 (by decide)
  go_upto_region 7 with (go_at_call 19; go_fit (Most_ok 2 4 2 _ vtL _ hv3 (right_iff.1 E3.out)); rintro e w3 ⟨⟨vb, vw, rfl, hb3, hw3⟩, hb⟩; rw [E4.out])
  have T4 := T4.step hb
  rw [E5.out] at hb3
  rw [E6.out] at hw3
  have HB3 := Lib.hid hb3
  have HW3 := Lib.hid hw3
  obtain ⟨ab, cb, rfl, _⟩ := hb3.opened
  obtain ⟨aw, cw, rfl, _⟩ := hw3.opened
  have hv5 := (shares_stays hv4 hb)
  have s4 := HC.out _ T4.drew
  clear d0 d1 d2 hb hb3 hw3 hv3 hv4 k3 k4 k5 k6 hw2
  go_region_held3 (fun w' => w'.cell? ⟨B, 0, none⟩ = some (.int .i64 2) ∧ w'.cell? ⟨B, 1, none⟩ = some (.int .i64 4) ∧ w'.cell? ⟨B, 2, none⟩ = some (.int .i64 2)) (first | exact s4 | exact s5) (first
    | (go_at_call 19; go_fit (Most_any 2 4 2 _ [(0, [5])] _ (shares_stays hv5 (Since.refl w3).drew.below)); rintro e w5 ⟨⟨vx, vy, rfl, hb5, hw5⟩, hb⟩; rw [show mostE 2 4 2 [(0, [5])] = 7 from E7.out]; have T5 := T4.drew.step hb; have p5 := (Since.refl w3).drew.step hb; have s5 := HC.out _ T5))
  all_goals
    have HB5 := Lib.hid (HB3.out.stays p5.below)
    have HW5 := Lib.hid (HW3.out.stays p5.below)
    obtain ⟨ax, cx, rfl, _⟩ := hb5.opened
    obtain ⟨ay, cy, rfl, _⟩ := hw5.opened
    clear s4 s5 hb5 hw5 hb
    go_wp2_with fail
    refine (Equal_ints _ _ [5, 7] [5, 7] _ (HB5.out.stays (below_alloc _ _)) (IsInts.fresh w5 3 [5, 7] (by decide) (wfNums _ (by decide)) _ rfl)).mono ?_
    rintro e w6 ⟨rfl, hb6⟩
    rw [E8.out]
    have T6 := (T5.alloc (.cells #[.int .i64 5, .int .i64 7] 3)).step hb6
    have HW6 := Lib.hid ((HW5.out.stays (below_alloc _ (.cells #[.int .i64 5, .int .i64 7] 3))).stays hb6)
    clear hb6
    go_wp2_with fail
    refine (Equal_ints _ _ [1] [1] _ (HW6.out.stays (below_alloc _ _)) (IsInts.fresh w6 3 [1] (by decide) (wfNums _ (by decide)) _ rfl)).mono ?_
    rintro e w7 ⟨rfl, hb7⟩
    rw [E9.out]
    have T7 := (T6.alloc (.cells #[.int .i64 1] 3)).step hb7
    clear hb7
    go_wp2_with fail
    go_ret
    exact ⟨rfl, (S0.step T7.below).below⟩
end Go.Proofs.Ytnpdojjffbhalaa
