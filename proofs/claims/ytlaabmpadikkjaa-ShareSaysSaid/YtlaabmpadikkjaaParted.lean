/-
  The walk of the closed fact on shares.
-/
import Derived.Test.YtlaabmpadikkjaaShareLaw
import Derived.Test.YtlaabmpadikkjaaJoin2
import Derived.Test.YtlaabmpadikkjaaEqSh
import Derived.Test.YtlaabmpadikkjaaRow2
import Derived.Deep.RegionHeld3
import Derived.Deep.DeepCutAuto
namespace Go.Proofs.Ytlaabmpadikkjaa
open Go.RowKit

theorem i64S {z : Int} (h : 0 ≤ z ∧ z ≤ 1000) : I64 z := ⟨by omega, by omega⟩
/-- Shares that have just been laid down, their numbers being there already. -/
theorem shares_fresh {w : World} {T : TypeId} {ps : List (Int × Value)} {ls : List Sh} {n : Nat} (hn : n = w.heap.size) (hl : ps.length = ls.length) (hm : ls.length ≤ 1000000)
    (h : ∀ (i : Nat) p s, ps[i]? = some p → ls[i]? = some s → p.1 = s.1 ∧ I64 s.1 ∧ IsInts w p.2 s.2) :
    IsShares (w.alloc (.cells (cellsP ps).toArray T)) (.slice (some ⟨n, 0, none⟩) ls.length ls.length) ls := by
  subst hn
  refine ⟨_, _, rfl, Nat.le_refl _, ⟨by omega, by omega, fun e => by cases e⟩, fun i hi => ?_⟩
  have hp : ps[i]? = some ps[i] := List.getElem?_eq_getElem (by omega)
  have hs : ls[i]? = some ls[i] := List.getElem?_eq_getElem hi
  obtain ⟨h1, h2, h3⟩ := h i _ _ hp hs
  have hc : ∀ {ps : List (Int × Value)} {k : Nat} {p : Int × Value}, ps[k]? = some p → (cellsP ps)[k * 2]? = some (.int .i64 p.1) ∧ (cellsP ps)[k * 2 + 1]? = some p.2 := by
    intro ps
    induction ps with
    | nil => intro k p h; simp at h
    | cons q ps ih =>
      intro k p h
      match k, h with
      | 0, h => simp at h; subst h; simp [cellsP]
      | k + 1, h =>
        have := ih (k := k) (by simpa using h)
        rw [show (k + 1) * 2 = k * 2 + 1 + 1 by omega]
        simpa [cellsP] using this
  obtain ⟨c1, c2⟩ := hc hp
  refine ⟨_, 0, ps[i].2, ls[i], rfl, ?_, ?_, h3.stays (below_alloc _ _), hs, h2⟩
  · unfold World.cell? World.alloc
    simpa [← h1] using c1
  · unfold World.cell? World.alloc
    simpa using c2

set_option maxRecDepth 100000 in
set_option maxHeartbeats 4000000 in
theorem parted_any (W : World) : Calls Try.prog 14 #[] W fun e w' => e = .returned (.bool true) ∧ Below W.heap.size W w' := by
  have S := Since.refl W
  have E1 := Lib.hid (show splitE ((2 : Nat) : Int) ((3 : Nat) : Int) ((3 : Nat) : Int) [5, 7, 9] = 0 from by decide +kernel)
  have E2 := Lib.hid (show checkL ((2 : Nat) : Int) ((3 : Nat) : Int) ((3 : Nat) : Int) [] [(2, [9, 22]), (0, [5, 9])] = 0 from by decide +kernel)
  have E3 := Lib.hid (show joinE 2 3 3 [(2, [9, 22]), (0, [5, 9])] = 0 from by decide +kernel)
  have E4 := Lib.hid (show joinC 2 3 3 [(2, [9, 22]), (0, [5, 9])] = [5, 7, 9] from by decide +kernel)
  have E5 := Lib.hid (show checksL 2 3 3 [(2, [9, 22])] = 7 from by decide +kernel)
  have E6 := Lib.hid (show checkL ((2 : Nat) : Int) ((3 : Nat) : Int) ((3 : Nat) : Int) [] [(2, [9, 22]), (0, [5, 9]), (1, [7, 1])] = 0 from by decide +kernel)
  have E7 := Lib.hid (show joinE 2 3 3 [(2, [9, 22]), (0, [5, 9]), (1, [7, 1])] = 9 from by decide +kernel)
  have E8 := Lib.hid (show (sharesL 2 [5, 7, 9] 3 (rowsN 2 3))[2]? = some (2, [9, 22]) from by decide +kernel)
  have E9 := Lib.hid (show (sharesL 2 [5, 7, 9] 3 (rowsN 2 3))[1]? = some (1, [7, 0]) from by decide +kernel)
  have EA := Lib.hid (show longV 2 3 3 = 2 from by decide +kernel)
  have EB := Lib.hid (show oneV 2 3 3 1 [7, 0] = 0 from by decide +kernel)
  have EC := Lib.hid (show sameV 2 2 [9, 22] [9, 22] = true from by decide +kernel)
  have ED := Lib.hid (show eqInts [5, 7, 9] [5, 7, 9] = true from by decide +kernel)
  have EP := Lib.hid (show planV ((2 : Nat) : Int) ((3 : Nat) : Int) ((3 : Nat) : Int) = 0 from by decide +kernel)
  go_enter Try.func14, Try.ntmps14
  go_upto_region 2 with fail
  have c0 : (W.alloc (.cells #[.int .i64 2, .int .i64 3, .int .i64 3] 23)).cell? ⟨W.heap.size, 0, none⟩ = some (.int .i64 2) := by go_simp
  have c1 : (W.alloc (.cells #[.int .i64 2, .int .i64 3, .int .i64 3] 23)).cell? ⟨W.heap.size, 1, none⟩ = some (.int .i64 3) := by go_simp
  have c2 : (W.alloc (.cells #[.int .i64 2, .int .i64 3, .int .i64 3] 23)).cell? ⟨W.heap.size, 2, none⟩ = some (.int .i64 3) := by go_simp
  have S0 := S.alloc (.cells #[.int .i64 2, .int .i64 3, .int .i64 3] 23)
  generalize W.alloc (.cells #[.int .i64 2, .int .i64 3, .int .i64 3] 23) = w0 at *
  obtain ⟨B, hB⟩ : ∃ B, B = W.heap.size := ⟨_, rfl⟩
  rw [← hB] at c0 c1 c2 ⊢
  clear hB S
  have l0 := cell_lt c0
  go_wp2_with fail
  refine (Split_ok 2 3 3 _ [5, 7, 9] _ (IsInts.fresh w0 3 [5, 7, 9] (by decide) (wfNums _ (by decide)) _ rfl) E1.out).mono ?_
  rintro e w1 ⟨⟨g, f, rfl, ho1⟩, hb1⟩
  have T1 := ((Since.refl w0).alloc (.cells #[.int .i64 5, .int .i64 7, .int .i64 9] 3)).step hb1
  have HO1 := Lib.hid ho1
  have d0 := (T1.below.cell (p := ⟨B, 0, none⟩) l0).trans c0
  have d1 := (T1.below.cell (p := ⟨B, 1, none⟩) l0).trans c1
  have d2 := (T1.below.cell (p := ⟨B, 2, none⟩) l0).trans c2
  clear hb1 ho1
  have A1 := (IsInts.fresh w1 3 [9, 22] (by decide) (wfNums _ (by decide)) _ rfl).stays (below_alloc _ (.cells #[.int .i64 5, .int .i64 9] 3))
  have A2 := IsInts.fresh (w1.alloc (.cells #[.int .i64 9, .int .i64 22] 3)) 3 [5, 9] (by decide) (wfNums _ (by decide)) (w1.heap.size + 1) (by simp)
  have A3 := shares_fresh (T := 32) (ps := [(2, .slice (some ⟨w1.heap.size, 0, none⟩) 2 2), (0, .slice (some ⟨w1.heap.size + 1, 0, none⟩) 2 2)]) (ls := [(2, [9, 22]), (0, [5, 9])]) (w := (w1.alloc (.cells #[.int .i64 9, .int .i64 22] 3)).alloc (.cells #[.int .i64 5, .int .i64 9] 3)) (n := w1.heap.size + 1 + 1) (by simp) rfl (by simp) (fun i p s hp hs => by
    match i, hp, hs with
    | 0, hp, hs => simp at hp hs; subst hp hs; exact ⟨rfl, i64S (by decide), A1⟩
    | 1, hp, hs => simp at hp hs; subst hp hs; exact ⟨rfl, i64S (by decide), A2⟩)
  have HA3 := Lib.hid A3
  clear A1 A2 A3
  go_wp2_with fail
  refine (Join_ok 2 3 3 _ _ _ HA3.out (right_of EP.out (by decide) (by decide) E2.out) E2.out).mono ?_
  rintro e w2 ⟨⟨v2, rfl, hi2⟩, hb2⟩
  rw [E3.out]
  rw [E4.out] at hi2
  have U2 := (((Since.refl w1).alloc (.cells #[.int .i64 9, .int .i64 22] 3)).alloc (.cells #[.int .i64 5, .int .i64 9] 3)).alloc (.cells #[.int .i64 2, .slice (some ⟨w1.heap.size, 0, none⟩) 2 2, .int .i64 0, .slice (some ⟨w1.heap.size + 1, 0, none⟩) 2 2] 32)
  have V2 := U2.step hb2
  have HO2 := Lib.hid (HO1.out.stays V2.below)
  have T2 := T1.step V2.below
  have e0 := (T2.below.cell (p := ⟨B, 0, none⟩) l0).trans c0
  have e1 := (T2.below.cell (p := ⟨B, 1, none⟩) l0).trans c1
  have e2 := (T2.below.cell (p := ⟨B, 2, none⟩) l0).trans c2
  have HI2 := Lib.hid hi2
  obtain ⟨av2, cv2, rfl, _⟩ := hi2.opened
  clear hb2 hi2 U2 V2 T1 d0 d1 d2
  have A1 := IsInts.fresh w2 3 [9, 22] (by decide) (wfNums _ (by decide)) _ rfl
  have A3 := shares_fresh (T := 32) (ps := [(2, .slice (some ⟨w2.heap.size, 0, none⟩) 2 2)]) (ls := [(2, [9, 22])]) (w := w2.alloc (.cells #[.int .i64 9, .int .i64 22] 3)) (n := w2.heap.size + 1) (by simp) rfl (by simp) (fun i p s hp hs => by
    match i, hp, hs with
    | 0, hp, hs => simp at hp hs; subst hp hs; exact ⟨rfl, i64S (by decide), A1⟩)
  have HA4 := Lib.hid A3
  clear A1 A3
  go_wp2_with fail
  refine (Join_any 2 3 3 _ _ _ HA4.out (by rw [E5.out]; decide)).mono ?_
  rintro e w3 ⟨rfl, hb3⟩
  rw [E5.out]
  have V3 := (((Since.refl w2).alloc (.cells #[.int .i64 9, .int .i64 22] 3)).alloc (.cells #[.int .i64 2, .slice (some ⟨w2.heap.size, 0, none⟩) 2 2] 32)).step hb3
  have HO3 := Lib.hid (HO2.out.stays V3.below)
  have HI3 := Lib.hid (HI2.out.stays V3.below)
  have T3 := T2.step V3.below
  have d0 := (T3.below.cell (p := ⟨B, 0, none⟩) l0).trans c0
  have d1 := (T3.below.cell (p := ⟨B, 1, none⟩) l0).trans c1
  have d2 := (T3.below.cell (p := ⟨B, 2, none⟩) l0).trans c2
  clear hb3 V3 T2 e0 e1 e2
  have A1 := ((IsInts.fresh w3 3 [9, 22] (by decide) (wfNums _ (by decide)) _ rfl).stays (below_alloc _ (.cells #[.int .i64 5, .int .i64 9] 3))).stays (below_alloc _ (.cells #[.int .i64 7, .int .i64 1] 3))
  have A2 := (IsInts.fresh (w3.alloc (.cells #[.int .i64 9, .int .i64 22] 3)) 3 [5, 9] (by decide) (wfNums _ (by decide)) (w3.heap.size + 1) (by simp)).stays (below_alloc _ (.cells #[.int .i64 7, .int .i64 1] 3))
  have A3 := IsInts.fresh ((w3.alloc (.cells #[.int .i64 9, .int .i64 22] 3)).alloc (.cells #[.int .i64 5, .int .i64 9] 3)) 3 [7, 1] (by decide) (wfNums _ (by decide)) (w3.heap.size + 1 + 1) (by simp)
  have A4 := shares_fresh (T := 32) (ps := [(2, .slice (some ⟨w3.heap.size, 0, none⟩) 2 2), (0, .slice (some ⟨w3.heap.size + 1, 0, none⟩) 2 2), (1, .slice (some ⟨w3.heap.size + 1 + 1, 0, none⟩) 2 2)]) (ls := [(2, [9, 22]), (0, [5, 9]), (1, [7, 1])]) (w := ((w3.alloc (.cells #[.int .i64 9, .int .i64 22] 3)).alloc (.cells #[.int .i64 5, .int .i64 9] 3)).alloc (.cells #[.int .i64 7, .int .i64 1] 3)) (n := w3.heap.size + 1 + 1 + 1) (by simp) rfl (by simp) (fun i p s hp hs => by
    match i, hp, hs with
    | 0, hp, hs => simp at hp hs; subst hp hs; exact ⟨rfl, i64S (by decide), A1⟩
    | 1, hp, hs => simp at hp hs; subst hp hs; exact ⟨rfl, i64S (by decide), A2⟩
    | 2, hp, hs => simp at hp hs; subst hp hs; exact ⟨rfl, i64S (by decide), A3⟩)
  have HA5 := Lib.hid A4
  clear A1 A2 A3 A4
  go_wp2_with fail
  refine (Join_ok 2 3 3 _ _ _ HA5.out (right_of EP.out (by decide) (by decide) E6.out) E6.out).mono ?_
  rintro e w4 ⟨⟨v4, rfl, hi4⟩, hb4⟩
  rw [E7.out]
  obtain ⟨av4, cv4, rfl, _⟩ := hi4.opened
  have V4 := ((((((Since.refl w3).alloc (.cells #[.int .i64 9, .int .i64 22] 3)).alloc (.cells #[.int .i64 5, .int .i64 9] 3)).alloc (.cells #[.int .i64 7, .int .i64 1] 3)).alloc _)).step hb4
  have HO4 := Lib.hid (HO3.out.stays V4.below)
  have HI4 := Lib.hid (HI3.out.stays V4.below)
  have T4 := T3.step V4.below
  have f0 := (T4.below.cell (p := ⟨B, 0, none⟩) l0).trans c0
  have f1 := (T4.below.cell (p := ⟨B, 1, none⟩) l0).trans c1
  have f2 := (T4.below.cell (p := ⟨B, 2, none⟩) l0).trans c2
  have n2 := HO4.out.cellN E8.out
  have m2 := HO4.out.cellV E8.out
  have n1 := HO4.out.cellN E9.out
  have m1 := HO4.out.cellV E9.out
  have o2 := (HO4.out.own 2 _ E8.out).isInts
  have o1 := (HO4.out.own 1 _ E9.out).isInts
  obtain ⟨s2, hs2⟩ : ∃ s2, s2 = f 2 := ⟨_, rfl⟩
  obtain ⟨s1, hs1⟩ : ∃ s1, s1 = f 1 := ⟨_, rfl⟩
  rw [← hs2] at m2 o2
  rw [← hs1] at m1 o1
  obtain ⟨a2, q2, rfl, _⟩ := o2.opened
  obtain ⟨a1, q1, rfl, _⟩ := o1.opened
  have HI5 := Lib.hid o2
  have HI6 := Lib.hid o1
  have HS : Hid (∀ w', Since w4.heap.size w4 w' → w'.cell? ⟨B, 0, none⟩ = some (.int .i64 2) ∧ w'.cell? ⟨B, 1, none⟩ = some (.int .i64 3) ∧ w'.cell? ⟨B, 2, none⟩ = some (.int .i64 3) ∧ w'.cell? ⟨g, 4, none⟩ = some (.int .i64 2) ∧ w'.cell? ⟨g, 5, none⟩ = some (.slice a2 2 q2) ∧ w'.cell? ⟨g, 2, none⟩ = some (.int .i64 1) ∧ w'.cell? ⟨g, 3, none⟩ = some (.slice a1 2 q1)) :=
    Lib.hid (fun w' q => ⟨(q.below.cell (p := ⟨B, 0, none⟩) (cell_lt f0)).trans f0, (q.below.cell (p := ⟨B, 1, none⟩) (cell_lt f1)).trans f1, (q.below.cell (p := ⟨B, 2, none⟩) (cell_lt f2)).trans f2, (q.below.cell (p := ⟨g, 4, none⟩) (cell_lt n2)).trans n2, (q.below.cell (p := ⟨g, 5, none⟩) (cell_lt m2)).trans m2, (q.below.cell (p := ⟨g, 2, none⟩) (cell_lt n1)).trans n1, (q.below.cell (p := ⟨g, 3, none⟩) (cell_lt m1)).trans m1⟩)
  have s4 := HS.out w4.drew (Since.refl w4).drew
  have s4a := HS.out _ ((Since.refl w4).drew.alloc (.cells #[.int .i64 9, .int .i64 22] 3))
  clear hb4 hi4 V4 T3 d0 d1 d2 hs1 hs2 o1 o2
  go_upto_region 6 with fail
  go_region_held3 (fun w' => w'.cell? ⟨B, 0, none⟩ = some (.int .i64 2) ∧ w'.cell? ⟨B, 1, none⟩ = some (.int .i64 3) ∧ w'.cell? ⟨B, 2, none⟩ = some (.int .i64 3) ∧ w'.cell? ⟨g, 4, none⟩ = some (.int .i64 2) ∧ w'.cell? ⟨g, 5, none⟩ = some (.slice a2 2 q2) ∧ w'.cell? ⟨g, 2, none⟩ = some (.int .i64 1) ∧ w'.cell? ⟨g, 3, none⟩ = some (.slice a1 2 q1)) (first | exact s4 | exact s4a | exact s5 | exact s5a | exact s6 | exact s7 | exact s8) (first
    | (go_at_call 17; refine (Same_any 2 2 _ _ [9, 22] [9, 22] _ (HI5.out.stays ((Since.refl w4).drew.alloc (.cells #[.int .i64 9, .int .i64 22] 3)).below) (IsInts.fresh w4.drew 3 [9, 22] (by decide) (wfNums _ (by decide)) _ rfl)).mono ?_; rintro e w5 ⟨rfl, hb5⟩; rw [EC.out]; have p5 := ((Since.refl w4).drew.alloc (.cells #[.int .i64 9, .int .i64 22] 3)).step hb5; have s5 := HS.out w5 p5; have s5a := HS.out _ (p5.alloc (.cells #[.int .i64 5, .int .i64 7, .int .i64 9] 3)))
    | (go_at_call 27; refine (Equal_ints _ _ [5, 7, 9] [5, 7, 9] _ (HI4.out.stays (p5.alloc (.cells #[.int .i64 5, .int .i64 7, .int .i64 9] 3)).below) (IsInts.fresh w5 3 [5, 7, 9] (by decide) (wfNums _ (by decide)) _ rfl)).mono ?_; rintro e w6 ⟨rfl, hb6⟩; rw [ED.out]; have p6 := (p5.alloc (.cells #[.int .i64 5, .int .i64 7, .int .i64 9] 3)).step hb6; have s6 := HS.out w6 p6)
    | (go_at_call 15; refine (Long_any 2 3 3 _).mono ?_; rintro e w7 ⟨rfl, hb7⟩; rw [EA.out]; have p7 := p6.step hb7; have s7 := HS.out w7 p7)
    | (go_at_call 24; refine (One_any 2 3 3 1 _ [7, 0] _ (HI6.out.stays p7.below)).mono ?_; rintro e w8 ⟨rfl, hb8⟩; rw [EB.out]; have p8 := p7.step hb8; have s8 := HS.out w8 p8))
  all_goals
    go_wp2_with fail
    go_ret
    exact ⟨rfl, (S0.step (T4.step p8.below).below).below⟩

end Go.Proofs.Ytlaabmpadikkjaa
