/-
  The walk of slices.Reverse at lists of ints of the call's own.
  The walks of Behind and Heads.
  The walks of the reference's From, AllBehind and CommonOf, at right books.
  The walks of package kin.
  The walks of book.Heads, book.Same, and of the reference's HeadsOf, SameBook.
  The walks of the reference's HeadsOf, of slices.EqualFunc at versions, of book.Same and the reference's SameBook.
  The walks of what holds two peers against each other.
  The walks of what holds two meshes against each other.
-/
import Derived.Test.YtjakdgchfimhkaaGreatBase
import Derived.StillTailTactics
import Derived.Test.YtjakdgchfimhkaaGreatBooks
import Derived.Test.YtjakdgchfimhkaaGreatRowAll
import Derived.Test.YtjakdgchfimhkaaGreatTries
import Derived.Test.YtjakdgchfimhkaaGreatSaves
import Derived.Test.YtjakdgchfimhkaaGreatPlaces
namespace Go.Proofs.YtjakdgchfimhkaaGreat
open Go.RowKit

/-- k numbers of each end have changed places. -/
def Turned (l c : List Int) (k : Nat) : Prop := c.length = l.length ∧ ∀ j, j < l.length → c.getD j 0 = if j < k ∨ l.length - k ≤ j then l.getD (l.length - 1 - j) 0 else l.getD j 0
theorem getD_set' (c : List Int) (i j : Nat) (z : Int) (hi : i < c.length) : (c.set i z).getD j 0 = if j = i then z else c.getD j 0 := by
  simp only [List.getD_eq_getElem?_getD, List.getElem?_set]
  by_cases h : i = j
  · subst h; simp [hi]
  · simp [h, Ne.symm h]
theorem Turned.step {l c : List Int} {k : Nat} (h : Turned l c k) (hk : k < l.length - 1 - k) : Turned l ((c.set k (c.getD (l.length - 1 - k) 0)).set (l.length - 1 - k) (c.getD k 0)) (k + 1) := by
  obtain ⟨hl, hc⟩ := h
  refine ⟨by simp [hl], fun j hj => ?_⟩
  rw [getD_set' _ _ _ _ (by simp; omega), getD_set' _ _ _ _ (by omega)]
  have e1 := hc k (by omega)
  have e2 := hc (l.length - 1 - k) (by omega)
  rw [if_neg (by omega)] at e1 e2
  rw [e1, e2]
  by_cases h1 : j = l.length - 1 - k
  · rw [if_pos h1, if_pos (by omega)]
    congr 1
    omega
  · rw [if_neg h1]
    by_cases h2 : j = k
    · subst h2
      rw [if_pos rfl, if_pos (by omega)]
    · rw [if_neg h2, hc j hj]
      by_cases h3 : j < k ∨ l.length - k ≤ j
      · rw [if_pos h3, if_pos (by omega)]
      · rw [if_neg h3, if_neg (by omega)]
theorem Turned.done {l c : List Int} {k : Nat} (h : Turned l c k) (hk : l.length - 1 - k ≤ k) : c = l.reverse := by
  obtain ⟨hl, hc⟩ := h
  apply List.ext_getElem (by simp [hl])
  intro j h1 h2
  have := hc j (by omega)
  simp only [List.getD_eq_getElem?_getD, List.getElem?_eq_getElem h1, Option.getD_some] at this
  rw [this, List.getElem_reverse]
  by_cases h3 : j < k ∨ l.length - k ≤ j
  · rw [if_pos h3]
    rw [List.getElem?_eq_getElem (by omega)]; rfl
  · rw [if_neg h3]
    rw [List.getElem?_eq_getElem (by omega)]
    simp only [Option.getD_some]
    congr 1
    omega

end Go.Proofs.YtjakdgchfimhkaaGreat

namespace Go.Proofs.YtjakdgchfimhkaaGreat
open Go.RowKit

end Go.Proofs.YtjakdgchfimhkaaGreat

namespace Go.Proofs.YtjakdgchfimhkaaGreat
open Go.RowKit

end Go.Proofs.YtjakdgchfimhkaaGreat

namespace Go.Proofs.YtjakdgchfimhkaaGreat
open Go.RowKit

end Go.Proofs.YtjakdgchfimhkaaGreat

namespace Go.Proofs.YtjakdgchfimhkaaGreat
open Go.RowKit

end Go.Proofs.YtjakdgchfimhkaaGreat

namespace Go.Proofs.YtjakdgchfimhkaaGreat
open Go.RowKit

/-- Are versions alike? -/
def verEq (x y : Ver) : Bool := eqInts x.1 y.1 && (decide (x.2.1 = y.2.1) && (decide (x.2.2.1 = y.2.2.1) && decide (x.2.2.2 = y.2.2.2)))

set_option maxRecDepth 100000 in
set_option maxHeartbeats 2000000 in
theorem EqualVers_any (F : Nat) (eF : ∀ args w, (callFunc F args).run Tryz.prog w = .ok (.enter F args) w)
    (hF : ∀ u u' x y w, IsVer w u x → IsVer w u' y → Calls Tryz.prog F (#[u, u']) w fun e w' => e = .returned (.bool (verEq x y)) ∧ Below w.heap.size w w')
    (v u : Value) (l r : List Ver) (W : World) (hv : IsVers W v l) (hu : IsVers W u r) :
    Calls Tryz.prog 81 #[v, u, .func (.func F) #[] #[]] W fun e w' => e = .returned (.bool (eqBy verEq l r)) ∧ Below W.heap.size W w' := by
  obtain ⟨a, c, rfl, hcap, ⟨hm, hcm, _⟩, _⟩ := hv.opened
  obtain ⟨a', c', rfl, hcap', ⟨hm', hcm', _⟩, _⟩ := hu.opened
  have HF := Lib.hid hF
  clear hF
  by_cases hl : l.length = r.length
  · have hl2 : (((l.length : Nat) : Int) != ((r.length : Nat) : Int)) = false := by simp [hl]
    have HL := Lib.hid hl
    clear hl
    go_enter Tryz.func81, Tryz.ntmps81
    go_wp2_with fail
    go_loopw [17] (fun i wr => ∃ k : Nat, k ≤ l.length ∧ i = .int .i64 k ∧ Since W.heap.size W wr ∧ eqBy verEq (l.drop k) (r.drop k) = eqBy verEq l r) (fun i _ => l.length - (intOf i).toNat)
    case atStart => exact ⟨0, by omega, rfl, Since.refl W, rfl⟩
    case round =>
      obtain ⟨k, hk, rfl, hS, hq⟩ := hrel
      have HQ := Lib.hid hq
      clear hq
      by_cases hlt : k < l.length
      · have hlr : k < r.length := by have := HL.out; omega
        obtain ⟨g, off, u, cu, rfl, k0, k1, k2, k3, hp, hi⟩ := vers_at (hv.later RVer.stays (Dirty.old hS.below _)) (List.getElem?_eq_getElem hlt)
        obtain ⟨g', off', u', cu', rfl, k0', k1', k2', k3', hp', hi'⟩ := vers_at (hu.later RVer.stays (Dirty.old hS.below _)) (List.getElem?_eq_getElem hlr)
        have HD := Lib.hid (List.drop_eq_getElem_cons hlt)
        have HE := Lib.hid (List.drop_eq_getElem_cons hlr)
        generalize l[k] = x at *
        generalize r[k] = y at *
        have q0 := cell_lt k0'
        have S1 := hS.alloc (.cells #[.slice u x.1.length cu, .int .i64 x.2.1, .int .i64 x.2.2.1, .int .i64 x.2.2.2] 49)
        have S2 := S1.alloc (.cells #[.slice u' y.1.length cu', .int .i64 y.2.1, .int .i64 y.2.2.1, .int .i64 y.2.2.2] 49)
        have U2 := ((Since.refl wr).alloc (.cells #[.slice u x.1.length cu, .int .i64 x.2.1, .int .i64 x.2.2.1, .int .i64 x.2.2.2] 49)).alloc (.cells #[.slice u' y.1.length cu', .int .i64 y.2.1, .int .i64 y.2.2.1, .int .i64 y.2.2.2] 49)
        have hx2 : IsVer _ (.agg #[.slice u x.1.length cu, .int .i64 x.2.1, .int .i64 x.2.2.1, .int .i64 x.2.2.2]) x := ⟨_, rfl, hp.stays U2.below, hi⟩
        have hy2 : IsVer _ (.agg #[.slice u' y.1.length cu', .int .i64 y.2.1, .int .i64 y.2.2.1, .int .i64 y.2.2.2]) y := ⟨_, rfl, hp'.stays U2.below, hi'⟩
        have HX := Lib.hid hx2
        have HY := Lib.hid hy2
        obtain ⟨T, hT⟩ : ∃ T, T = verEq x y := ⟨_, rfl⟩
        have HT := Lib.hid hT
        clear hT hx2 hy2 hp hp' hi hi' U2
        cases T with
        | true =>
          go_wp2_with (go_at_fn F; refine (HF.out _ _ x y _ HX.out HY.out).mono ?_; rintro e w5 ⟨rfl, hb5⟩; rw [← HT.out])
          have S5 := S2.step hb5
          clear k0 k1 k2 k3 k0' k1' k2' k3'
          go_roundw
          case rel =>
            refine ⟨k + 1, by omega, by go_num, S5, ?_⟩
            rw [← HQ.out, HD.out, HE.out]
            simp [eqBy, ← HT.out]
          case measure => simp [intOf]; omega
        | false =>
          go_wp2_with (go_at_fn F; refine (HF.out _ _ x y _ HX.out HY.out).mono ?_; rintro e w5 ⟨rfl, hb5⟩; rw [← HT.out])
          have S5 := S2.step hb5
          go_ret
          refine ⟨ret_bool ?_, S5.below⟩
          rw [← HQ.out, HD.out, HE.out]
          simp [eqBy, ← HT.out]
      · obtain rfl : l.length = k := by omega
        go_wp2_with fail
        go_ret
        refine ⟨ret_bool ?_, hS.below⟩
        have hLL := HL.out
        rw [← HQ.out, List.drop_eq_nil_of_le (show l.length ≤ l.length by omega), List.drop_eq_nil_of_le (show r.length ≤ l.length by omega)]
        rfl
  · have hl2 : (((l.length : Nat) : Int) != ((r.length : Nat) : Int)) = true := by rw [bne_iff_ne]; omega
    have HN := Lib.hid (eqBy_len verEq hl)
    clear hl
    go_enter Tryz.func81, Tryz.ntmps81
    go_wp2_with fail
    go_ret
    exact ⟨ret_bool HN.out.symm, Below.refl _ _⟩

set_option maxRecDepth 100000 in
set_option maxHeartbeats 2000000 in
theorem SameVer_any (u u' : Value) (x y : Ver) (w : World) (hx : IsVer w u x) (hy : IsVer w u' y) :
    Calls Tryz.prog 82 #[u, u'] w fun e w' => e = .returned (.bool (verEq x y)) ∧ Below w.heap.size w w' := by
  obtain ⟨up, rfl, hp, _⟩ := hx
  obtain ⟨a, c, rfl, _⟩ := hp.opened
  obtain ⟨up', rfl, hp', _⟩ := hy
  obtain ⟨a', c', rfl, _⟩ := hp'.opened
  obtain ⟨xp, x0, x1, x2⟩ := x
  obtain ⟨yp, y0, y1, y2⟩ := y
  have S0 := ((Since.refl w).alloc (.cells #[.slice a xp.length c, .int .i64 x0, .int .i64 x1, .int .i64 x2] 49)).alloc (.cells #[.slice a' yp.length c', .int .i64 y0, .int .i64 y1, .int .i64 y2] 49)
  have hp0 := hp.stays S0.below
  have hp0' := hp'.stays S0.below
  clear hp hp'
  by_cases h : x0 = y0 ∧ x1 = y1 ∧ x2 = y2
  · obtain ⟨rfl, rfl, rfl⟩ := h
    have HV := Lib.hid (show verEq (xp, x0, x1, x2) (yp, x0, x1, x2) = eqInts xp yp by simp [verEq])
    go_enter Tryz.func82, Tryz.ntmps82
    go_wp2_with fail
    refine (Equal_ints _ _ xp yp _ hp0 hp0').mono ?_
    rintro e w1 ⟨rfl, hb1⟩
    go_wp2_with fail
    go_ret
    exact ⟨ret_bool HV.out.symm, (S0.step hb1).below⟩
  · have HV := Lib.hid (show verEq (xp, x0, x1, x2) (yp, y0, y1, y2) = false by simp [verEq]; intro _ h0 h1 h2; exact h ⟨h0, h1, h2⟩)
    have h3 : (x0 == y0) = false ∨ x0 = y0 ∧ (x1 == y1) = false ∨ x0 = y0 ∧ x1 = y1 ∧ (x2 == y2) = false := by
      simp only [beq_eq_false_iff_ne]
      by_cases e0 : x0 = y0
      · by_cases e1 : x1 = y1
        · exact Or.inr (Or.inr ⟨e0, e1, fun e2 => h ⟨e0, e1, e2⟩⟩)
        · exact Or.inr (Or.inl ⟨e0, e1⟩)
      · exact Or.inl e0
    clear h
    rcases h3 with h | ⟨rfl, h⟩ | ⟨rfl, rfl, h⟩
    all_goals
      go_enter Tryz.func82, Tryz.ntmps82
      go_wp2_with fail
      go_ret
      exact ⟨ret_bool HV.out.symm, S0.below⟩

set_option maxRecDepth 100000 in
set_option maxHeartbeats 2000000 in
theorem SameVerR_any (u u' : Value) (x y : Ver) (w : World) (hx : IsVer w u x) (hy : IsVer w u' y) :
    Calls Tryz.prog 85 #[u, u'] w fun e w' => e = .returned (.bool (verEq x y)) ∧ Below w.heap.size w w' := by
  obtain ⟨up, rfl, hp, _⟩ := hx
  obtain ⟨a, c, rfl, _⟩ := hp.opened
  obtain ⟨up', rfl, hp', _⟩ := hy
  obtain ⟨a', c', rfl, _⟩ := hp'.opened
  obtain ⟨xp, x0, x1, x2⟩ := x
  obtain ⟨yp, y0, y1, y2⟩ := y
  have S0 := ((Since.refl w).alloc (.cells #[.slice a xp.length c, .int .i64 x0, .int .i64 x1, .int .i64 x2] 49)).alloc (.cells #[.slice a' yp.length c', .int .i64 y0, .int .i64 y1, .int .i64 y2] 49)
  have hp0 := hp.stays S0.below
  have hp0' := hp'.stays S0.below
  have k0 : ((w.alloc (.cells #[.slice a xp.length c, .int .i64 x0, .int .i64 x1, .int .i64 x2] 49)).alloc (.cells #[.slice a' yp.length c', .int .i64 y0, .int .i64 y1, .int .i64 y2] 49)).cell? ⟨w.heap.size, 1, none⟩ = some (.int .i64 x0) := by go_simp
  have k1 : ((w.alloc (.cells #[.slice a xp.length c, .int .i64 x0, .int .i64 x1, .int .i64 x2] 49)).alloc (.cells #[.slice a' yp.length c', .int .i64 y0, .int .i64 y1, .int .i64 y2] 49)).cell? ⟨w.heap.size, 2, none⟩ = some (.int .i64 x1) := by go_simp
  have k2 : ((w.alloc (.cells #[.slice a xp.length c, .int .i64 x0, .int .i64 x1, .int .i64 x2] 49)).alloc (.cells #[.slice a' yp.length c', .int .i64 y0, .int .i64 y1, .int .i64 y2] 49)).cell? ⟨w.heap.size, 3, none⟩ = some (.int .i64 x2) := by go_simp
  have q0 : ((w.alloc (.cells #[.slice a xp.length c, .int .i64 x0, .int .i64 x1, .int .i64 x2] 49)).alloc (.cells #[.slice a' yp.length c', .int .i64 y0, .int .i64 y1, .int .i64 y2] 49)).cell? ⟨w.heap.size + 1, 1, none⟩ = some (.int .i64 y0) := by go_simp
  have q1 : ((w.alloc (.cells #[.slice a xp.length c, .int .i64 x0, .int .i64 x1, .int .i64 x2] 49)).alloc (.cells #[.slice a' yp.length c', .int .i64 y0, .int .i64 y1, .int .i64 y2] 49)).cell? ⟨w.heap.size + 1, 2, none⟩ = some (.int .i64 y1) := by go_simp
  have q2 : ((w.alloc (.cells #[.slice a xp.length c, .int .i64 x0, .int .i64 x1, .int .i64 x2] 49)).alloc (.cells #[.slice a' yp.length c', .int .i64 y0, .int .i64 y1, .int .i64 y2] 49)).cell? ⟨w.heap.size + 1, 3, none⟩ = some (.int .i64 y2) := by go_simp
  clear hp hp'
  go_enter Tryz.func85, Tryz.ntmps85
  go_wp2_with fail
  generalize (w.alloc (.cells #[.slice a xp.length c, .int .i64 x0, .int .i64 x1, .int .i64 x2] 49)).alloc (.cells #[.slice a' yp.length c', .int .i64 y0, .int .i64 y1, .int .i64 y2] 49) = w0 at *
  obtain ⟨B1, hB1⟩ : ∃ B, B = w.heap.size + 1 := ⟨_, rfl⟩
  rw [← hB1] at q0 q1 q2 ⊢
  clear hB1
  obtain ⟨B0, hB0⟩ : ∃ B, B = w.heap.size := ⟨_, rfl⟩
  rw [← hB0] at k0 k1 k2
  have HB0 := Lib.hid hB0
  clear hB0
  rw [← HB0.out]
  refine (Equal_ints _ _ xp yp _ hp0 hp0').mono ?_
  rintro e w1 ⟨rfl, hb1⟩
  have j0 := (hb1.cell (p := ⟨B0, 1, none⟩) (cell_lt k0)).trans k0
  have j1 := (hb1.cell (p := ⟨B0, 2, none⟩) (cell_lt k1)).trans k1
  have j2 := (hb1.cell (p := ⟨B0, 3, none⟩) (cell_lt k2)).trans k2
  have r0 := (hb1.cell (p := ⟨B1, 1, none⟩) (cell_lt q0)).trans q0
  have r1 := (hb1.cell (p := ⟨B1, 2, none⟩) (cell_lt q1)).trans q1
  have r2 := (hb1.cell (p := ⟨B1, 3, none⟩) (cell_lt q2)).trans q2
  have S1 := S0.step hb1
  clear k0 k1 k2 q0 q1 q2
  cases hq : eqInts xp yp with
  | false =>
    have HV := Lib.hid (show verEq (xp, x0, x1, x2) (yp, y0, y1, y2) = false by simp [verEq, hq])
    clear hq
    go_wp2_with fail
    go_ret
    exact ⟨ret_bool HV.out.symm, S1.below⟩
  | true =>
    by_cases h : x0 = y0 ∧ x1 = y1 ∧ x2 = y2
    · obtain ⟨rfl, rfl, rfl⟩ := h
      have HV := Lib.hid (show verEq (xp, x0, x1, x2) (yp, x0, x1, x2) = true by simp [verEq, hq])
      clear hq
      go_wp2_with fail
      go_ret
      exact ⟨ret_bool HV.out.symm, S1.below⟩
    · have HV := Lib.hid (show verEq (xp, x0, x1, x2) (yp, y0, y1, y2) = false by simp [verEq]; intro _ h0 h1 h2; exact h ⟨h0, h1, h2⟩)
      have h3 : (x0 == y0) = false ∨ x0 = y0 ∧ (x1 == y1) = false ∨ x0 = y0 ∧ x1 = y1 ∧ (x2 == y2) = false := by
        simp only [beq_eq_false_iff_ne]
        by_cases e0 : x0 = y0
        · by_cases e1 : x1 = y1
          · exact Or.inr (Or.inr ⟨e0, e1, fun e2 => h ⟨e0, e1, e2⟩⟩)
          · exact Or.inr (Or.inl ⟨e0, e1⟩)
        · exact Or.inl e0
      clear h hq
      rcases h3 with h | ⟨rfl, h⟩ | ⟨rfl, rfl, h⟩
      all_goals
        go_wp2_with fail
        go_ret
        exact ⟨ret_bool HV.out.symm, S1.below⟩

set_option maxRecDepth 100000 in
set_option maxHeartbeats 2000000 in
theorem Same_book (v u : Value) (b c : List Ver) (W : World) (hv : IsVers W v b) (hu : IsVers W u c) :
    Calls Tryz.prog 42 #[.agg #[v], .agg #[u]] W fun e w' => e = .returned (.bool (eqBy verEq b c)) ∧ Below W.heap.size W w' := by
  obtain ⟨a, n, rfl, _⟩ := hv.opened
  obtain ⟨a', n', rfl, _⟩ := hu.opened
  have S0 := ((Since.refl W).alloc (.cells #[.slice a b.length n] 24)).alloc (.cells #[.slice a' c.length n'] 24)
  have hv0 := hv.later RVer.stays (Dirty.old S0.below _)
  have hu0 := hu.later RVer.stays (Dirty.old S0.below _)
  clear hv hu
  go_enter Tryz.func42, Tryz.ntmps42
  go_wp2_with fail
  refine (EqualVers_any 82 (fun _ _ => rfl) SameVer_any _ _ b c _ hv0 hu0).mono ?_
  rintro e w1 ⟨rfl, hb1⟩
  go_wp2_with fail
  go_ret
  exact ⟨rfl, (S0.step hb1).below⟩

set_option maxRecDepth 100000 in
set_option maxHeartbeats 2000000 in
theorem SameBook_any (v u : Value) (b c : List Ver) (W : World) (hv : IsVers W v b) (hu : IsVers W u c) :
    Calls Tryz.prog 45 #[.agg #[v], .agg #[u]] W fun e w' => e = .returned (.bool (eqBy verEq b c)) ∧ Below W.heap.size W w' := by
  obtain ⟨a, n, rfl, _⟩ := hv.opened
  obtain ⟨a', n', rfl, _⟩ := hu.opened
  have S0 := ((Since.refl W).alloc (.cells #[.slice a b.length n] 24)).alloc (.cells #[.slice a' c.length n'] 24)
  have hv0 := hv.later RVer.stays (Dirty.old S0.below _)
  have hu0 := hu.later RVer.stays (Dirty.old S0.below _)
  clear hv hu
  go_enter Tryz.func45, Tryz.ntmps45
  go_wp2_with fail
  refine (EqualVers_any 85 (fun _ _ => rfl) SameVerR_any _ _ b c _ hv0 hu0).mono ?_
  rintro e w1 ⟨rfl, hb1⟩
  go_wp2_with fail
  go_ret
  exact ⟨rfl, (S0.step hb1).below⟩

end Go.Proofs.YtjakdgchfimhkaaGreat

namespace Go.Proofs.YtjakdgchfimhkaaGreat
open Go.RowKit

/-- Are kept shares, are peers alike? -/
def kpEq (x y : Kp) : Bool := decide (x.1 = y.1) && (decide (x.2.1 = y.2.1) && eqInts x.2.2 y.2.2)
def prEq (p q : Pr) : Bool := (p.1 == q.1) && (decide (p.2.1 = q.2.1) && eqBy kpEq p.2.2 q.2.2)
theorem kpEq_iff (x y : Kp) : kpEq x y = true ↔ x = y := by
  obtain ⟨x0, x1, xp⟩ := x
  obtain ⟨y0, y1, yp⟩ := y
  simp [kpEq, eqInts]
theorem prEq_iff (p q : Pr) : prEq p q = true ↔ p = q := by
  obtain ⟨t, r, l⟩ := p
  obtain ⟨t', r', l'⟩ := q
  simp [prEq, eqBy_iff kpEq_iff]
set_option maxRecDepth 100000 in
set_option maxHeartbeats 2000000 in
theorem EqualKepts_any (F : Nat) (eF : ∀ args w, (callFunc F args).run Tryz.prog w = .ok (.enter F args) w)
    (hF : ∀ u u' x y w, IsKept w u x → IsKept w u' y → Calls Tryz.prog F (#[u, u']) w fun e w' => e = .returned (.bool (kpEq x y)) ∧ Below w.heap.size w w')
    (v u : Value) (l r : List Kp) (W : World) (hv : IsKepts W v l) (hu : IsKepts W u r) :
    Calls Tryz.prog 83 #[v, u, .func (.func F) #[] #[]] W fun e w' => e = .returned (.bool (eqBy kpEq l r)) ∧ Below W.heap.size W w' := by
  obtain ⟨a, c, rfl, hcap, ⟨hm, hcm, _⟩, _⟩ := hv.opened
  obtain ⟨a', c', rfl, hcap', ⟨hm', hcm', _⟩, _⟩ := hu.opened
  have HF := Lib.hid hF
  clear hF
  by_cases hl : l.length = r.length
  · have hl2 : (((l.length : Nat) : Int) != ((r.length : Nat) : Int)) = false := by simp [hl]
    have HL := Lib.hid hl
    clear hl
    go_enter Tryz.func83, Tryz.ntmps83
    go_wp2_with fail
    go_loopw [17] (fun i wr => ∃ k : Nat, k ≤ l.length ∧ i = .int .i64 k ∧ Since W.heap.size W wr ∧ eqBy kpEq (l.drop k) (r.drop k) = eqBy kpEq l r) (fun i _ => l.length - (intOf i).toNat)
    case atStart => exact ⟨0, by omega, rfl, Since.refl W, rfl⟩
    case round =>
      obtain ⟨k, hk, rfl, hS, hq⟩ := hrel
      have HQ := Lib.hid hq
      clear hq
      by_cases hlt : k < l.length
      · have hlr : k < r.length := by have := HL.out; omega
        obtain ⟨g, off, u, cu, rfl, k0, k1, k2, hp, hi⟩ := kept_at (hv.later RKept.stays (Dirty.old hS.below _)) (List.getElem?_eq_getElem hlt)
        obtain ⟨g', off', u', cu', rfl, k0', k1', k2', hp', hi'⟩ := kept_at (hu.later RKept.stays (Dirty.old hS.below _)) (List.getElem?_eq_getElem hlr)
        have HD := Lib.hid (List.drop_eq_getElem_cons hlt)
        have HE := Lib.hid (List.drop_eq_getElem_cons hlr)
        generalize l[k] = x at *
        generalize r[k] = y at *
        have q0 := cell_lt k0'
        have S1 := hS.alloc (.cells #[.int .i64 x.1, .int .i64 x.2.1, .slice u x.2.2.length cu] 60)
        have S2 := S1.alloc (.cells #[.int .i64 y.1, .int .i64 y.2.1, .slice u' y.2.2.length cu'] 60)
        have U2 := ((Since.refl wr).alloc (.cells #[.int .i64 x.1, .int .i64 x.2.1, .slice u x.2.2.length cu] 60)).alloc (.cells #[.int .i64 y.1, .int .i64 y.2.1, .slice u' y.2.2.length cu'] 60)
        have hx2 : IsKept _ (.agg #[.int .i64 x.1, .int .i64 x.2.1, .slice u x.2.2.length cu]) x := ⟨_, rfl, hp.stays U2.below, hi⟩
        have hy2 : IsKept _ (.agg #[.int .i64 y.1, .int .i64 y.2.1, .slice u' y.2.2.length cu']) y := ⟨_, rfl, hp'.stays U2.below, hi'⟩
        have HX := Lib.hid hx2
        have HY := Lib.hid hy2
        obtain ⟨T, hT⟩ : ∃ T, T = kpEq x y := ⟨_, rfl⟩
        have HT := Lib.hid hT
        clear hT hx2 hy2 hp hp' hi hi' U2
        cases T with
        | true =>
          go_wp2_with (go_at_fn F; refine (HF.out _ _ x y _ HX.out HY.out).mono ?_; rintro e w5 ⟨rfl, hb5⟩; rw [← HT.out])
          have S5 := S2.step hb5
          clear k0 k1 k2 k0' k1' k2'
          go_roundw
          case rel =>
            refine ⟨k + 1, by omega, by go_num, S5, ?_⟩
            rw [← HQ.out, HD.out, HE.out]
            simp [eqBy, ← HT.out]
          case measure => simp [intOf]; omega
        | false =>
          go_wp2_with (go_at_fn F; refine (HF.out _ _ x y _ HX.out HY.out).mono ?_; rintro e w5 ⟨rfl, hb5⟩; rw [← HT.out])
          have S5 := S2.step hb5
          go_ret
          refine ⟨ret_bool ?_, S5.below⟩
          rw [← HQ.out, HD.out, HE.out]
          simp [eqBy, ← HT.out]
      · obtain rfl : l.length = k := by omega
        go_wp2_with fail
        go_ret
        refine ⟨ret_bool ?_, hS.below⟩
        have hLL := HL.out
        rw [← HQ.out, List.drop_eq_nil_of_le (show l.length ≤ l.length by omega), List.drop_eq_nil_of_le (show r.length ≤ l.length by omega)]
        rfl
  · have hl2 : (((l.length : Nat) : Int) != ((r.length : Nat) : Int)) = true := by rw [bne_iff_ne]; omega
    have HN := Lib.hid (eqBy_len kpEq hl)
    clear hl
    go_enter Tryz.func83, Tryz.ntmps83
    go_wp2_with fail
    go_ret
    exact ⟨ret_bool HN.out.symm, Below.refl _ _⟩

set_option maxRecDepth 100000 in
set_option maxHeartbeats 1000000 in
theorem SameKept_any (u u' : Value) (x y : Kp) (w : World) (hx : IsKept w u x) (hy : IsKept w u' y) :
    Calls Tryz.prog 84 #[u, u'] w fun e w' => e = .returned (.bool (kpEq x y)) ∧ Below w.heap.size w w' := by
  obtain ⟨up, rfl, hp, _⟩ := hx
  obtain ⟨a, c, rfl, _⟩ := hp.opened
  obtain ⟨up', rfl, hp', _⟩ := hy
  obtain ⟨a', c', rfl, _⟩ := hp'.opened
  obtain ⟨x0, x1, xp⟩ := x
  obtain ⟨y0, y1, yp⟩ := y
  have S0 := ((Since.refl w).alloc (.cells #[.int .i64 x0, .int .i64 x1, .slice a xp.length c] 60)).alloc (.cells #[.int .i64 y0, .int .i64 y1, .slice a' yp.length c'] 60)
  have hp0 := hp.stays S0.below
  have hp0' := hp'.stays S0.below
  clear hp hp'
  by_cases h : x0 = y0
  · subst h
    have HV := Lib.hid (show kpEq (x0, x1, xp) (x0, y1, yp) = sameV x1 y1 xp yp by simp [kpEq, sameV])
    go_enter Tryz.func84, Tryz.ntmps84
    go_wp2_with fail
    refine (Same_any _ _ _ _ xp yp _ hp0 hp0').mono ?_
    rintro e w1 ⟨rfl, hb1⟩
    go_wp2_with fail
    go_ret
    exact ⟨ret_bool HV.out.symm, (S0.step hb1).below⟩
  · have HV := Lib.hid (show kpEq (x0, x1, xp) (y0, y1, yp) = false by simp [kpEq, h])
    have h2 : (x0 == y0) = false := by simpa using h
    clear h
    go_enter Tryz.func84, Tryz.ntmps84
    go_wp2_with fail
    go_ret
    exact ⟨ret_bool HV.out.symm, S0.below⟩

set_option maxRecDepth 100000 in
set_option maxHeartbeats 1000000 in
theorem SameKeptR_any (u u' : Value) (x y : Kp) (w : World) (hx : IsKept w u x) (hy : IsKept w u' y) :
    Calls Tryz.prog 86 #[u, u'] w fun e w' => e = .returned (.bool (kpEq x y)) ∧ Below w.heap.size w w' := by
  obtain ⟨up, rfl, hp, _⟩ := hx
  obtain ⟨a, c, rfl, _⟩ := hp.opened
  obtain ⟨up', rfl, hp', _⟩ := hy
  obtain ⟨a', c', rfl, _⟩ := hp'.opened
  obtain ⟨x0, x1, xp⟩ := x
  obtain ⟨y0, y1, yp⟩ := y
  have S0 := ((Since.refl w).alloc (.cells #[.int .i64 x0, .int .i64 x1, .slice a xp.length c] 60)).alloc (.cells #[.int .i64 y0, .int .i64 y1, .slice a' yp.length c'] 60)
  have hp0 := hp.stays S0.below
  have hp0' := hp'.stays S0.below
  clear hp hp'
  by_cases h : x0 = y0
  · subst h
    have HV := Lib.hid (show kpEq (x0, x1, xp) (x0, y1, yp) = sameV x1 y1 xp yp by simp [kpEq, sameV])
    go_enter Tryz.func86, Tryz.ntmps86
    go_wp2_with fail
    refine (SameShare_any _ _ _ _ xp yp _ hp0 hp0').mono ?_
    rintro e w1 ⟨rfl, hb1⟩
    go_wp2_with fail
    go_ret
    exact ⟨ret_bool HV.out.symm, (S0.step hb1).below⟩
  · have HV := Lib.hid (show kpEq (x0, x1, xp) (y0, y1, yp) = false by simp [kpEq, h])
    have h2 : (x0 == y0) = false := by simpa using h
    clear h
    go_enter Tryz.func86, Tryz.ntmps86
    go_wp2_with fail
    go_ret
    exact ⟨ret_bool HV.out.symm, S0.below⟩

set_option maxRecDepth 100000 in
set_option maxHeartbeats 1000000 in
theorem SamePr_any (u u' : Value) (p q : Pr) (W : World) (hp : IsPeer W u p) (hq : IsPeer W u' q) :
    Calls Tryz.prog 44 #[u, u'] W fun e w' => e = .returned (.bool (prEq p q)) ∧ Below W.heap.size W w' := by
  obtain ⟨up, rfl, hp, _⟩ := hp
  obtain ⟨a, c, rfl, _⟩ := hp.opened
  obtain ⟨up', rfl, hp', _⟩ := hq
  obtain ⟨a', c', rfl, _⟩ := hp'.opened
  obtain ⟨t, r, l⟩ := p
  obtain ⟨t', r', l'⟩ := q
  have S0 := ((Since.refl W).alloc (.cells #[.bool t, .int .i64 r, .slice a l.length c] 45)).alloc (.cells #[.bool t', .int .i64 r', .slice a' l'.length c'] 45)
  have hp0 := hp.stays RKept.stays S0.below
  have hp0' := hp'.stays RKept.stays S0.below
  clear hp hp'
  by_cases ht : t = t'
  · subst ht
    by_cases hr : r = r'
    · subst hr
      have HV := Lib.hid (show prEq (t, r, l) (t, r, l') = eqBy kpEq l l' by simp [prEq])
      have htt : (t == t) = true := by simp
      go_enter Tryz.func44, Tryz.ntmps44
      go_wp2_with fail
      refine (EqualKepts_any 84 (fun _ _ => rfl) SameKept_any _ _ l l' _ hp0 hp0').mono ?_
      rintro e w1 ⟨rfl, hb1⟩
      go_wp2_with fail
      go_ret
      exact ⟨ret_bool HV.out.symm, (S0.step hb1).below⟩
    · have HV := Lib.hid (show prEq (t, r, l) (t, r', l') = false by simp [prEq, hr])
      have htt : (t == t) = true := by simp
      have h2 : (r == r') = false := by simpa using hr
      clear hr
      go_enter Tryz.func44, Tryz.ntmps44
      go_wp2_with fail
      go_ret
      exact ⟨ret_bool HV.out.symm, S0.below⟩
  · have HV := Lib.hid (show prEq (t, r, l) (t', r', l') = false by simp [prEq, ht])
    have h2 : (t == t') = false := by simpa using ht
    clear ht
    go_enter Tryz.func44, Tryz.ntmps44
    go_wp2_with fail
    go_ret
    exact ⟨ret_bool HV.out.symm, S0.below⟩

set_option maxRecDepth 100000 in
set_option maxHeartbeats 1000000 in
theorem SamePeerR_any (u u' : Value) (p q : Pr) (W : World) (hp : IsPeer W u p) (hq : IsPeer W u' q) :
    Calls Tryz.prog 46 #[u, u'] W fun e w' => e = .returned (.bool (prEq p q)) ∧ Below W.heap.size W w' := by
  obtain ⟨up, rfl, hp, _⟩ := hp
  obtain ⟨a, c, rfl, _⟩ := hp.opened
  obtain ⟨up', rfl, hp', _⟩ := hq
  obtain ⟨a', c', rfl, _⟩ := hp'.opened
  obtain ⟨t, r, l⟩ := p
  obtain ⟨t', r', l'⟩ := q
  have S0 := ((Since.refl W).alloc (.cells #[.bool t, .int .i64 r, .slice a l.length c] 45)).alloc (.cells #[.bool t', .int .i64 r', .slice a' l'.length c'] 45)
  have hp0 := hp.stays RKept.stays S0.below
  have hp0' := hp'.stays RKept.stays S0.below
  clear hp hp'
  by_cases ht : t = t'
  · subst ht
    by_cases hr : r = r'
    · subst hr
      have HV := Lib.hid (show prEq (t, r, l) (t, r, l') = eqBy kpEq l l' by simp [prEq])
      have htt : (t == t) = true := by simp
      go_enter Tryz.func46, Tryz.ntmps46
      go_wp2_with fail
      refine (EqualKepts_any 86 (fun _ _ => rfl) SameKeptR_any _ _ l l' _ hp0 hp0').mono ?_
      rintro e w1 ⟨rfl, hb1⟩
      go_wp2_with fail
      go_ret
      exact ⟨ret_bool HV.out.symm, (S0.step hb1).below⟩
    · have HV := Lib.hid (show prEq (t, r, l) (t, r', l') = false by simp [prEq, hr])
      have htt : (t == t) = true := by simp
      have h2 : (r == r') = false := by simpa using hr
      clear hr
      go_enter Tryz.func46, Tryz.ntmps46
      go_wp2_with fail
      go_ret
      exact ⟨ret_bool HV.out.symm, S0.below⟩
  · have HV := Lib.hid (show prEq (t, r, l) (t', r', l') = false by simp [prEq, ht])
    have h2 : (t == t') = false := by simpa using ht
    clear ht
    go_enter Tryz.func46, Tryz.ntmps46
    go_wp2_with fail
    go_ret
    exact ⟨ret_bool HV.out.symm, S0.below⟩

end Go.Proofs.YtjakdgchfimhkaaGreat

namespace Go.Proofs.YtjakdgchfimhkaaGreat
open Go.RowKit

set_option maxRecDepth 100000 in
set_option maxHeartbeats 2000000 in
theorem EqualPeers_any (F : Nat) (eF : ∀ args w, (callFunc F args).run Tryz.prog w = .ok (.enter F args) w)
    (hF : ∀ u u' x y w, IsPeer w u x → IsPeer w u' y → Calls Tryz.prog F (#[u, u']) w fun e w' => e = .returned (.bool (prEq x y)) ∧ Below w.heap.size w w')
    (v u : Value) (l r : List Pr) (W : World) (hv : IsPeers W v l) (hu : IsPeers W u r) :
    Calls Tryz.prog 43 #[v, u, .func (.func F) #[] #[]] W fun e w' => e = .returned (.bool (eqBy prEq l r)) ∧ Below W.heap.size W w' := by
  obtain ⟨a, c, rfl, hcap, ⟨hm, hcm, _⟩, _⟩ := hv.opened
  obtain ⟨a', c', rfl, hcap', ⟨hm', hcm', _⟩, _⟩ := hu.opened
  have HF := Lib.hid hF
  clear hF
  by_cases hl : l.length = r.length
  · have hl2 : (((l.length : Nat) : Int) != ((r.length : Nat) : Int)) = false := by simp [hl]
    have HL := Lib.hid hl
    clear hl
    go_enter Tryz.func43, Tryz.ntmps43
    go_wp2_with fail
    go_loopw [17] (fun i wr => ∃ k : Nat, k ≤ l.length ∧ i = .int .i64 k ∧ Since W.heap.size W wr ∧ eqBy prEq (l.drop k) (r.drop k) = eqBy prEq l r) (fun i _ => l.length - (intOf i).toNat)
    case atStart => exact ⟨0, by omega, rfl, Since.refl W, rfl⟩
    case round =>
      obtain ⟨k, hk, rfl, hS, hq⟩ := hrel
      have HQ := Lib.hid hq
      clear hq
      by_cases hlt : k < l.length
      · have hlr : k < r.length := by have := HL.out; omega
        obtain ⟨g, off, u, cu, rfl, k0, k1, k2, hp, hi⟩ := peer_at (hv.later RPeer.stays (Dirty.old hS.below _)) (List.getElem?_eq_getElem hlt)
        obtain ⟨g', off', u', cu', rfl, k0', k1', k2', hp', hi'⟩ := peer_at (hu.later RPeer.stays (Dirty.old hS.below _)) (List.getElem?_eq_getElem hlr)
        have HD := Lib.hid (List.drop_eq_getElem_cons hlt)
        have HE := Lib.hid (List.drop_eq_getElem_cons hlr)
        generalize l[k] = x at *
        generalize r[k] = y at *
        have q0 := cell_lt k0'
        have S1 := hS.alloc (.cells #[.bool x.1, .int .i64 x.2.1, .slice u x.2.2.length cu] 45)
        have S2 := S1.alloc (.cells #[.bool y.1, .int .i64 y.2.1, .slice u' y.2.2.length cu'] 45)
        have U2 := ((Since.refl wr).alloc (.cells #[.bool x.1, .int .i64 x.2.1, .slice u x.2.2.length cu] 45)).alloc (.cells #[.bool y.1, .int .i64 y.2.1, .slice u' y.2.2.length cu'] 45)
        have hx2 : IsPeer _ (.agg #[.bool x.1, .int .i64 x.2.1, .slice u x.2.2.length cu]) x := ⟨_, rfl, hp.stays RKept.stays U2.below, hi⟩
        have hy2 : IsPeer _ (.agg #[.bool y.1, .int .i64 y.2.1, .slice u' y.2.2.length cu']) y := ⟨_, rfl, hp'.stays RKept.stays U2.below, hi'⟩
        have HX := Lib.hid hx2
        have HY := Lib.hid hy2
        obtain ⟨T, hT⟩ : ∃ T, T = prEq x y := ⟨_, rfl⟩
        have HT := Lib.hid hT
        clear hT hx2 hy2 hp hp' hi hi' U2
        cases T with
        | true =>
          go_wp2_with (go_at_fn F; refine (HF.out _ _ x y _ HX.out HY.out).mono ?_; rintro e w5 ⟨rfl, hb5⟩; rw [← HT.out])
          have S5 := S2.step hb5
          clear k0 k1 k2 k0' k1' k2'
          go_roundw
          case rel =>
            refine ⟨k + 1, by omega, by go_num, S5, ?_⟩
            rw [← HQ.out, HD.out, HE.out]
            simp [eqBy, ← HT.out]
          case measure => simp [intOf]; omega
        | false =>
          go_wp2_with (go_at_fn F; refine (HF.out _ _ x y _ HX.out HY.out).mono ?_; rintro e w5 ⟨rfl, hb5⟩; rw [← HT.out])
          have S5 := S2.step hb5
          go_ret
          refine ⟨ret_bool ?_, S5.below⟩
          rw [← HQ.out, HD.out, HE.out]
          simp [eqBy, ← HT.out]
      · obtain rfl : l.length = k := by omega
        go_wp2_with fail
        go_ret
        refine ⟨ret_bool ?_, hS.below⟩
        have hLL := HL.out
        rw [← HQ.out, List.drop_eq_nil_of_le (show l.length ≤ l.length by omega), List.drop_eq_nil_of_le (show r.length ≤ l.length by omega)]
        rfl
  · have hl2 : (((l.length : Nat) : Int) != ((r.length : Nat) : Int)) = true := by rw [bne_iff_ne]; omega
    have HN := Lib.hid (eqBy_len prEq hl)
    clear hl
    go_enter Tryz.func43, Tryz.ntmps43
    go_wp2_with fail
    go_ret
    exact ⟨ret_bool HN.out.symm, Below.refl _ _⟩

theorem verEq_iff (x y : Ver) : verEq x y = true ↔ x = y := by
  obtain ⟨x0, x1, x2, x3⟩ := x
  obtain ⟨y0, y1, y2, y3⟩ := y
  simp [verEq, eqInts]
/-- Are two meshes alike? -/
def meEq (m o : Me) : Bool := eqBy verEq m.1 o.1 && eqBy prEq m.2 o.2
theorem meEq_iff (m o : Me) : meEq m o = true ↔ m = o := by
  obtain ⟨b, p⟩ := m
  obtain ⟨c, q⟩ := o
  simp [meEq, eqBy_iff verEq_iff, eqBy_iff prEq_iff]
theorem meEq_self (m : Me) : meEq m m = true := (meEq_iff m m).2 rfl
set_option maxRecDepth 100000 in
set_option maxHeartbeats 2000000 in
theorem Same_mesh (v1 v2 u1 u2 : Value) (m o : Me) (W : World) (h1 : IsVers W v1 m.1) (h2 : IsPeers W v2 m.2) (g1 : IsVers W u1 o.1) (g2 : IsPeers W u2 o.2) :
    Calls Tryz.prog 15 #[.agg #[v1, v2], .agg #[u1, u2]] W fun e w' => e = .returned (.bool (meEq m o)) ∧ Below W.heap.size W w' := by
  obtain ⟨b, p⟩ := m
  obtain ⟨c, q⟩ := o
  simp only at h1 h2 g1 g2
  obtain ⟨a, n, rfl, _⟩ := h1.opened
  obtain ⟨a1, n1, rfl, _⟩ := h2.opened
  obtain ⟨a2, n2, rfl, _⟩ := g1.opened
  obtain ⟨a3, n3, rfl, _⟩ := g2.opened
  have S0 := ((Since.refl W).alloc (.cells #[.slice a b.length n, .slice a1 p.length n1] 27)).alloc (.cells #[.slice a2 c.length n2, .slice a3 q.length n3] 27)
  obtain ⟨w0, hw0⟩ : ∃ w0, w0 = (W.alloc (.cells #[.slice a b.length n, .slice a1 p.length n1] 27)).alloc (.cells #[.slice a2 c.length n2, .slice a3 q.length n3] 27) := ⟨_, rfl⟩
  have c0 : w0.cell? ⟨W.heap.size, 0, none⟩ = some (.slice a b.length n) := by rw [hw0]; go_simp
  have c1 : w0.cell? ⟨W.heap.size, 1, none⟩ = some (.slice a1 p.length n1) := by rw [hw0]; go_simp
  have d0 : w0.cell? ⟨W.heap.size + 1, 0, none⟩ = some (.slice a2 c.length n2) := by rw [hw0]; go_simp
  have d1 : w0.cell? ⟨W.heap.size + 1, 1, none⟩ = some (.slice a3 q.length n3) := by rw [hw0]; go_simp
  rw [← hw0] at S0
  have HW := Lib.hid hw0
  clear hw0
  have h1 := h1.later RVer.stays (Dirty.old S0.below _)
  have h2 := h2.later RPeer.stays (Dirty.old S0.below _)
  have g1 := g1.later RVer.stays (Dirty.old S0.below _)
  have g2 := g2.later RPeer.stays (Dirty.old S0.below _)
  obtain ⟨T, hT⟩ : ∃ T, T = eqBy verEq b c := ⟨_, rfl⟩
  have HV := Lib.hid (show meEq (b, p) (c, q) = (T && eqBy prEq p q) by rw [hT]; rfl)
  have HT := Lib.hid hT
  clear hT
  cases T with
  | true =>
    go_enter Tryz.func15, Tryz.ntmps15
    go_upto_region 1 with fail
    rw [← HW.out]
    go_wp2_with (first
      | (go_at_call 42; refine (Same_book _ _ b c w0 h1 g1).mono ?_; rintro e w1 ⟨rfl, hb1⟩; rw [← HT.out]; have e0 := below_cell hb1 c1; have e1 := below_cell hb1 d1; have k2 := h2.later RPeer.stays (Dirty.old hb1 _); have k3 := g2.later RPeer.stays (Dirty.old hb1 _))
      | (go_at_call 43; refine (EqualPeers_any 44 (fun _ _ => rfl) SamePr_any _ _ p q w1 k2 k3).mono ?_; rintro e w2 ⟨rfl, hb2⟩))
    go_ret
    exact ⟨ret_bool (by rw [HV.out]; rfl), ((S0.step hb1).step hb2).below⟩
  | false =>
    go_enter Tryz.func15, Tryz.ntmps15
    go_upto_region 1 with fail
    rw [← HW.out]
    go_wp2_with (first
      | (go_at_call 42; refine (Same_book _ _ b c w0 h1 g1).mono ?_; rintro e w1 ⟨rfl, hb1⟩; rw [← HT.out]))
    go_ret
    exact ⟨ret_bool (by rw [HV.out]; rfl), (S0.step hb1).below⟩
end Go.Proofs.YtjakdgchfimhkaaGreat
