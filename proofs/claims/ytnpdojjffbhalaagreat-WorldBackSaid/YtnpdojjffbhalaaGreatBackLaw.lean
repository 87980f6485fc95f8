/-
  Who goes and comes again, who is bent as often as there are numbers, in plain Lean.
-/
import Derived.Test.YtnpdojjffbhalaaGreatDoMath
namespace Go.Proofs.YtnpdojjffbhalaaGreat

/-- Bent j times. -/
def bendJ (q j : Nat) (l : List Kp) : List Kp := match l[q]? with
  | none => l
  | some y => l.set q (bendK (j : Int) y)
theorem bendJ_zero {q : Nat} {l : List Kp} {y : Kp} {z : Int} (h : l[q]? = some y) (hz : y.2.2[0]? = some z) (h0 : 0 ≤ z) (h1 : z < 31) : bendJ q 0 l = l := by
  unfold bendJ
  rw [h]
  simp only
  have e : bendK ((0 : Nat) : Int) y = y := by
    unfold bendK bendN
    rw [List.getD_eq_getElem?_getD, hz]
    simp only [Option.getD_some]
    rw [show (z + ((0 : Nat) : Int)) % 31 = z by omega]
    have : y.2.2.set 0 z = y.2.2 := by
      apply List.ext_getElem?
      intro i
      rw [List.getElem?_set]
      split
      · rename_i hi
        subst hi
        rw [hz]
        split
        · rfl
        · rename_i hl
          have := (List.getElem?_eq_some_iff.1 hz).1
          exact absurd this hl
      · rfl
    rw [this]
  rw [e]
  apply List.ext_getElem?
  intro i
  rw [List.getElem?_set]
  split
  · rename_i hi
    subst hi
    rw [h]
    split
    · rfl
    · rename_i hl
      exact absurd (List.getElem?_eq_some_iff.1 h).1 hl
  · rfl
theorem bendJ_step {q j : Nat} {l : List Kp} {y : Kp} {z : Int} (h : l[q]? = some y) (hz : y.2.2[0]? = some z) : bendAt q (bendJ q j l) = bendJ q (j + 1) l := by
  have hl := (List.getElem?_eq_some_iff.1 h).1
  have hzl := (List.getElem?_eq_some_iff.1 hz).1
  unfold bendJ
  rw [h]
  simp only
  have hg : (l.set q (bendK (j : Int) y))[q]? = some (bendK (j : Int) y) := by rw [List.getElem?_set, if_pos rfl, if_pos hl]
  rw [bendAt_get hg, List.set_set]
  congr 1
  unfold bendK bendN
  simp only
  rw [List.set_set]
  congr 3
  rw [List.getD_eq_getElem?_getD, List.getElem?_set, if_pos rfl, if_pos hzl, Option.getD_some, List.getD_eq_getElem?_getD, hz, Option.getD_some]
  have : ((j + 1 : Nat) : Int) = (j : Int) + 1 := by omega
  rw [this]
  omega
/-- As often as there are numbers. -/
theorem bendJ_all {q : Nat} {l : List Kp} {y : Kp} {z : Int} (h : l[q]? = some y) (hz : y.2.2[0]? = some z) (h0 : 0 ≤ z) (h1 : z < 31) : bendJ q 31 l = l := by
  have e : bendJ q 31 l = bendJ q 0 l := by
    unfold bendJ
    rw [h]
    simp only
    congr 1
    unfold bendK bendN
    rw [List.getD_eq_getElem?_getD, hz]
    simp only [Option.getD_some]
    rw [show (z + ((31 : Nat) : Int)) % 31 = (z + ((0 : Nat) : Int)) % 31 by omega]
  rw [e]
  exact bendJ_zero h hz h0 h1
/-- Once more is another one. -/
theorem bendJ_ne {q j : Nat} {l : List Kp} {y : Kp} {z : Int} (h : l[q]? = some y) (hz : y.2.2[0]? = some z) : bendJ q (j + 1) l ≠ bendJ q j l := by
  intro e
  have hl := (List.getElem?_eq_some_iff.1 h).1
  have hzl := (List.getElem?_eq_some_iff.1 hz).1
  unfold bendJ at e
  rw [h] at e
  simp only at e
  have h2 := congrArg (fun l => l[q]?) e
  simp only [List.getElem?_set, if_pos hl, if_true] at h2
  have h3 : bendN ((j + 1 : Nat) : Int) y.2.2 = bendN (j : Int) y.2.2 := by
    have := Option.some.inj h2
    unfold bendK at this
    exact (Prod.mk.inj (Prod.mk.inj this).2).2
  have h4 := congrArg (fun l => l[0]?) h3
  unfold bendN at h4
  simp only [List.getElem?_set, if_pos hzl, if_true] at h4
  rw [List.getD_eq_getElem?_getD, hz, Option.getD_some] at h4
  have := Option.some.inj h4
  omega
/-- Who goes, or comes, is another one; and turned twice the same. -/
theorem turn_ne {ps : List Pr} {k : Nat} {p : Pr} (h : ps[k]? = some p) : ps.set k (!p.1, p.2) ≠ ps := by
  intro e
  have h2 := congrArg (fun l => l[k]?) e
  have hl := (List.getElem?_eq_some_iff.1 h).1
  simp only [List.getElem?_set, if_pos hl, if_true] at h2
  rw [h] at h2
  have := congrArg Prod.fst (Option.some.inj h2)
  simp at this
theorem turn_twice {ps : List Pr} {k : Nat} {p : Pr} (h : ps[k]? = some p) : (ps.set k (!p.1, p.2)).set k (p.1, p.2) = ps := by
  rw [List.set_set]
  apply List.ext_getElem?
  intro i
  rw [List.getElem?_set]
  split
  · rename_i hi
    subst hi
    rw [h]
    split
    · rfl
    · rename_i hl
      exact absurd (List.getElem?_eq_some_iff.1 h).1 hl
  · rfl
end Go.Proofs.YtnpdojjffbhalaaGreat
