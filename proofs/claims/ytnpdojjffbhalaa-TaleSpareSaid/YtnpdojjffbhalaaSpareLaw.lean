/-
  What is to spare, in plain Lean: who loses all, or goes, takes one to spare at most.
-/
import Derived.Test.YtnpdojjffbhalaaDoMath
import Derived.Test.YtnpdojjffbhalaaLaws
namespace Go.Proofs.Ytnpdojjffbhalaa

theorem once_mem (l : List Int) (z : Int) : z ∈ onceL l ↔ z ∈ l := by
  have h := (once_fold l [] List.nodup_nil).2 z
  simpa [onceL] using h
theorem once_nodup (l : List Int) : (onceL l).Nodup := (once_fold l [] List.nodup_nil).1
theorem numsS_set {v : Int} {ps : List Pr} {k : Nat} {p q : Pr} (h : ps[k]? = some p) (hq : pickS v q = none) :
    (∀ z ∈ numsS v (ps.set k q), z ∈ numsS v ps) ∧ ∀ z ∈ numsS v ps, z ∈ numsS v (ps.set k q) ∨ ∃ s, pickS v p = some s ∧ z = s.1 := by
  constructor
  · intro z hz
    obtain ⟨r, hr, s, hs, rfl⟩ := mem_numsS.1 hz
    rcases List.mem_or_eq_of_mem_set hr with hr | rfl
    · exact mem_numsS.2 ⟨r, hr, s, hs, rfl⟩
    · rw [hq] at hs; cases hs
  · intro z hz
    obtain ⟨r, hr, s, hs, rfl⟩ := mem_numsS.1 hz
    obtain ⟨j, hj⟩ := List.getElem?_of_mem hr
    by_cases hjk : k = j
    · subst hjk
      rw [h] at hj
      cases hj
      exact Or.inr ⟨s, hs, rfl⟩
    · exact Or.inl (mem_numsS.2 ⟨r, List.mem_of_getElem? (i := j) (by rw [List.getElem?_set, if_neg hjk]; exact hj), s, hs, rfl⟩)
theorem once_set {v : Int} {ps : List Pr} {k : Nat} {p q : Pr} (h : ps[k]? = some p) (hq : pickS v q = none) :
    (onceL (numsS v (ps.set k q))).length ≤ (onceL (numsS v ps)).length ∧ (onceL (numsS v ps)).length ≤ (onceL (numsS v (ps.set k q))).length + 1 ∧ (pickS v p = none → (onceL (numsS v (ps.set k q))).length = (onceL (numsS v ps)).length) := by
  obtain ⟨h1, h2⟩ := numsS_set h hq
  have a1 : (onceL (numsS v (ps.set k q))).length ≤ (onceL (numsS v ps)).length := len_le_of (once_nodup _) (once_nodup _) (fun z hz => (once_mem _ _).2 (h1 z ((once_mem _ _).1 hz)))
  cases hp : pickS v p with
  | none =>
    have a2 : (onceL (numsS v ps)).length ≤ (onceL (numsS v (ps.set k q))).length := len_le_of (once_nodup _) (once_nodup _) (fun z hz => by
      rcases h2 z ((once_mem _ _).1 hz) with h3 | ⟨s, h3, _⟩
      · exact (once_mem _ _).2 h3
      · rw [hp] at h3; cases h3)
    exact ⟨a1, by omega, fun _ => by omega⟩
  | some s =>
    refine ⟨a1, ?_, fun h => by cases h⟩
    by_cases hin : s.1 ∈ onceL (numsS v (ps.set k q))
    · have := len_le_of (once_nodup (numsS v ps)) (once_nodup (numsS v (ps.set k q))) (fun z hz => by
        rcases h2 z ((once_mem _ _).1 hz) with h3 | ⟨t, h3, rfl⟩
        · exact (once_mem _ _).2 h3
        · rw [hp] at h3; cases h3; exact hin)
      omega
    · have := len_le_of (once_nodup (numsS v ps)) (List.nodup_cons.2 ⟨hin, once_nodup (numsS v (ps.set k q))⟩) (fun z hz => by
        rcases h2 z ((once_mem _ _).1 hz) with h3 | ⟨t, h3, rfl⟩
        · exact List.mem_cons_of_mem _ ((once_mem _ _).2 h3)
        · rw [hp] at h3; cases h3; exact List.mem_cons_self ..)
      simpa using this
/-- Too few, or enough. -/
theorem spare_rest {b : List Ver} {ps : List Pr} {v : Int} (h : readyE (b, ps) v = 0) : (spareV (b, ps) v < 0 ∧ restE (b, ps) v = 7) ∨ (0 ≤ spareV (b, ps) v ∧ (restE (b, ps) v = 0 ∨ restE (b, ps) v = 9)) := by
  obtain ⟨hm, h0, h1⟩ := readyE_ok h
  obtain ⟨k, rfl⟩ := Int.eq_ofNat_of_zero_le h0
  have hk : k < b.length := by simpa using h1
  have hx : b[k]? = some b[k] := List.getElem?_eq_getElem hk
  have hpl : planAt b (k : Int) = b[k].2 := planAt_get hx
  have hs := spareV_eq h
  simp only [hpl] at hs
  by_cases hl : ((sharesM (k : Int) ps).length : Int) < b[k].2.1
  · exact Or.inl ⟨by omega, rest_short hm hx hl⟩
  · refine Or.inr ⟨by omega, ?_⟩
    obtain ⟨h2, _, _, h4⟩ := sharesM_checks hm hx
    rw [if_neg hl] at h4
    rw [(restE_get hm hx).1]
    obtain ⟨n, o, s, a1, a2, a3⟩ := plan_nat h2
    rw [a1, a2, a3] at h4 ⊢
    rw [mostE_nat h4]
    split
    · exact Or.inr rfl
    · exact Or.inl rfl
theorem spare_none {b : List Ver} {v : Int} (h : readyE (b, []) v = 0) : spareV (b, []) v < 0 := by
  obtain ⟨hm, h0, h1⟩ := readyE_ok h
  obtain ⟨k, rfl⟩ := Int.eq_ofNat_of_zero_le h0
  have hk : k < b.length := by simpa using h1
  have hx : b[k]? = some b[k] := List.getElem?_eq_getElem hk
  have hpl : planAt b (k : Int) = b[k].2 := planAt_get hx
  have hs := spareV_eq h
  simp only [hpl] at hs
  obtain ⟨h2, _, _, _⟩ := sharesM_checks hm hx
  have := (planV_bd h2).1
  have e : (sharesM (k : Int) []).length = 0 := rfl
  omega
/-- One is put anew, of whom nothing of the version is there. -/
theorem spare_set {b : List Ver} {ps : List Pr} {v : Int} (h : readyE (b, ps) v = 0) {k : Nat} {p q : Pr} (hp : ps[k]? = some p) (hq : pickS v q = none) (hok : PeerOk b q) :
    readyE (b, ps.set k q) v = 0 ∧ spareV (b, ps.set k q) v ≤ spareV (b, ps) v ∧ spareV (b, ps) v ≤ spareV (b, ps.set k q) v + 1 ∧ (pickS v p = none → spareV (b, ps.set k q) v = spareV (b, ps) v) := by
  obtain ⟨hm, h0, h1⟩ := readyE_ok h
  have hm2 : meshV (b, ps.set k q) = 0 := by
    obtain ⟨a1, a2, a3⟩ := placeV_ok.1 hm
    refine placeV_ok.2 ⟨a1, by simpa using a2, fun x hx => ?_⟩
    rcases List.mem_or_eq_of_mem_set hx with hx | rfl
    · exact a3 x hx
    · exact hok
  have hr : readyE (b, ps.set k q) v = 0 := by
    unfold readyE at h ⊢
    rw [hm] at h
    rw [hm2]
    exact h
  obtain ⟨c1, c2, c3⟩ := once_set hp hq
  unfold spareV
  rw [if_neg (by simpa using hr), if_neg (by simpa using h)]
  simp only
  exact ⟨hr, by omega, by omega, fun h => by rw [c3 h]⟩
/-- Two ways to take one away are one. -/
theorem spare_same {b : List Ver} {ps : List Pr} {v : Int} {k : Nat} {q r : Pr} (hq : pickS v q = none) (hr : pickS v r = none) (h1 : readyE (b, ps.set k q) v = 0) (h2 : readyE (b, ps.set k r) v = 0) : spareV (b, ps.set k q) v = spareV (b, ps.set k r) v := by
  have e : numsS v (ps.set k q) = numsS v (ps.set k r) := numsS_congr (by
    apply List.ext_getElem?
    intro j
    rw [List.getElem?_map, List.getElem?_map, List.getElem?_set, List.getElem?_set]
    by_cases hj : k = j
    · rw [if_pos hj, if_pos hj]
      by_cases hl : k < ps.length
      · rw [if_pos hl, if_pos hl, Option.map_some, Option.map_some, hq, hr]
      · rw [if_neg hl, if_neg hl]
    · rw [if_neg hj, if_neg hj])
  unfold spareV
  rw [if_neg (by simpa using h1), if_neg (by simpa using h2)]
  simp only [e]
end Go.Proofs.Ytnpdojjffbhalaa
