/-
  What is to spare, in plain Lean: who loses all, or goes, takes one to spare at most.
-/
import Derived.Test.YtnidbghgadnjeaaGreatDoMath
import Derived.Test.YtnidbghgadnjeaaGreatLaws
namespace Go.Proofs.YtnidbghgadnjeaaGreat

theorem once_mem (l : List Int) (z : Int) : z ∈ onceL l ↔ z ∈ l := by
  have h := (once_fold l [] List.nodup_nil).2 z
  simpa [onceL] using h
theorem once_nodup (l : List Int) : (onceL l).Nodup := (once_fold l [] List.nodup_nil).1
theorem numsS_set {v : Int} {ps : List Pr} {k : Nat} {p q : Pr} (h : ps[k]? = some p) (hq : pickS v q = none) :
    (∀ z ∈ numsS v (ps.set k q), z ∈ numsS v ps) ∧ ∀ z ∈ numsS v ps, z ∈ numsS v (ps.set k q) ∨ ∃ s, pickS v p = some s ∧ z = s.1 := by
  constructor
  · intro z hz
    obtain ⟨r, hr, s, hs, rfl⟩ := mem_numsS.1 hz
    rcases List.mem_or_eq_of_mem_set hr with hr | rfl
    · exact mem_numsS.2 ⟨r, hr, s, hs, rfl⟩
    · rw [hq] at hs; cases hs
  · intro z hz
    obtain ⟨r, hr, s, hs, rfl⟩ := mem_numsS.1 hz
    obtain ⟨j, hj⟩ := List.getElem?_of_mem hr
    by_cases hjk : k = j
    · subst hjk
      rw [h] at hj
      cases hj
      exact Or.inr ⟨s, hs, rfl⟩
    · exact Or.inl (mem_numsS.2 ⟨r, List.mem_of_getElem? (i := j) (by rw [List.getElem?_set, if_neg hjk]; exact hj), s, hs, rfl⟩)
theorem once_set {v : Int} {ps : List Pr} {k : Nat} {p q : Pr} (h : ps[k]? = some p) (hq : pickS v q = none) :
    (onceL (numsS v (ps.set k q))).length ≤ (onceL (numsS v ps)).length ∧ (onceL (numsS v ps)).length ≤ (onceL (numsS v (ps.set k q))).length + 1 ∧ (pickS v p = none → (onceL (numsS v (ps.set k q))).length = (onceL (numsS v ps)).length) := by
  obtain ⟨h1, h2⟩ := numsS_set h hq
  have a1 : (onceL (numsS v (ps.set k q))).length ≤ (onceL (numsS v ps)).length := len_le_of (once_nodup _) (once_nodup _) (fun z hz => (once_mem _ _).2 (h1 z ((once_mem _ _).1 hz)))
  cases hp : pickS v p with
  | none =>
    have a2 : (onceL (numsS v ps)).length ≤ (onceL (numsS v (ps.set k q))).length := len_le_of (once_nodup _) (once_nodup _) (fun z hz => by
      rcases h2 z ((once_mem _ _).1 hz) with h3 | ⟨s, h3, _⟩
      · exact (once_mem _ _).2 h3
      · rw [hp] at h3; cases h3)
    exact ⟨a1, by omega, fun _ => by omega⟩
  | some s =>
    refine ⟨a1, ?_, fun h => by cases h⟩
    by_cases hin : s.1 ∈ onceL (numsS v (ps.set k q))
    · have := len_le_of (once_nodup (numsS v ps)) (once_nodup (numsS v (ps.set k q))) (fun z hz => by
        rcases h2 z ((once_mem _ _).1 hz) with h3 | ⟨t, h3, rfl⟩
        · exact (once_mem _ _).2 h3
        · rw [hp] at h3; cases h3; exact hin)
      omega
    · have := len_le_of (once_nodup (numsS v ps)) (List.nodup_cons.2 ⟨hin, once_nodup (numsS v (ps.set k q))⟩) (fun z hz => by
        rcases h2 z ((once_mem _ _).1 hz) with h3 | ⟨t, h3, rfl⟩
        · exact List.mem_cons_of_mem _ ((once_mem _ _).2 h3)
        · rw [hp] at h3; cases h3; exact List.mem_cons_self ..)
      simpa using this
/-- One is put anew, of whom nothing of the version is there. -/
theorem spare_set {b : List Ver} {ps : List Pr} {v : Int} (h : readyE (b, ps) v = 0) {k : Nat} {p q : Pr} (hp : ps[k]? = some p) (hq : pickS v q = none) (hok : PeerOk b q) :
    readyE (b, ps.set k q) v = 0 ∧ spareV (b, ps.set k q) v ≤ spareV (b, ps) v ∧ spareV (b, ps) v ≤ spareV (b, ps.set k q) v + 1 ∧ (pickS v p = none → spareV (b, ps.set k q) v = spareV (b, ps) v) := by
  obtain ⟨hm, h0, h1⟩ := readyE_ok h
  have hm2 : meshV (b, ps.set k q) = 0 := by
    obtain ⟨a1, a2, a3⟩ := placeV_ok.1 hm
    refine placeV_ok.2 ⟨a1, by simpa using a2, fun x hx => ?_⟩
    rcases List.mem_or_eq_of_mem_set hx with hx | rfl
    · exact a3 x hx
    · exact hok
  have hr : readyE (b, ps.set k q) v = 0 := by
    unfold readyE at h ⊢
    rw [hm] at h
    rw [hm2]
    exact h
  obtain ⟨c1, c2, c3⟩ := once_set hp hq
  unfold spareV
  rw [if_neg (by simpa using hr), if_neg (by simpa using h)]
  simp only
  exact ⟨hr, by omega, by omega, fun h => by rw [c3 h]⟩
end Go.Proofs.YtnidbghgadnjeaaGreat
