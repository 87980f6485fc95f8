/-
  A script in two runs, in plain Lean.
-/
import Derived.Test.YtnidbghgadnjeaaGreatRunMath
import Derived.Test.YtnidbghgadnjeaaGreatKeepLaw
namespace Go.Proofs.YtnidbghgadnjeaaGreat

theorem run_mesh {l : List Hp} : ∀ {st : Me × List Int}, meshV st.1 = 0 → meshV (runL l st).1 = 0 := by
  induction l with
  | nil => intro st h; exact h
  | cons x l ih =>
    intro st h
    show meshV (runL l (runOne st x)).1 = 0
    refine ih ?_
    unfold runOne
    by_cases hd : doE st.1 x = 0
    · rw [if_pos hd]
      obtain ⟨⟨b, ps⟩, s⟩ := st
      exact (do_keeps hd).mesh
    · rw [if_neg hd]
      exact h
theorem runE_ok {m : Me} {l : List Hp} (h : runE m l = 0) : meshV m = 0 ∧ l.length ≤ 100 := by
  unfold runE at h
  by_cases h0 : meshV m = 0
  · rw [if_neg (by simpa using h0)] at h
    by_cases h1 : 100 < l.length
    · rw [if_pos h1] at h; exact absurd h (by decide)
    · exact ⟨h0, by omega⟩
  · rw [if_pos h0] at h
    exact absurd h h0
theorem runE_zero {m : Me} {l : List Hp} (h : meshV m = 0) (hl : l.length ≤ 100) : runE m l = 0 := by
  unfold runE
  rw [if_neg (by simpa using h), if_neg (by omega)]
/-- A script in two runs does what it does in one. -/
theorem run_parts {m : Me} {l : List Hp} (h : runE m l = 0) (k : Nat) : runE m (l.take k) = 0 ∧ runE (runM m (l.take k)) (l.drop k) = 0 ∧ runM (runM m (l.take k)) (l.drop k) = runM m l ∧ runS m (l.take k) ++ runS (runM m (l.take k)) (l.drop k) = runS m l := by
  obtain ⟨h0, h1⟩ := runE_ok h
  have e1 : runE m (l.take k) = 0 := runE_zero h0 (by rw [List.length_take]; omega)
  have m1 : runM m (l.take k) = (runL (l.take k) (m, [])).1 := by unfold runM; rw [if_pos e1]
  have s1 : runS m (l.take k) = (runL (l.take k) (m, [])).2 := by unfold runS; rw [if_pos e1]
  have h2 : meshV (runM m (l.take k)) = 0 := by rw [m1]; exact run_mesh h0
  have e2 : runE (runM m (l.take k)) (l.drop k) = 0 := runE_zero h2 (by rw [List.length_drop]; omega)
  have m2 : runM (runM m (l.take k)) (l.drop k) = (runL (l.drop k) (runM m (l.take k), [])).1 := by unfold runM; rw [if_pos e1, if_pos (by rw [← m1]; exact e2)]
  have s2 : runS (runM m (l.take k)) (l.drop k) = (runL (l.drop k) (runM m (l.take k), [])).2 := by unfold runS; rw [if_pos e2]
  have m3 : runM m l = (runL l (m, [])).1 := by unfold runM; rw [if_pos h]
  have s3 : runS m l = (runL l (m, [])).2 := by unfold runS; rw [if_pos h]
  have ha : runL l (m, []) = runL (l.drop k) (runL (l.take k) (m, [])) := by rw [← runL_append, List.take_append_drop]
  rw [runL_said (l.drop k) (runL (l.take k) (m, [])), ← m1, ← s1] at ha
  exact ⟨e1, e2, by rw [m2, m3, ha], by rw [s2, s3, ha]⟩
end Go.Proofs.YtnidbghgadnjeaaGreat
