/-
  A script without bends, in plain Lean: what Saved and Run come to.
-/
import Derived.Test.YtnidbghgadnjeaaGreatTaleLaw
namespace Go.Proofs.YtnidbghgadnjeaaGreat

/-- What straight makes of a script. -/
def strL (l : List Hp) : List Hp := (l.filter fun z => !decide (z.1 = 5)).take 60
theorem strL_ok (l : List Hp) : (∀ x ∈ strL l, x.1 ≠ 5) ∧ (strL l).length ≤ 60 := by
  unfold strL
  refine ⟨fun x hx => ?_, by rw [List.length_take]; omega⟩
  have := (List.mem_filter.1 (List.mem_of_mem_take hx)).2
  simpa using this
theorem savedE_new {room : List Int} {l : List Hp} (h : savedE room l = 0) : newE room = 0 := by
  unfold savedE at h
  by_cases h0 : newE room = 0
  · exact h0
  · rw [if_pos h0] at h
    exact absurd h h0
theorem tale_good {room : List Int} {l : List Hp} (h : savedE room l = 0) (h5 : ∀ x ∈ l, x.1 ≠ 5) (hl : l.length ≤ 100) : newE room = 0 ∧ runE (newC room) l = 0 ∧ Good (runM (newC room) l) (savedC room l) := by
  have h0 := savedE_new h
  have hg := Good.fresh h0
  have hm : meshV (newC room) = 0 := hg.mesh
  have hr : runE (newC room) l = 0 := by
    unfold runE
    rw [if_neg (by simpa using hm), if_neg (by omega)]
  refine ⟨h0, hr, ?_⟩
  have hc : savedC room l = (tellL l (newC room, [])).2 := by unfold savedC; rw [if_pos h]
  have hM : runM (newC room) l = (tellL l (newC room, [])).1 := by
    unfold runM
    rw [if_pos hr]
    exact (tell_run rfl).symm
  rw [hc, hM]
  exact Good.tell h5 hg
end Go.Proofs.YtnidbghgadnjeaaGreat
