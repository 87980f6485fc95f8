/-
  A repair where nobody bends anything, and who may go behind it, in plain Lean.
-/
import Derived.Test.YtnidbghgadnjeaaGreatTaleLaw
import Derived.Test.YtnidbghgadnjeaaGreatBendLaw
namespace Go.Proofs.YtnidbghgadnjeaaGreat

theorem put_err {m : Me} {v : Int} {ss : List Sh} (hm : placeV m.1 m.2 = 0) (h0 : 0 ≤ v) (h1 : v < m.1.length) (hs : ∀ s ∈ ss, oneV (planAt m.1 v).1 (planAt m.1 v).2.1 (planAt m.1 v).2.2 s.1 s.2 = 0) (h8 : ss.length ≤ 8) : putE m v ss = 0 ∨ putE m v ss = 7 := by
  by_cases hc : ss.length ≤ (candL v m.2 m.2.length).length
  · exact Or.inl (put_can hm h0 h1 hs h8 hc)
  · right
    have hf := forE_short (v := v) (many := ss.length) hm (by omega) (by omega)
    unfold putE
    rw [if_pos (by rw [hf]; decide), hf]
theorem Good.mend_err {b : List Ver} {ps : List Pr} {saved : List (List Int)} (h : Good (b, ps) saved) {kk : Nat} {D : List Int} (hD : saved[kk]? = some D) : repairE (b, ps) (kk : Int) = 0 ∨ repairE (b, ps) (kk : Int) = 7 := by
  obtain ⟨_, h1 | ⟨_, h2, h3, _⟩⟩ := h.rest hD
  · right
    unfold repairE
    rw [if_pos (by rw [h1.2]; decide), h1.2]
  · obtain ⟨pr, n, o, s, hx, hs, _⟩ := good_plan h hD
    have hk := (List.getElem?_eq_some_iff.1 hx).1
    have hpa : planAt b (kk : Int) = ((n : Int), (o : Int), (s : Int)) := planAt_get hx
    obtain ⟨hp, hds, _⟩ := splitE_zero hs
    have hds : D.length = s := by omega
    subst hds
    have hb := planV_bd hp
    obtain ⟨a1, _⟩ := repair_put (m := (b, ps)) (v := (kk : Int)) (x := (pr, (n : Int), (o : Int), (D.length : Int))) h2 hpa (by rw [h3]; exact hs) rfl
    rw [a1, h3]
    simp only
    rw [splitL_ok hs]
    refine put_err (m := (b, _)) (rep_place h.mesh) (by omega) (by simp only at hk ⊢; omega) (fun t ht => ?_) ?_
    · simp only
      rw [hpa]
      unfold missL at ht
      obtain ⟨s1, _⟩ := List.mem_filter.1 ht
      obtain ⟨j, hj⟩ := List.getElem?_of_mem s1
      have hjo := (List.getElem?_eq_some_iff.1 hj).1
      rw [sharesL_len] at hjo
      rw [sharesL_get _ _ _ hjo] at hj
      cases hj
      refine oneV_zero hp (by simp [shareL]) (by simp only [shareL]; omega) (shareL_len _ _ _ _) (fun z hz => ?_)
      obtain ⟨i, _, rfl⟩ := List.mem_map.1 hz
      exact partV_bd _ _ _ _
    · unfold missL
      refine Nat.le_trans (List.length_filter_le _ _) ?_
      rw [sharesL_len]
      omega
/-- Behind a repair. -/
theorem Good.mended {b : List Ver} {ps : List Pr} {saved : List (List Int)} (h : Good (b, ps) saved) {kk : Nat} {x : Ver} (hx : b[kk]? = some x) (hr : repairE (b, ps) (kk : Int) = 0) : Good (repairC (b, ps) (kk : Int)) saved ∧ (repairC (b, ps) (kk : Int)).1 = b ∧ readyE (repairC (b, ps) (kk : Int)) (kk : Int) = 0 ∧ spareV (repairC (b, ps) (kk : Int)) (kk : Int) = x.2.2.1 - x.2.1 := by
  obtain ⟨h1, h2, pr, n, o, s, D, hx', hD, hl⟩ := h.repair hr
  rw [hx] at hx'
  cases hx'
  obtain ⟨h3, _⟩ := h1.rest hD
  refine ⟨h1, h2, h3, ?_⟩
  rw [spareV_eq h3, hl, h2, planAt_get hx]
/-- Who goes takes one at most. -/
theorem Good.leave {b : List Ver} {ps : List Pr} {saved : List (List Int)} (h : Good (b, ps) saved) {kk : Nat} {D : List Int} (hD : saved[kk]? = some D) {i : Int} (hd : doE (b, ps) (2, i, 0, [], [], 0, 0) = 0) :
    ∃ qs, doC (b, ps) (2, i, 0, [], [], 0, 0) = (b, qs) ∧ qs.length = ps.length ∧ Good (b, qs) saved ∧ spareV (b, ps) (kk : Int) ≤ spareV (b, qs) (kk : Int) + 1 := by
  have hg := h.step hd (show (2 : Int) ≠ 5 by decide)
  have hm : meshV (b, ps) = 0 := h.mesh
  have e0 := hd
  unfold doE at hd
  rw [if_neg (by simpa using hm)] at hd
  simp only [show ¬ ((2 : Int) = 1) by decide, show ¬ ((2 : Int) = 6) by decide, show ¬ ((2 : Int) = 7) by decide, if_false, show ¬ ((2 : Int) < 2 ∨ (5 : Int) < 2) by decide] at hd
  by_cases hn : i < 0 ∨ (ps.length : Int) ≤ i
  · rw [if_pos hn] at hd; exact absurd hd (by decide)
  obtain ⟨nn, rfl⟩ := Int.eq_ofNat_of_zero_le (show 0 ≤ i by omega)
  have hnl : nn < ps.length := by omega
  have hp : ps[nn]? = some ps[nn] := List.getElem?_eq_getElem hnl
  have hc : doC (b, ps) (2, (nn : Int), 0, [], [], 0, 0) = (b, ps.set nn (false, ps[nn].2)) := by
    unfold doC
    rw [e0]
    simp [hm, setP_get hp]
  rw [hc] at hg ⊢
  simp only [show ¬ ((2 : Int) = 1) by decide, if_false] at hg
  obtain ⟨h1, _⟩ := h.rest hD
  obtain ⟨_, _, h4, _⟩ := spare_set h1 hp (q := (false, ps[nn].2)) (pickS_away rfl) (set_ok ((placeV_ok.1 h.mesh).2.2 _ (List.mem_of_getElem? hp)) false)
  exact ⟨_, rfl, by simp, hg, h4⟩
end Go.Proofs.YtnidbghgadnjeaaGreat
