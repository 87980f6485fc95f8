/-
  Where nobody bends anything, in plain Lean: what is kept is what was saved.
-/
import Derived.Test.YtnidbghgadnjeaaGreatRunMath
import Derived.Test.YtnidbghgadnjeaaGreatKeepLaw
import Derived.Test.YtnidbghgadnjeaaGreatSpareLaw
import Derived.Test.YtnidbghgadnjeaaGreatWovens
namespace Go.Proofs.YtnidbghgadnjeaaGreat

/-- What is kept is what was saved. -/
structure Good (m : Me) (saved : List (List Int)) : Prop where
  mesh : placeV m.1 m.2 = 0
  len : saved.length = m.1.length
  each : ∀ (k : Nat) x D, m.1[k]? = some x → saved[k]? = some D → splitE x.2.1 x.2.2.1 x.2.2.2 D = 0
  kept : ∀ p ∈ m.2, ∀ (k : Nat) y, keptAt (k : Int) p.2.2 = some y → ∀ pr (n o s : Nat) D, m.1[k]? = some (pr, (n : Int), (o : Int), (s : Int)) → saved[k]? = some D → ∃ j, j < o ∧ y.2 = shareL n D (rowsN n s) j
theorem good_plan {m : Me} {saved : List (List Int)} (h : Good m saved) {k : Nat} {D : List Int} (hD : saved[k]? = some D) :
    ∃ pr n o s, m.1[k]? = some (pr, ((n : Nat) : Int), ((o : Nat) : Int), ((s : Nat) : Int)) ∧ splitE n o s D = 0 ∧ (n : Int) ≤ o := by
  have hk := (List.getElem?_eq_some_iff.1 hD).1
  have hkl : k < m.1.length := by have := h.len; omega
  have hx : m.1[k]? = some m.1[k] := List.getElem?_eq_getElem hkl
  have hs := h.each k _ D hx hD
  obtain ⟨h1, _, _⟩ := splitE_zero hs
  obtain ⟨n, o, s, e1, e2, e3⟩ := plan_nat h1
  have hb := planV_bd h1
  rw [e1, e2, e3] at hs hb
  refine ⟨m.1[k].1, n, o, s, ?_, hs, by omega⟩
  rw [hx, ← e1, ← e2, ← e3]
theorem Good.of {m : Me} {saved : List (List Int)} (h : Good m saved) {k n o s : Nat} {pr D : List Int} (hx : m.1[k]? = some (pr, (n : Int), (o : Int), (s : Int))) (hD : saved[k]? = some D) : ∀ t ∈ sharesM (k : Int) m.2, ∃ j, j < o ∧ t = shareL n D (rowsN n s) j := fun t ht => by
  obtain ⟨p, hp, hs⟩ := sharesM_mem ht
  obtain ⟨_, x, _, _, e, hk⟩ := pickS_some hs
  obtain ⟨j, hj, e2⟩ := h.kept p hp k x hk pr n o s D hx hD
  exact ⟨j, hj, by rw [← e, e2]⟩
/-- What is to spare, and what is restored. -/
theorem Good.rest {m : Me} {saved : List (List Int)} (h : Good m saved) {k : Nat} {D : List Int} (hD : saved[k]? = some D) :
    readyE m (k : Int) = 0 ∧ ((spareV m (k : Int) < 0 ∧ restE m (k : Int) = 7) ∨ (0 ≤ spareV m (k : Int) ∧ restE m (k : Int) = 0 ∧ restB m (k : Int) = D ∧ restW m (k : Int) = [])) := by
  obtain ⟨pr, n, o, s, hx, hs, _⟩ := good_plan h hD
  have hk := (List.getElem?_eq_some_iff.1 hx).1
  have hr : readyE m (k : Int) = 0 := by
    unfold readyE
    rw [if_neg (by simpa using (show meshV m = 0 from h.mesh)), if_neg (by omega)]
  have hsp := spareV_eq hr
  rw [show planAt m.1 (k : Int) = _ from planAt_get hx] at hsp
  simp only at hsp
  refine ⟨hr, ?_⟩
  obtain ⟨b, ps⟩ := m
  simp only at hsp
  by_cases hl : n ≤ (sharesM (k : Int) ps).length
  · exact Or.inr ⟨by rw [hsp]; omega, rest_whole h.mesh hx hs (h.of hx hD) hl⟩
  · exact Or.inl ⟨by rw [hsp]; omega, rest_short h.mesh hx (by simp only; omega)⟩
/-- One that keeps no more than it did. -/
theorem Good.less {b : List Ver} {ps qs : List Pr} {saved : List (List Int)} (h : Good (b, ps) saved) (hm : placeV b qs = 0) (hq : ∀ q ∈ qs, ∃ p ∈ ps, ∀ (k : Nat) y, keptAt (k : Int) q.2.2 = some y → keptAt (k : Int) p.2.2 = some y) : Good (b, qs) saved :=
  ⟨hm, h.len, h.each, fun q hqm k y hy pr n o s D hx hD => by
    obtain ⟨p, hp, hpk⟩ := hq q hqm
    exact h.kept p hp k y (hpk k y hy) pr n o s D hx hD⟩
theorem Good.fresh {room : List Int} (h : newE room = 0) : Good (newC room) [] := by
  have e : newC room = ([], newP room) := by unfold newC; rw [if_pos h]
  rw [e]
  refine ⟨h, rfl, fun k x D h1 => by simp at h1, fun p hp k y hy => ?_⟩
  unfold newP at hp
  obtain ⟨r, _, rfl⟩ := List.mem_map.1 hp
  simp [keptAt] at hy
theorem keptAt_drop {v : Int} {k : Nat} {l : List Kp} {y : Kp} (h : keptAt (k : Int) (dropK v l) = some y) : keptAt (k : Int) l = some y := by
  by_cases hk : (k : Int) = v
  · rw [hk, keptAt_dropK] at h
    cases h
  · rw [keptAt_other hk] at h
    exact h
theorem Good.save {m : Me} {saved : List (List Int)} (h : Good m saved) {data pr : List Int} {n o : Nat} {qs : List Pr} {cs : List Int} (hs : SavedTo m data pr n o qs cs) : Good (m.1 ++ [newV data pr n o], qs) (saved ++ [data]) := by
  have hl := h.len
  refine ⟨hs.right, by simp [hl], fun k x D hx hD => ?_, fun q hq k y hy pr' n' o' s' D hx hD => ?_⟩
  · simp only at hx
    by_cases hk : k < m.1.length
    · rw [List.getElem?_append_left hk] at hx
      rw [List.getElem?_append_left (by omega)] at hD
      exact h.each k x D hx hD
    · have hkl := (List.getElem?_eq_some_iff.1 hx).1
      simp only [List.length_append, List.length_cons, List.length_nil] at hkl
      obtain rfl : k = m.1.length := by omega
      rw [hs.ver] at hx
      rw [← hl, List.getElem?_append_right (Nat.le_refl _), Nat.sub_self] at hD
      cases hx
      cases hD
      exact hs.split
  · simp only at hx hq
    obtain ⟨i, hi⟩ := List.getElem?_of_mem hq
    by_cases hk : k < m.1.length
    · rw [List.getElem?_append_left hk] at hx
      rw [List.getElem?_append_left (by omega)] at hD
      obtain ⟨p, hp⟩ := hs.put.get hi
      rcases hs.put.each hp hi with e | ⟨j, sh, _, _, hke, _, e⟩
      · rw [e] at hy
        exact h.kept p (List.mem_of_getElem? hp) k y hy pr' n' o' s' D hx hD
      · rw [e, keepQ_other (keep_zero hke).2.1 (by simp only; omega)] at hy
        exact h.kept p (List.mem_of_getElem? hp) k y hy pr' n' o' s' D hx hD
    · have hkl := (List.getElem?_eq_some_iff.1 hx).1
      simp only [List.length_append, List.length_cons, List.length_nil] at hkl
      obtain rfl : k = m.1.length := by omega
      rw [hs.ver] at hx
      rw [← hl, List.getElem?_append_right (Nat.le_refl _), Nat.sub_self] at hD
      simp only [Option.some.injEq, Prod.mk.injEq] at hx
      obtain ⟨_, e1, e2, e3⟩ := hx
      cases hD
      obtain ⟨j, hj, _, e4, _⟩ := hs.kept hi hy
      obtain rfl : n = n' := by omega
      obtain rfl : o = o' := by omega
      obtain rfl : data.length = s' := by omega
      exact ⟨j, hj, by rw [e4]⟩
theorem Good.repair {b : List Ver} {ps : List Pr} {saved : List (List Int)} (h : Good (b, ps) saved) {kk : Nat} (hr : repairE (b, ps) (kk : Int) = 0) : Good (repairC (b, ps) (kk : Int)) saved ∧ (repairC (b, ps) (kk : Int)).1 = b ∧ ∃ (pr : List Int) (n o s : Nat) (D : List Int), b[kk]? = some (pr, (n : Int), (o : Int), (s : Int)) ∧ saved[kk]? = some D ∧ (sharesM (kk : Int) (repairC (b, ps) (kk : Int)).2).length = o := by
  obtain ⟨pr, n, o, s, D, qs, hx, hs, h0, hB, _, e, hm, hw, hme⟩ := repair_zero hr
  have hk := (List.getElem?_eq_some_iff.1 hx).1
  have hkl : kk < saved.length := by have := h.len; simp only at this; omega
  have hD : saved[kk]? = some saved[kk] := List.getElem?_eq_getElem hkl
  have hDD : D = saved[kk] := by
    obtain ⟨_, h1 | ⟨_, _, h2, _⟩⟩ := h.rest hD
    · rw [h0] at h1; exact absurd h1.2 (by decide)
    · rw [← hB]; exact h2
  rw [← hDD] at hD
  rw [e]
  refine ⟨⟨hm, h.len, h.each, fun q hq k y hy pr' n' o' s' D' hx' hD' => ?_⟩, rfl, pr, n, o, s, D, hx, hD, hw.len⟩
  simp only at hx' hq
  obtain ⟨i, hi⟩ := List.getElem?_of_mem hq
  have hil := (List.getElem?_eq_some_iff.1 hi).1
  have hl := hme.len
  have hp : ps[i]? = some ps[i] := List.getElem?_eq_getElem (by omega)
  obtain ⟨e1, _, e3, e4⟩ := hme.each i _ q hp hi
  by_cases hkk : k = kk
  · subst hkk
    rw [hx] at hx'
    rw [hD] at hD'
    cases hD'
    simp only [Option.some.injEq, Prod.mk.injEq] at hx'
    obtain ⟨_, f1, f2, f3⟩ := hx'
    obtain rfl : n = n' := by omega
    obtain rfl : o = o' := by omega
    obtain rfl : s = s' := by omega
    cases ht : ps[i].1 with
    | false =>
      rw [e4 ht] at hy
      exact h.kept _ (List.mem_of_getElem? hp) k y hy pr n o s D hx hD
    | true =>
      exact hw.of q hq y.2 (pickS_there (e1.trans ht) hy)
  · have hne : (k : Int) ≠ (kk : Int) := by omega
    rw [← keptAt_other hne, e3, keptAt_other hne] at hy
    exact h.kept _ (List.mem_of_getElem? hp) k y hy pr' n' o' s' D' hx' hD'
/-- Any happening but a bend. -/
theorem Good.step {m : Me} {saved : List (List Int)} (h : Good m saved) {x : Hp} (hd : doE m x = 0) (h5 : x.1 ≠ 5) : Good (doC m x) (if x.1 = 1 then saved ++ [x.2.2.2.1] else saved) := by
  obtain ⟨b, ps⟩ := m
  have hm : meshV (b, ps) = 0 := h.mesh
  have hk := do_keeps hd
  by_cases k1 : x.1 = 1
  · rw [if_pos k1]
    have e1 : saveE (b, ps) x.2.2.2.1 x.2.2.2.2.1 x.2.2.2.2.2.1 x.2.2.2.2.2.2 = 0 := by
      unfold doE at hd
      simpa [hm, k1] using hd
    have e2 : doC (b, ps) x = saveC (b, ps) x.2.2.2.1 x.2.2.2.2.1 x.2.2.2.2.2.1 x.2.2.2.2.2.2 := by
      unfold doC
      simp [hm, k1]
    obtain ⟨n', o', qs, cs, en, eo, e3, hs⟩ := save_zero e1
    rw [e2, e3, en, eo]
    exact h.save hs
  rw [if_neg k1]
  by_cases k6 : x.1 = 6
  · have e1 : repairE (b, ps) x.2.1 = 0 := by
      unfold doE at hd
      simpa [hm, k6] using hd
    have e2 : doC (b, ps) x = repairC (b, ps) x.2.1 := by
      unfold doC
      simp [hm, k6]
    have h0 : restE (b, ps) x.2.1 = 0 := by
      by_cases h0 : restE (b, ps) x.2.1 = 0
      · exact h0
      · unfold repairE at e1
        rw [if_pos h0] at e1
        exact absurd e1 h0
    obtain ⟨_, hn0, _⟩ := readyE_ok (restE_ready h0)
    obtain ⟨nn, hnn⟩ := Int.eq_ofNat_of_zero_le hn0
    rw [hnn] at e1 e2
    rw [e2]
    exact (h.repair e1).1
  -- what is left keeps no more
  have e0 := hd
  unfold doE at hd
  rw [if_neg (by simpa using hm), if_neg k1, if_neg k6] at hd
  have hpl := hk.mesh
  have hC : ∃ qs, doC (b, ps) x = (b, qs) ∧ ∀ q ∈ qs, ∃ p ∈ ps, ∀ (k : Nat) y, keptAt (k : Int) q.2.2 = some y → keptAt (k : Int) p.2.2 = some y := by
    unfold doC
    rw [if_neg (by simpa using hm), if_neg k1, if_neg k6, if_neg (by simpa using e0)]
    by_cases k7 : x.1 = 7
    · rw [if_pos k7]
      refine ⟨_, rfl, fun q hq => ?_⟩
      obtain ⟨p, hp, rfl⟩ := List.mem_map.1 hq
      refine ⟨p, hp, fun k y hy => ?_⟩
      unfold forgetP at hy
      split at hy
      · exact keptAt_drop hy
      · exact hy
    · rw [if_neg k7, if_neg h5]
      rw [if_neg k7] at hd
      by_cases ko : x.1 < 2 ∨ 5 < x.1
      · rw [if_pos ko] at hd; exact absurd hd (by decide)
      rw [if_neg ko] at hd
      by_cases hn : x.2.1 < 0 ∨ ((b, ps).2.length : Int) ≤ x.2.1
      · rw [if_pos hn] at hd; exact absurd hd (by decide)
      simp only at hn
      obtain ⟨nn, hnn⟩ := Int.eq_ofNat_of_zero_le (show 0 ≤ x.2.1 by omega)
      have hp : ps[nn]? = some ps[nn] := List.getElem?_eq_getElem (show nn < ps.length by omega)
      rw [hnn]
      simp only [setP_get hp]
      split
      · refine ⟨_, rfl, fun q hq => ?_⟩
        rcases List.mem_or_eq_of_mem_set hq with hq | rfl
        · exact ⟨q, hq, fun _ _ => id⟩
        · exact ⟨_, List.mem_of_getElem? hp, fun k y hy => by simp [keptAt] at hy⟩
      · refine ⟨_, rfl, fun q hq => ?_⟩
        rcases List.mem_or_eq_of_mem_set hq with hq | rfl
        · exact ⟨q, hq, fun _ _ => id⟩
        · exact ⟨_, List.mem_of_getElem? hp, fun k y hy => hy⟩
  obtain ⟨qs, e, hq⟩ := hC
  rw [e] at hpl ⊢
  exact h.less hpl hq
/-- Any script without bends. -/
theorem Good.tell {l : List Hp} (h5 : ∀ x ∈ l, x.1 ≠ 5) : ∀ {st : Me × List (List Int)}, Good st.1 st.2 → Good (tellL l st).1 (tellL l st).2 := by
  induction l with
  | nil => intro st h; exact h
  | cons x l ih =>
    intro st h
    show Good (tellL l (tellOne st x)).1 (tellL l (tellOne st x)).2
    refine ih (fun y hy => h5 y (by simp [hy])) ?_
    unfold tellOne
    by_cases hd : doE st.1 x = 0
    · rw [if_neg (by simpa using hd)]
      exact h.step hd (h5 x (by simp))
    · rw [if_pos hd]
      exact h
/-- The mesh is the same, whatever is noted. -/
theorem tell_run {l : List Hp} : ∀ {st : Me × List (List Int)} {ru : Me × List Int}, st.1 = ru.1 → (tellL l st).1 = (runL l ru).1 := by
  induction l with
  | nil => intro st ru h; exact h
  | cons x l ih =>
    intro st ru h
    show (tellL l (tellOne st x)).1 = (runL l (runOne ru x)).1
    refine ih ?_
    unfold tellOne runOne
    rw [h]
    by_cases hd : doE ru.1 x = 0
    · rw [if_neg (by simpa using hd), if_pos hd]
    · rw [if_pos hd, if_neg hd]
      exact h
end Go.Proofs.YtnidbghgadnjeaaGreat
