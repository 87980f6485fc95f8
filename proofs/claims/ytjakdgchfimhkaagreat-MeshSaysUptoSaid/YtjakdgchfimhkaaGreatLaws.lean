/-
  The plain laws of a mesh: what is there of a version; who was given what.
  The plain laws of a save: what was saved is there, each share at another peer; elder versions are as they were.
  What an audit answers, in plain Lean: who is to blame, how many shares lack, how many are to spare.
-/
import Derived.Test.YtjakdgchfimhkaaGreatDeeps
import Derived.Test.YtjakdgchfimhkaaGreatVotes
import Derived.Test.YtjakdgchfimhkaaGreatMends
import Derived.Test.YtjakdgchfimhkaaGreatSaves
import Derived.Test.YtjakdgchfimhkaaGreatTries
namespace Go.Proofs.YtjakdgchfimhkaaGreat

/-! ### What is there -/
theorem sharesM_map (v : Int) (ps : List Pr) : sharesM v ps = (ps.map (pickS v)).foldl addS [] := by
  unfold sharesM
  rw [List.foldl_map]
/-- Where no two have one share, all of them are there. -/
theorem foldS_all (os : List (Option Sh)) : ∀ (l : List Sh), ((l ++ os.filterMap id).map (·.1)).Nodup → os.foldl addS l = l ++ os.filterMap id := by
  induction os with
  | nil => intro l _; simp
  | cons o os ih =>
    intro l h
    cases o with
    | none =>
      have := ih l (by simpa using h)
      simpa [addS] using this
    | some s =>
      have hn : l.any (fun t => decide (t.1 = s.1)) = false := by
        rw [List.any_eq_false]
        intro t ht he
        simp only [decide_eq_true_eq] at he
        simp only [List.filterMap_cons, id, List.map_append, List.map_cons, List.nodup_append] at h
        exact h.2.2 t.1 (List.mem_map.2 ⟨t, ht, rfl⟩) s.1 (by simp) he
      have ha : addS l (some s) = l ++ [s] := by unfold addS; simp [hn]
      rw [List.foldl_cons, ha, ih _ (by simpa using h)]
      simp
theorem sharesM_all {v : Int} {ps : List Pr} (h : ((ps.filterMap (pickS v)).map (·.1)).Nodup) : sharesM v ps = ps.filterMap (pickS v) := by
  have e : (ps.map (pickS v)).filterMap id = ps.filterMap (pickS v) := by rw [List.filterMap_map]; rfl
  rw [sharesM_map, foldS_all _ [] (by rw [List.nil_append, e]; exact h), e]
  simp
theorem pickS_away {v : Int} {p : Pr} (h : p.1 = false) : pickS v p = none := by unfold pickS; simp [h]
theorem pickS_there {v : Int} {p : Pr} {x : Kp} (h : p.1 = true) (hx : keptAt v p.2.2 = some x) : pickS v p = some x.2 := by unfold pickS; simp [h, hx]
theorem planAt_get {b : List Ver} {k : Nat} {x : Ver} (h : b[k]? = some x) : planAt b (k : Int) = x.2 := by unfold planAt; simp [h]
/-! ### Who was given what -/
theorem keptAt_keepK {v : Int} {x : Kp} : ∀ {l : List Kp}, (∀ y ∈ l, y.1 ≠ x.1) → keptAt v (keepK x l) = if x.1 = v then some x else keptAt v l
  | [], _ => by
    unfold keepK keptAt
    by_cases h : x.1 = v <;> simp [h]
  | y :: r, h => by
    have hy := h y (by simp)
    have ih := keptAt_keepK (v := v) (x := x) (l := r) (fun z hz => h z (by simp [hz]))
    unfold keptAt at ih ⊢
    unfold keepK
    by_cases hlt : y.1 < x.1
    · rw [if_pos hlt]
      by_cases hv : y.1 = v
      · rw [List.find?_cons_of_pos (by simpa using hv), List.find?_cons_of_pos (by simpa using hv), if_neg (by omega)]
      · rw [List.find?_cons_of_neg (by simpa using hv), List.find?_cons_of_neg (by simpa using hv), ih]
    · rw [if_neg hlt]
      by_cases hxv : x.1 = v
      · rw [List.find?_cons_of_pos (by simpa using hxv), if_pos hxv]
      · rw [List.find?_cons_of_neg (by simpa using hxv), if_neg hxv]
theorem keep_zero {b : List Ver} {p : Pr} {k : Kp} (h : keepE b p k = 0) : PeerOk b p ∧ (∀ y ∈ p.2.2, y.1 ≠ k.1) ∧ PeerOk b (keepQ p k) ∧ (p.2.2.length : Int) < p.2.1 := by
  unfold keepE at h
  by_cases h0 : peerV b p = 0
  · rw [if_neg (by simpa using h0)] at h
    by_cases h1 : (p.2.2.length : Int) = p.2.1
    · rw [if_pos h1] at h; simp at h
    · rw [if_neg h1] at h
      by_cases h2 : 0 ≤ findV k.1 p.2.2 0
      · rw [if_pos h2] at h; simp at h
      · rw [if_neg h2] at h
        have h3 := peerV_ok.1 h0
        have := h3.few
        exact ⟨h3, (findV_neg (k := 0)).1 (by omega), peerV_ok.1 h, by omega⟩
  · rw [if_pos h0] at h
    exact absurd h h0
theorem gotL_nodup (v : Int) (l : List Pr) : (gotL v l).Nodup := ((places_perm v l).nodup_iff).2 ((candL_sorted v l l.length).imp (fun h => by omega))
/-- Some were given these shares, in this order. -/
structure Put (b : List Ver) (v : Int) (ss : List Sh) (ps qs : List Pr) (cs : List Int) : Prop where
  len : qs.length = ps.length
  many : cs.length = ss.length
  nodup : cs.Nodup
  who : ∀ c ∈ cs, ∃ (k : Nat) (p : Pr), c = k ∧ ps[k]? = some p ∧ canV v p = true
  rest : ∀ (k : Nat), (k : Int) ∉ cs → qs[k]? = ps[k]?
  got : ∀ (j k : Nat) p s, cs[j]? = some (k : Int) → ps[k]? = some p → ss[j]? = some s → keepE b p (v, s) = 0 ∧ qs[k]? = some (keepQ p (v, s))
section
variable {b : List Ver} {v : Int} {ss : List Sh} {ps qs : List Pr} {cs : List Int}
/-- Each one is as it was, or has one more. -/
theorem Put.each (h : Put b v ss ps qs cs) {k : Nat} {p q : Pr} (hp : ps[k]? = some p) (hq : qs[k]? = some q) : q = p ∨ ∃ (j : Nat) (s : Sh), cs[j]? = some (k : Int) ∧ ss[j]? = some s ∧ keepE b p (v, s) = 0 ∧ canV v p = true ∧ q = keepQ p (v, s) := by
  by_cases hk : (k : Int) ∈ cs
  · right
    obtain ⟨j, hj⟩ := List.getElem?_of_mem hk
    have hjl := (List.getElem?_eq_some_iff.1 hj).1
    have hm := h.many
    have hsj : ss[j]? = some ss[j] := List.getElem?_eq_getElem (by omega)
    obtain ⟨h1, h2⟩ := h.got j k p _ hj hp hsj
    rw [hq] at h2
    cases h2
    obtain ⟨k', p', e, hp', hc⟩ := h.who _ hk
    obtain rfl : k = k' := by omega
    rw [hp] at hp'
    cases hp'
    exact ⟨j, _, hj, hsj, h1, hc, rfl⟩
  · left
    have := h.rest k hk
    rw [hp, hq] at this
    exact Option.some.inj this
theorem Put.get (h : Put b v ss ps qs cs) {k : Nat} {q : Pr} (hq : qs[k]? = some q) : ∃ p, ps[k]? = some p := by
  have := (List.getElem?_eq_some_iff.1 hq).1
  exact ⟨_, List.getElem?_eq_getElem (by have := h.len; omega)⟩
theorem Put.right (h : Put b v ss ps qs cs) (hm : placeV b ps = 0) : placeV b qs = 0 := by
  obtain ⟨h1, h2, h3⟩ := placeV_ok.1 hm
  refine placeV_ok.2 ⟨h1, by have := h.len; omega, fun q hq => ?_⟩
  obtain ⟨k, hk⟩ := List.getElem?_of_mem hq
  obtain ⟨p, hp⟩ := h.get hk
  rcases h.each hp hk with rfl | ⟨j, s, _, _, h4, _, rfl⟩
  · exact h3 _ (List.mem_of_getElem? hp)
  · exact (keep_zero h4).2.2.1
theorem keepQ_self {p : Pr} {k : Kp} (h : ∀ y ∈ p.2.2, y.1 ≠ k.1) : keptAt k.1 (keepQ p k).2.2 = some k := by
  unfold keepQ
  simp only
  rw [keptAt_keepK h, if_pos rfl]
end
end Go.Proofs.YtjakdgchfimhkaaGreat

namespace Go.Proofs.YtjakdgchfimhkaaGreat

theorem BookOk.left {b : List Ver} {x : Ver} (h : BookOk (b ++ [x])) : BookOk b := by
  refine ⟨by have := h.top; simp at this; omega, fun k v hk => ?_, fun k v hk => ?_⟩
  · have hl := (List.getElem?_eq_some_iff.1 hk).1
    exact h.par k v (by rw [List.getElem?_append_left hl]; exact hk)
  · have hl := (List.getElem?_eq_some_iff.1 hk).1
    exact h.plan k v (by rw [List.getElem?_append_left hl]; exact hk)
/-- What a save has done. -/
structure SavedTo (m : Me) (data pr : List Int) (n o : Nat) (qs : List Pr) (cs : List Int) : Prop where
  mesh : placeV m.1 m.2 = 0
  split : splitE n o data.length data = 0
  book : placeV (m.1 ++ [newV data pr n o]) m.2 = 0
  put : Put (m.1 ++ [newV data pr n o]) m.1.length (sharesL n data o (rowsN n data.length)) m.2 qs cs
/-- Each one of these was given a share, none had anything before. -/
theorem SavedTo.none {m : Me} {data pr : List Int} {n o : Nat} {qs : List Pr} {cs : List Int} (h : SavedTo m data pr n o qs cs) {p : Pr} (hp : p ∈ m.2) : ∀ y ∈ p.2.2, y.1 < (m.1.length : Int) := fun y hy => (((placeV_ok.1 h.mesh).2.2 p hp).each y hy).2.1
theorem keptAt_none {v : Int} {l : List Kp} (h : ∀ y ∈ l, y.1 ≠ v) : keptAt v l = none := by
  unfold keptAt
  rw [List.find?_eq_none]
  intro y hy
  simpa using h y hy
section
variable {m : Me} {data pr : List Int} {n o : Nat} {qs : List Pr} {cs : List Int}
theorem SavedTo.right (h : SavedTo m data pr n o qs cs) : placeV (m.1 ++ [newV data pr n o]) qs = 0 := h.put.right h.book
/-- Who keeps something of the new version keeps the share that was given. -/
theorem SavedTo.kept (h : SavedTo m data pr n o qs cs) {k : Nat} {q : Pr} {x : Kp} (hq : qs[k]? = some q) (hx : keptAt (m.1.length : Int) q.2.2 = some x) : ∃ j, j < o ∧ cs[j]? = some (k : Int) ∧ x = ((m.1.length : Int), shareL n data (rowsN n data.length) j) ∧ q.1 = true := by
  obtain ⟨p, hp⟩ := h.put.get hq
  have hnone := h.none (List.mem_of_getElem? hp)
  rcases h.put.each hp hq with rfl | ⟨j, s, h1, h2, h3, h4, rfl⟩
  · rw [keptAt_none (fun y hy => by have := hnone y hy; omega)] at hx
    cases hx
  · have hj : j < o := by
      have := (List.getElem?_eq_some_iff.1 h2).1
      rwa [sharesL_len] at this
    rw [sharesL_get _ _ _ hj] at h2
    cases h2
    have hk := keepQ_self (p := p) (k := ((m.1.length : Int), shareL n data (rowsN n data.length) j)) (keep_zero h3).2.1
    rw [hk] at hx
    cases hx
    simp only [canV, Bool.and_eq_true] at h4
    exact ⟨j, hj, h1, rfl, h4.1⟩
/-- Each of the shares is kept by somebody who is there. -/
theorem SavedTo.given (h : SavedTo m data pr n o qs cs) {j : Nat} (hj : j < o) : ∃ (k : Nat) (q : Pr), cs[j]? = some (k : Int) ∧ qs[k]? = some q ∧ q.1 = true ∧ keptAt (m.1.length : Int) q.2.2 = some ((m.1.length : Int), shareL n data (rowsN n data.length) j) := by
  have hm := h.put.many
  rw [sharesL_len] at hm
  have hcj : cs[j]? = some cs[j] := List.getElem?_eq_getElem (by omega)
  obtain ⟨k, p, e, hp, hc⟩ := h.put.who _ (List.getElem_mem (by omega : j < cs.length))
  rw [e] at hcj
  obtain ⟨h1, h2⟩ := h.put.got j k p _ hcj hp (sharesL_get _ _ _ hj)
  simp only [canV, Bool.and_eq_true] at hc
  exact ⟨k, _, hcj, h2, hc.1, keepQ_self (keep_zero h1).2.1⟩
end
end Go.Proofs.YtjakdgchfimhkaaGreat

namespace Go.Proofs.YtjakdgchfimhkaaGreat

/-- The numbers of the shares of a version that are there, as they come. -/
def numsS (v : Int) (ps : List Pr) : List Int := ps.filterMap fun p => (pickS v p).map (·.1)
end Go.Proofs.YtjakdgchfimhkaaGreat
