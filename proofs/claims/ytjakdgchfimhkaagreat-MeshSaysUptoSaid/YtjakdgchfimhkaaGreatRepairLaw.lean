/-
  The plain laws of a repair: behind it all shares are there, each once, none is bent.
-/
import Derived.Test.YtjakdgchfimhkaaGreatLaws
import Derived.Test.YtjakdgchfimhkaaGreatRepair
namespace Go.Proofs.YtjakdgchfimhkaaGreat

theorem keptAt_dropK (v : Int) (l : List Kp) : keptAt v (dropK v l) = none := keptAt_none (fun y hy => by
  unfold dropK at hy
  simpa using (List.mem_filter.1 hy).2)
theorem sameS_iff {all : List Sh} {s : Sh} : sameS all s = true ↔ all[s.1.toNat]? = some s := by
  unfold sameS
  cases h : all[s.1.toNat]? with
  | none => simp
  | some t =>
    obtain ⟨a, l⟩ := s
    obtain ⟨a', l'⟩ := t
    unfold sameV eqInts
    simp only [Bool.and_eq_true, decide_eq_true_eq, Option.some.injEq, Prod.mk.injEq]
    exact ⟨fun ⟨h1, h2⟩ => ⟨h1.symm, h2.symm⟩, fun ⟨h1, h2⟩ => ⟨h1.symm, h2.symm⟩⟩
/-- What a repair does to one peer: it is as it was, or what it kept of the version is dropped. -/
def RepTo (v : Int) (p q : Pr) : Prop := q = p ∨ (p.1 = true ∧ q = (p.1, p.2.1, dropK v p.2.2))
theorem repP_spec (v : Int) (all : List Sh) (p : Pr) (hv : List Int) : RepTo v p (repP v all p hv).1 ∧ (repP v all p hv).2 = hv ++ ((pickS v (repP v all p hv).1).map (·.1)).toList ∧ ∀ s, pickS v (repP v all p hv).1 = some s → sameS all s = true ∧ s.1 ∉ hv := by
  unfold repP
  by_cases ht : p.1 = true
  · rw [if_pos ht]
    cases hk : keptAt v p.2.2 with
    | none =>
      have hp : pickS v p = none := by unfold pickS; simp [hk]
      simp only
      refine ⟨Or.inl rfl, by rw [hp]; simp, fun s hs => ?_⟩
      rw [hp] at hs; cases hs
    | some x =>
      simp only
      by_cases hb : x.2.1 ∈ hv ∨ sameS all x.2 = false
      · rw [if_pos hb]
        have hp : pickS v (p.1, p.2.1, dropK v p.2.2) = none := by unfold pickS; simp [keptAt_dropK]
        simp only
        refine ⟨Or.inr ⟨ht, rfl⟩, by rw [hp]; simp, fun s hs => ?_⟩
        rw [hp] at hs; cases hs
      · rw [if_neg hb]
        simp only [not_or, Bool.not_eq_false] at hb
        have hp : pickS v p = some x.2 := pickS_there ht hk
        simp only
        refine ⟨Or.inl rfl, by rw [hp]; simp, fun s hs => ?_⟩
        rw [hp] at hs
        cases hs
        exact ⟨hb.2, hb.1⟩
  · rw [if_neg ht]
    have hp : pickS v p = none := pickS_away (by simpa using ht)
    simp only
    refine ⟨Or.inl rfl, by rw [hp]; simp, fun s hs => ?_⟩
    rw [hp] at hs; cases hs
theorem repL_spec (v : Int) (all : List Sh) : ∀ (l : List Pr) (hv : List Int), hv.Nodup →
    (∀ (i : Nat) p q, l[i]? = some p → (repL v all l hv).1[i]? = some q → RepTo v p q) ∧ (repL v all l hv).2 = hv ++ numsS v (repL v all l hv).1 ∧ (repL v all l hv).2.Nodup ∧ (∀ q ∈ (repL v all l hv).1, ∀ s, pickS v q = some s → sameS all s = true)
  | [], hv, h => by
    refine ⟨fun i p q hp => by simp at hp, by simp [repL, numsS], h, by simp [repL]⟩
  | p :: r, hv, h => by
    obtain ⟨h1, h2, h3⟩ := repP_spec v all p hv
    have hn : (repP v all p hv).2.Nodup := by
      rw [h2]
      cases hp : pickS v (repP v all p hv).1 with
      | none => simpa using h
      | some s =>
        simp only [Option.map_some, Option.toList_some]
        rw [List.nodup_append]
        exact ⟨h, by simp, fun a ha b hb e => (h3 s hp).2 (by simp at hb; rw [← hb, ← e]; exact ha)⟩
    obtain ⟨g1, g2, g3, g4⟩ := repL_spec v all r (repP v all p hv).2 hn
    unfold repL
    refine ⟨fun i a q ha hq => ?_, ?_, g3, fun q hq s hs => ?_⟩
    · match i, ha, hq with
      | 0, ha, hq => simp at ha hq; subst ha hq; exact h1
      | i + 1, ha, hq => exact g1 i a q (by simpa using ha) (by simpa using hq)
    · simp only
      rw [g2, h2]
      unfold numsS
      rw [List.filterMap_cons]
      cases hp : pickS v (repP v all p hv).1 <;> simp
    · simp only [List.mem_cons] at hq
      rcases hq with rfl | hq
      · exact (h3 s hs).1
      · exact g4 q hq s hs
theorem PeerOk.drop {b : List Ver} {p : Pr} (h : PeerOk b p) (v : Int) (t : Bool) : PeerOk b (t, p.2.1, dropK v p.2.2) := by
  have hl : (dropK v p.2.2).length ≤ p.2.2.length := List.length_filter_le _ _
  have hf := h.few
  exact ⟨h.book, h.room, by simp only; omega, fun x hx => h.each x (List.mem_filter.1 hx).1, h.rise.filter _⟩
theorem RepTo.ok {b : List Ver} {v : Int} {p q : Pr} (h : RepTo v p q) (hp : PeerOk b p) : PeerOk b q := by
  rcases h with rfl | ⟨_, rfl⟩
  · exact hp
  · exact hp.drop v p.1
theorem rep_place {b : List Ver} {ps : List Pr} {v : Int} {all : List Sh} (h : placeV b ps = 0) : placeV b (repL v all ps []).1 = 0 := by
  obtain ⟨h1, h2, h3⟩ := placeV_ok.1 h
  refine placeV_ok.2 ⟨h1, by rw [repL_len]; exact h2, fun q hq => ?_⟩
  obtain ⟨i, hi⟩ := List.getElem?_of_mem hq
  have hl := (List.getElem?_eq_some_iff.1 hi).1
  rw [repL_len] at hl
  exact ((repL_spec v all ps [] List.nodup_nil).1 i _ q (List.getElem?_eq_getElem hl) hi).ok (h3 _ (List.getElem_mem hl))
theorem numsL_nodup (n : Nat) : (numsL n).Nodup := (numsL_sorted n).imp (fun h => by omega)
theorem nodup_len' {l r : List Int} (hl : l.Nodup) (hr : r.Nodup) (h : ∀ z, z ∈ l ↔ z ∈ r) : l.length = r.length := List.Perm.length_eq ((List.perm_ext_iff_of_nodup hl hr).2 h)
theorem numsS_map (v : Int) (ps : List Pr) : numsS v ps = (ps.filterMap (pickS v)).map (·.1) := by
  unfold numsS
  rw [List.map_filterMap]
theorem mem_numsS {v : Int} {ps : List Pr} {z : Int} : z ∈ numsS v ps ↔ ∃ p ∈ ps, ∃ s, pickS v p = some s ∧ s.1 = z := by
  unfold numsS
  rw [List.mem_filterMap]
  constructor
  · rintro ⟨p, hp, h⟩
    cases hs : pickS v p with
    | none => rw [hs] at h; cases h
    | some s => rw [hs] at h; exact ⟨p, hp, s, hs, by simpa using h⟩
  · rintro ⟨p, hp, s, hs, rfl⟩
    exact ⟨p, hp, by rw [hs]; rfl⟩
/-- All shares of a content are there, each once. -/
structure Whole (v : Int) (n o r : Nat) (D : List Int) (qs : List Pr) : Prop where
  of : ∀ q ∈ qs, ∀ s, pickS v q = some s → ∃ j, j < o ∧ s = shareL n D r j
  once : (numsS v qs).Nodup
  full : ∀ j, j < o → (j : Int) ∈ numsS v qs
section
variable {v : Int} {n o r : Nat} {D : List Int} {qs : List Pr}
theorem Whole.shares (h : Whole v n o r D qs) : sharesM v qs = qs.filterMap (pickS v) := sharesM_all (by rw [← numsS_map]; exact h.once)
theorem Whole.len (h : Whole v n o r D qs) : (sharesM v qs).length = o := by
  have e : (sharesM v qs).length = (numsS v qs).length := by rw [h.shares, numsS_map, List.length_map]
  rw [e, nodup_len' h.once (numsL_nodup o) (fun z => ?_)]
  · simp [numsL]
  · rw [mem_numsL]
    constructor
    · intro hz
      obtain ⟨q, hq, s, hs, rfl⟩ := mem_numsS.1 hz
      obtain ⟨j, hj, rfl⟩ := h.of q hq s hs
      simp only [shareL]
      omega
    · rintro ⟨h1, h2⟩
      obtain ⟨j, rfl⟩ := Int.eq_ofNat_of_zero_le h1
      exact h.full j (by omega)
theorem Whole.same (h : Whole v n o r D qs) : ∀ q ∈ qs, ∀ s, pickS v q = some s → sameS (sharesL n D o r) s = true := fun q hq s hs => by
  obtain ⟨j, hj, rfl⟩ := h.of q hq s hs
  rw [sameS_iff]
  simp only [shareL, Int.toNat_natCast]
  exact sharesL_get n D r hj
theorem Whole.none (h : Whole v n o r D qs) : missL (sharesL n D o r) (numsS v qs) = [] := by
  unfold missL
  rw [List.filter_eq_nil_iff]
  intro s hs
  obtain ⟨j, hj⟩ := List.getElem?_of_mem hs
  have hjo := (List.getElem?_eq_some_iff.1 hj).1
  rw [sharesL_len] at hjo
  rw [sharesL_get _ _ _ hjo] at hj
  cases hj
  simp [shareL, h.full j hjo]
end
end Go.Proofs.YtjakdgchfimhkaaGreat
