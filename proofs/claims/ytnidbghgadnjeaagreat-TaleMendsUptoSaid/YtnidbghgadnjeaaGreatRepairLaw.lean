/-
  The plain laws of a repair: behind it all shares are there, each once, none is bent.
-/
import Derived.Test.YtnidbghgadnjeaaGreatLaws
import Derived.Test.YtnidbghgadnjeaaGreatRepair
namespace Go.Proofs.YtnidbghgadnjeaaGreat

theorem keptAt_dropK (v : Int) (l : List Kp) : keptAt v (dropK v l) = none := keptAt_none (fun y hy => by
  unfold dropK at hy
  simpa using (List.mem_filter.1 hy).2)
theorem keptAt_other {v u : Int} (h : u ≠ v) : ∀ l : List Kp, keptAt u (dropK v l) = keptAt u l
  | [] => rfl
  | x :: l => by
    have ih := keptAt_other h l
    unfold keptAt dropK at ih ⊢
    by_cases hx : x.1 = v
    · rw [List.filter_cons, if_neg (by simpa using hx), ih, List.find?_cons_of_neg (by simp only [decide_eq_true_eq]; omega)]
    · rw [List.filter_cons, if_pos (by simpa using hx)]
      by_cases hu : x.1 = u
      · rw [List.find?_cons_of_pos (by simpa using hu), List.find?_cons_of_pos (by simpa using hu)]
      · rw [List.find?_cons_of_neg (by simpa using hu), List.find?_cons_of_neg (by simpa using hu), ih]
theorem sameS_iff {all : List Sh} {s : Sh} : sameS all s = true ↔ all[s.1.toNat]? = some s := by
  unfold sameS
  cases h : all[s.1.toNat]? with
  | none => simp
  | some t =>
    obtain ⟨a, l⟩ := s
    obtain ⟨a', l'⟩ := t
    unfold sameV eqInts
    simp only [Bool.and_eq_true, decide_eq_true_eq, Option.some.injEq, Prod.mk.injEq]
    exact ⟨fun ⟨h1, h2⟩ => ⟨h1.symm, h2.symm⟩, fun ⟨h1, h2⟩ => ⟨h1.symm, h2.symm⟩⟩
/-- What a repair does to one peer: it is as it was, or what it kept of the version is dropped. -/
def RepTo (v : Int) (p q : Pr) : Prop := q = p ∨ (p.1 = true ∧ q = (p.1, p.2.1, dropK v p.2.2))
theorem repP_spec (v : Int) (all : List Sh) (p : Pr) (hv : List Int) : RepTo v p (repP v all p hv).1 ∧ (repP v all p hv).2 = hv ++ ((pickS v (repP v all p hv).1).map (·.1)).toList ∧ ∀ s, pickS v (repP v all p hv).1 = some s → sameS all s = true ∧ s.1 ∉ hv := by
  unfold repP
  by_cases ht : p.1 = true
  · rw [if_pos ht]
    cases hk : keptAt v p.2.2 with
    | none =>
      have hp : pickS v p = none := by unfold pickS; simp [hk]
      simp only
      refine ⟨Or.inl rfl, by rw [hp]; simp, fun s hs => ?_⟩
      rw [hp] at hs; cases hs
    | some x =>
      simp only
      by_cases hb : x.2.1 ∈ hv ∨ sameS all x.2 = false
      · rw [if_pos hb]
        have hp : pickS v (p.1, p.2.1, dropK v p.2.2) = none := by unfold pickS; simp [keptAt_dropK]
        simp only
        refine ⟨Or.inr ⟨ht, rfl⟩, by rw [hp]; simp, fun s hs => ?_⟩
        rw [hp] at hs; cases hs
      · rw [if_neg hb]
        simp only [not_or, Bool.not_eq_false] at hb
        have hp : pickS v p = some x.2 := pickS_there ht hk
        simp only
        refine ⟨Or.inl rfl, by rw [hp]; simp, fun s hs => ?_⟩
        rw [hp] at hs
        cases hs
        exact ⟨hb.2, hb.1⟩
  · rw [if_neg ht]
    have hp : pickS v p = none := pickS_away (by simpa using ht)
    simp only
    refine ⟨Or.inl rfl, by rw [hp]; simp, fun s hs => ?_⟩
    rw [hp] at hs; cases hs
theorem repL_spec (v : Int) (all : List Sh) : ∀ (l : List Pr) (hv : List Int), hv.Nodup →
    (∀ (i : Nat) p q, l[i]? = some p → (repL v all l hv).1[i]? = some q → RepTo v p q) ∧ (repL v all l hv).2 = hv ++ numsS v (repL v all l hv).1 ∧ (repL v all l hv).2.Nodup ∧ (∀ q ∈ (repL v all l hv).1, ∀ s, pickS v q = some s → sameS all s = true)
  | [], hv, h => by
    refine ⟨fun i p q hp => by simp at hp, by simp [repL, numsS], h, by simp [repL]⟩
  | p :: r, hv, h => by
    obtain ⟨h1, h2, h3⟩ := repP_spec v all p hv
    have hn : (repP v all p hv).2.Nodup := by
      rw [h2]
      cases hp : pickS v (repP v all p hv).1 with
      | none => simpa using h
      | some s =>
        simp only [Option.map_some, Option.toList_some]
        rw [List.nodup_append]
        exact ⟨h, by simp, fun a ha b hb e => (h3 s hp).2 (by simp at hb; rw [← hb, ← e]; exact ha)⟩
    obtain ⟨g1, g2, g3, g4⟩ := repL_spec v all r (repP v all p hv).2 hn
    unfold repL
    refine ⟨fun i a q ha hq => ?_, ?_, g3, fun q hq s hs => ?_⟩
    · match i, ha, hq with
      | 0, ha, hq => simp at ha hq; subst ha hq; exact h1
      | i + 1, ha, hq => exact g1 i a q (by simpa using ha) (by simpa using hq)
    · simp only
      rw [g2, h2]
      unfold numsS
      rw [List.filterMap_cons]
      cases hp : pickS v (repP v all p hv).1 <;> simp
    · simp only [List.mem_cons] at hq
      rcases hq with rfl | hq
      · exact (h3 s hs).1
      · exact g4 q hq s hs
theorem PeerOk.drop {b : List Ver} {p : Pr} (h : PeerOk b p) (v : Int) (t : Bool) : PeerOk b (t, p.2.1, dropK v p.2.2) := by
  have hl : (dropK v p.2.2).length ≤ p.2.2.length := List.length_filter_le _ _
  have hf := h.few
  exact ⟨h.book, h.room, by simp only; omega, fun x hx => h.each x (List.mem_filter.1 hx).1, h.rise.filter _⟩
theorem RepTo.ok {b : List Ver} {v : Int} {p q : Pr} (h : RepTo v p q) (hp : PeerOk b p) : PeerOk b q := by
  rcases h with rfl | ⟨_, rfl⟩
  · exact hp
  · exact hp.drop v p.1
theorem rep_place {b : List Ver} {ps : List Pr} {v : Int} {all : List Sh} (h : placeV b ps = 0) : placeV b (repL v all ps []).1 = 0 := by
  obtain ⟨h1, h2, h3⟩ := placeV_ok.1 h
  refine placeV_ok.2 ⟨h1, by rw [repL_len]; exact h2, fun q hq => ?_⟩
  obtain ⟨i, hi⟩ := List.getElem?_of_mem hq
  have hl := (List.getElem?_eq_some_iff.1 hi).1
  rw [repL_len] at hl
  exact ((repL_spec v all ps [] List.nodup_nil).1 i _ q (List.getElem?_eq_getElem hl) hi).ok (h3 _ (List.getElem_mem hl))
theorem numsL_nodup (n : Nat) : (numsL n).Nodup := (numsL_sorted n).imp (fun h => by omega)
theorem nodup_len' {l r : List Int} (hl : l.Nodup) (hr : r.Nodup) (h : ∀ z, z ∈ l ↔ z ∈ r) : l.length = r.length := List.Perm.length_eq ((List.perm_ext_iff_of_nodup hl hr).2 h)
theorem numsS_map (v : Int) (ps : List Pr) : numsS v ps = (ps.filterMap (pickS v)).map (·.1) := by
  unfold numsS
  rw [List.map_filterMap]
theorem mem_numsS {v : Int} {ps : List Pr} {z : Int} : z ∈ numsS v ps ↔ ∃ p ∈ ps, ∃ s, pickS v p = some s ∧ s.1 = z := by
  unfold numsS
  rw [List.mem_filterMap]
  constructor
  · rintro ⟨p, hp, h⟩
    cases hs : pickS v p with
    | none => rw [hs] at h; cases h
    | some s => rw [hs] at h; exact ⟨p, hp, s, hs, by simpa using h⟩
  · rintro ⟨p, hp, s, hs, rfl⟩
    exact ⟨p, hp, by rw [hs]; rfl⟩
/-- All shares of a content are there, each once. -/
structure Whole (v : Int) (n o r : Nat) (D : List Int) (qs : List Pr) : Prop where
  of : ∀ q ∈ qs, ∀ s, pickS v q = some s → ∃ j, j < o ∧ s = shareL n D r j
  once : (numsS v qs).Nodup
  full : ∀ j, j < o → (j : Int) ∈ numsS v qs
section
variable {v : Int} {n o r : Nat} {D : List Int} {qs : List Pr}
theorem Whole.shares (h : Whole v n o r D qs) : sharesM v qs = qs.filterMap (pickS v) := sharesM_all (by rw [← numsS_map]; exact h.once)
theorem Whole.len (h : Whole v n o r D qs) : (sharesM v qs).length = o := by
  have e : (sharesM v qs).length = (numsS v qs).length := by rw [h.shares, numsS_map, List.length_map]
  rw [e, nodup_len' h.once (numsL_nodup o) (fun z => ?_)]
  · simp [numsL]
  · rw [mem_numsL]
    constructor
    · intro hz
      obtain ⟨q, hq, s, hs, rfl⟩ := mem_numsS.1 hz
      obtain ⟨j, hj, rfl⟩ := h.of q hq s hs
      simp only [shareL]
      omega
    · rintro ⟨h1, h2⟩
      obtain ⟨j, rfl⟩ := Int.eq_ofNat_of_zero_le h1
      exact h.full j (by omega)
theorem Whole.same (h : Whole v n o r D qs) : ∀ q ∈ qs, ∀ s, pickS v q = some s → sameS (sharesL n D o r) s = true := fun q hq s hs => by
  obtain ⟨j, hj, rfl⟩ := h.of q hq s hs
  rw [sameS_iff]
  simp only [shareL, Int.toNat_natCast]
  exact sharesL_get n D r hj
theorem Whole.none (h : Whole v n o r D qs) : missL (sharesL n D o r) (numsS v qs) = [] := by
  unfold missL
  rw [List.filter_eq_nil_iff]
  intro s hs
  obtain ⟨j, hj⟩ := List.getElem?_of_mem hs
  have hjo := (List.getElem?_eq_some_iff.1 hj).1
  rw [sharesL_len] at hjo
  rw [sharesL_get _ _ _ hjo] at hj
  cases hj
  simp [shareL, h.full j hjo]
end
/-- What a repair has done to the peers, one by one. -/
structure Mended (v : Int) (ps qs : List Pr) : Prop where
  len : qs.length = ps.length
  each : ∀ (k : Nat) p q, ps[k]? = some p → qs[k]? = some q → q.1 = p.1 ∧ q.2.1 = p.2.1 ∧ dropK v q.2.2 = dropK v p.2.2 ∧ (p.1 = false → q = p)
theorem dropK_twice (v : Int) (l : List Kp) : dropK v (dropK v l) = dropK v l := by unfold dropK; rw [List.filter_filter]; simp
/-- A repair that went through: the version is whole. -/
theorem rep_whole {b : List Ver} {v : Int} {n o r : Nat} {D : List Int} {ps qs : List Pr} {cs : List Int} (hput : Put b v (missL (sharesL n D o r) (repL v (sharesL n D o r) ps []).2) (repL v (sharesL n D o r) ps []).1 qs cs) :
    Whole v n o r D qs ∧ Mended v ps qs := by
  obtain ⟨h1, h2, h3, h4⟩ := repL_spec v (sharesL n D o r) ps [] List.nodup_nil
  have hlen := repL_len v (sharesL n D o r) ps []
  generalize (repL v (sharesL n D o r) ps []).1 = rs at *
  generalize (repL v (sharesL n D o r) ps []).2 = hv at *
  rw [List.nil_append] at h2
  have hmiss : ∀ (j : Nat) s, (missL (sharesL n D o r) hv)[j]? = some s → s.1 ∉ hv ∧ ∃ i, i < o ∧ s = shareL n D r i := by
    intro j s hs
    have hm := List.mem_of_getElem? hs
    unfold missL at hm
    obtain ⟨hm1, hm2⟩ := List.mem_filter.1 hm
    obtain ⟨i, hi⟩ := List.getElem?_of_mem hm1
    have hio := (List.getElem?_eq_some_iff.1 hi).1
    rw [sharesL_len] at hio
    rw [sharesL_get _ _ _ hio] at hi
    cases hi
    exact ⟨by simpa using hm2, i, hio, rfl⟩
  have hmnd : ((missL (sharesL n D o r) hv).map (·.1)).Nodup := by
    refine List.Nodup.sublist (List.Sublist.map _ List.filter_sublist) ?_
    unfold sharesL
    rw [List.map_map]
    have : ((·.1) ∘ shareL n D r) = fun (j : Nat) => (j : Int) := by funext j; rfl
    rw [this]
    exact numsL_nodup o
  -- what each one has behind it
  have hpick : ∀ (k : Nat) q s, qs[k]? = some q → pickS v q = some s → (rs[k]? = some q ∧ s.1 ∈ hv ∧ ∃ j, j < o ∧ s = shareL n D r j) ∨ ∃ j : Nat, cs[j]? = some (k : Int) ∧ (missL (sharesL n D o r) hv)[j]? = some s := by
    intro k q s hq hs
    obtain ⟨p, hp⟩ := hput.get hq
    rcases hput.each hp hq with rfl | ⟨j, t, g1, g2, g3, g4, rfl⟩
    · left
      have hsame := h4 q (List.mem_of_getElem? hp) s hs
      rw [sameS_iff] at hsame
      have hlt := (List.getElem?_eq_some_iff.1 hsame).1
      rw [sharesL_len] at hlt
      rw [sharesL_get _ _ _ hlt] at hsame
      refine ⟨hp, ?_, s.1.toNat, hlt, (Option.some.inj hsame).symm⟩
      rw [h2]
      exact mem_numsS.2 ⟨q, List.mem_of_getElem? hp, s, hs, rfl⟩
    · right
      simp only [canV, Bool.and_eq_true] at g4
      have := pickS_there (p := keepQ p (v, t)) (v := v) (x := (v, t)) g4.1 (keepQ_self (k := (v, t)) (keep_zero g3).2.1)
      rw [hs] at this
      cases this
      exact ⟨j, g1, g2⟩
  refine ⟨⟨fun q hq s hs => ?_, ?_, fun j hj => ?_⟩, hput.len.trans hlen, fun k p q hp hq => ?_⟩
  · obtain ⟨k, hk⟩ := List.getElem?_of_mem hq
    rcases hpick k q s hk hs with ⟨_, _, h⟩ | ⟨j, _, hj⟩
    · exact h
    · exact (hmiss j s hj).2
  · rw [numsS_map]
    have hrs : (rs.filterMap (pickS v)).Pairwise (fun a b => a.1 ≠ b.1) := by
      have := h3
      rw [h2, numsS_map, List.Nodup, List.pairwise_map] at this
      exact this
    rw [List.pairwise_filterMap] at hrs
    refine filterMap_nodup (fun i j x y s t hij hx hy hs ht e => ?_)
    rcases hpick i x s hx hs with ⟨a1, a2, _⟩ | ⟨a, a1, a2⟩
    · rcases hpick j y t hy ht with ⟨b1, b2, _⟩ | ⟨c, b1, b2⟩
      · rcases Nat.lt_or_ge i j with h | h
        · obtain ⟨hi', rfl⟩ := List.getElem?_eq_some_iff.1 a1
          obtain ⟨hj', rfl⟩ := List.getElem?_eq_some_iff.1 b1
          exact List.pairwise_iff_getElem.1 hrs i j hi' hj' h s hs t ht e
        · obtain ⟨hi', rfl⟩ := List.getElem?_eq_some_iff.1 a1
          obtain ⟨hj', rfl⟩ := List.getElem?_eq_some_iff.1 b1
          exact List.pairwise_iff_getElem.1 hrs j i hj' hi' (by omega) t ht s hs e.symm
      · exact (hmiss c t b2).1 (by rw [← e]; exact a2)
    · rcases hpick j y t hy ht with ⟨b1, b2, _⟩ | ⟨c, b1, b2⟩
      · exact (hmiss a s a2).1 (by rw [e]; exact b2)
      · have hac : a ≠ c := by
          intro h
          subst h
          rw [a1] at b1
          simp only [Option.some.injEq] at b1
          omega
        obtain ⟨ha', rfl⟩ := List.getElem?_eq_some_iff.1 a2
        obtain ⟨hc', rfl⟩ := List.getElem?_eq_some_iff.1 b2
        rw [List.Nodup, List.pairwise_map, List.pairwise_iff_getElem] at hmnd
        rcases Nat.lt_or_ge a c with h | h
        · exact hmnd a c ha' hc' h e
        · exact hmnd c a hc' ha' (by omega) e.symm
  · by_cases hj2 : (j : Int) ∈ hv
    · have hj3 := hj2
      rw [h2] at hj3
      obtain ⟨p, hp, s, hs, e⟩ := mem_numsS.1 hj3
      obtain ⟨i, hi⟩ := List.getElem?_of_mem hp
      have hil := (List.getElem?_eq_some_iff.1 hi).1
      have hql : i < qs.length := by have := hput.len; omega
      have hq : qs[i]? = some qs[i] := List.getElem?_eq_getElem hql
      rcases hput.each hi hq with e2 | ⟨_, _, _, _, g3, _, _⟩
      · exact mem_numsS.2 ⟨qs[i], List.getElem_mem hql, s, by rw [e2]; exact hs, e⟩
      · have := (keep_zero g3).2.1
        obtain ⟨_, x, hx, h5, _⟩ := pickS_some hs
        exact absurd h5 (this x hx)
    · have hm : shareL n D r j ∈ missL (sharesL n D o r) hv := by
        unfold missL
        exact List.mem_filter.2 ⟨List.mem_of_getElem? (sharesL_get n D r hj), by simp [shareL, hj2]⟩
      obtain ⟨i, hi⟩ := List.getElem?_of_mem hm
      have hil := (List.getElem?_eq_some_iff.1 hi).1
      have hmany := hput.many
      have hc : cs[i]? = some cs[i] := List.getElem?_eq_getElem (by omega)
      obtain ⟨k, p, e, hp, hcan⟩ := hput.who _ (List.getElem_mem (by omega : i < cs.length))
      rw [e] at hc
      obtain ⟨g1, g2⟩ := hput.got i k p _ hc hp hi
      simp only [canV, Bool.and_eq_true] at hcan
      exact mem_numsS.2 ⟨_, List.mem_of_getElem? g2, _, pickS_there hcan.1 (keepQ_self (k := (v, shareL n D r j)) (keep_zero g1).2.1), rfl⟩
  · have hkl := (List.getElem?_eq_some_iff.1 hp).1
    have hr : rs[k]? = some rs[k] := List.getElem?_eq_getElem (by omega)
    have hrep := h1 k p _ hp hr
    rcases hput.each hr hq with e | ⟨j, t, g1, g2, g3, g4, e⟩
    · rw [e]
      rcases hrep with e2 | ⟨ht, e2⟩
      · rw [e2]; exact ⟨rfl, rfl, rfl, fun _ => rfl⟩
      · rw [e2]; exact ⟨rfl, rfl, dropK_twice _ _, fun h => by rw [h] at ht; cases ht⟩
    · have hn := (keep_zero g3).2.1
      have hd : dropK v (keepQ rs[k] (v, t)).2.2 = rs[k].2.2 := dropK_keepK (x := (v, t)) hn
      have hd2 : dropK v rs[k].2.2 = rs[k].2.2 := dropK_none hn
      simp only [canV, Bool.and_eq_true] at g4
      rw [e, hd]
      rcases hrep with e2 | ⟨ht, e2⟩
      · rw [e2] at hd2 g4 ⊢
        exact ⟨rfl, rfl, hd2.symm, fun h => by rw [h] at g4; cases g4.1⟩
      · rw [e2]
        exact ⟨rfl, rfl, rfl, fun h => by rw [h] at ht; cases ht⟩
/-- A repair that went through. -/
theorem repair_zero {b : List Ver} {ps : List Pr} {k : Nat} (h : repairE (b, ps) (k : Int) = 0) :
    ∃ (pr : List Int) (n o s : Nat) (D : List Int) (qs : List Pr), b[k]? = some (pr, (n : Int), (o : Int), (s : Int)) ∧ splitE n o s D = 0 ∧ restE (b, ps) (k : Int) = 0 ∧ restB (b, ps) (k : Int) = D ∧ placeV b ps = 0 ∧ repairC (b, ps) (k : Int) = (b, qs) ∧ placeV b qs = 0 ∧ Whole (k : Int) n o (rowsN n s) D qs ∧ Mended (k : Int) ps qs := by
  have h0 : restE (b, ps) (k : Int) = 0 := by
    by_cases h0 : restE (b, ps) (k : Int) = 0
    · exact h0
    · unfold repairE at h
      rw [if_pos h0] at h
      exact absurd h h0
  obtain ⟨hm, _, hk⟩ := readyE_ok (restE_ready h0)
  have hk : k < b.length := by simpa using hk
  have hx : b[k]? = some b[k] := List.getElem?_eq_getElem hk
  have hpl : planAt b (k : Int) = b[k].2 := planAt_get hx
  have h1 : splitE b[k].2.1 b[k].2.2.1 b[k].2.2.2 (restB (b, ps) (k : Int)) = 0 := by
    by_cases h1 : splitE b[k].2.1 b[k].2.2.1 b[k].2.2.2 (restB (b, ps) (k : Int)) = 0
    · exact h1
    · unfold repairE at h
      rw [if_neg (by simpa using h0), hpl, if_pos h1] at h
      exact absurd h h1
  obtain ⟨e1, e2⟩ := repair_put (m := (b, ps)) (v := (k : Int)) (x := b[k]) h0 hpl h1 rfl
  rw [e1] at h
  obtain ⟨n, o, s, a1, a2, a3⟩ := plan_nat (splitE_ok h1).1
  rw [a1, a2, a3] at h1 h e2
  rw [splitL_ok h1] at h e2
  obtain ⟨h5, qs, cs, h6, h7⟩ := put_zero h
  obtain ⟨h8, h9⟩ := rep_whole h7
  refine ⟨b[k].1, n, o, s, _, qs, ?_, h1, h0, rfl, hm, e2.trans h6, h7.right h5, h8, h9⟩
  rw [hx, ← a1, ← a2, ← a3]
end Go.Proofs.YtnidbghgadnjeaaGreat
