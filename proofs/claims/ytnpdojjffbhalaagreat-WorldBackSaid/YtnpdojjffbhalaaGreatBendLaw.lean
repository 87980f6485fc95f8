/-
  The plain laws of bent shares behind a save: who is bent is to blame, and nobody else; a repair goes through.
-/
import Derived.Test.YtnpdojjffbhalaaGreatAuditMendsWalk
import Derived.Test.YtnpdojjffbhalaaGreatMosts
import Derived.Test.YtnpdojjffbhalaaGreatBooks
namespace Go.Proofs.YtnpdojjffbhalaaGreat

/-- What is bent of a version: the first number, by so many. -/
def bendN (d : Int) (l : List Int) : List Int := l.set 0 ((l.getD 0 0 + d) % 31)
def bendK (d : Int) (x : Kp) : Kp := (x.1, x.2.1, bendN d x.2.2)
def bendP (v d : Int) (p : Pr) : Pr := (p.1, p.2.1, p.2.2.map fun x => if x.1 = v then bendK d x else x)
theorem keptAt_bend (v d : Int) : ∀ l : List Kp, keptAt v (l.map fun x => if x.1 = v then bendK d x else x) = (keptAt v l).map (bendK d)
  | [] => rfl
  | x :: l => by
    have ih := keptAt_bend v d l
    unfold keptAt at ih ⊢
    rw [List.map_cons]
    by_cases h : x.1 = v
    · rw [if_pos h, List.find?_cons_of_pos (by simp [bendK, h]), List.find?_cons_of_pos (by simp [h])]
      rfl
    · rw [if_neg h, List.find?_cons_of_neg (by simpa using h), List.find?_cons_of_neg (by simpa using h), ih]
theorem pickS_bend (v d : Int) (p : Pr) : pickS v (bendP v d p) = (pickS v p).map fun s => (s.1, bendN d s.2) := by
  unfold pickS bendP
  simp only
  rw [keptAt_bend]
  cases p.1
  · rfl
  · cases keptAt v p.2.2 <;> rfl
theorem bend_at {v d : Int} {l : List Kp} {m : Nat} {x : Kp} (hp : l.Pairwise (fun x y => x.1 < y.1)) (hx : l[m]? = some x) (hv : x.1 = v) : l.set m (bendK d x) = l.map fun x => if x.1 = v then bendK d x else x := by
  apply List.ext_getElem?
  intro j
  rw [List.getElem?_set, List.getElem?_map]
  have hm := (List.getElem?_eq_some_iff.1 hx).1
  by_cases hj : m = j
  · subst hj
    rw [if_pos rfl, if_pos hm, hx, Option.map_some, if_pos hv]
  · rw [if_neg hj]
    cases hy : l[j]? with
    | none => rfl
    | some y =>
      have hne : y.1 ≠ v := by
        obtain ⟨h1, rfl⟩ := List.getElem?_eq_some_iff.1 hx
        obtain ⟨h2, rfl⟩ := List.getElem?_eq_some_iff.1 hy
        have := List.pairwise_iff_getElem.1 hp
        rcases Nat.lt_or_ge m j with h | h
        · have := this m j h1 h2 h; omega
        · have := this j m h2 h1 (by omega); omega
      rw [Option.map_some, if_neg hne]
theorem bendN_ne {d : Int} {l : List Int} (hd : 0 < d) (hd2 : d < 31) (hl : 0 < l.length) (hv : ∀ z ∈ l, 0 ≤ z ∧ z < 31) : bendN d l ≠ l := by
  intro e
  have h0 : l[0]? = some l[0] := List.getElem?_eq_getElem hl
  have h1 := congrArg (fun l => l[0]?) e
  simp only [bendN] at h1
  rw [List.getElem?_set, if_pos rfl, if_pos hl, List.getD_eq_getElem?_getD, h0] at h1
  simp only [Option.getD_some, Option.some.injEq] at h1
  have := hv l[0] (List.getElem_mem hl)
  omega
theorem bendN_len (d : Int) (l : List Int) : (bendN d l).length = l.length := by simp [bendN]
theorem bendN_vals {d : Int} {l : List Int} (hv : ∀ z ∈ l, 0 ≤ z ∧ z < 31) : ∀ z ∈ bendN d l, 0 ≤ z ∧ z < 31 := by
  intro z hz
  unfold bendN at hz
  rcases List.mem_or_eq_of_mem_set hz with h | rfl
  · exact hv z h
  · omega
/-- A bent peer is one. -/
theorem bend_peer {b : List Ver} {v d : Int} {p : Pr} (h : PeerOk b p) : PeerOk b (bendP v d p) := by
  have hf : ∀ x : Kp, (if x.1 = v then bendK d x else x).1 = x.1 := fun x => by split <;> rfl
  refine ⟨h.book, h.room, by unfold bendP; simpa using h.few, fun x hx => ?_, ?_⟩
  · unfold bendP at hx
    obtain ⟨y, hy, rfl⟩ := List.mem_map.1 hx
    obtain ⟨h1, h2, h3⟩ := h.each y hy
    refine ⟨by rw [hf]; exact h1, by rw [hf]; exact h2, ?_⟩
    split
    · unfold shareV at h3 ⊢
      unfold bendK
      simp only
      unfold oneV at h3 ⊢
      split at h3
      · rename_i h4; exact absurd h3 h4
      · rename_i h4
        rw [if_neg h4]
        split at h3
        · simp at h3
        · rename_i h5
          rw [if_neg h5, bendN_len]
          split at h3
          · simp at h3
          · rename_i h6
            rw [if_neg h6]
            exact allV_zero (bendN_vals ((allV_ok _).1 h3))
    · exact h3
  · unfold bendP
    simp only
    rw [List.pairwise_map]
    exact h.rise.imp (fun h => by rw [hf, hf]; exact h)
/-- These are bent, all others are as they were. -/
structure BentTo (v d : Int) (want : List Int) (qs zs : List Pr) : Prop where
  len : zs.length = qs.length
  each : ∀ (k : Nat) q, qs[k]? = some q → zs[k]? = some (if (k : Int) ∈ want then bendP v d q else q)
theorem BentTo.nil (v d : Int) (qs : List Pr) : BentTo v d [] qs qs := ⟨rfl, fun k q h => by simpa using h⟩
theorem BentTo.more {v d : Int} {want : List Int} {qs zs : List Pr} (h : BentTo v d want qs zs) {k : Nat} {q : Pr} (hq : qs[k]? = some q) (_hk : (k : Int) ∉ want) : BentTo v d (want ++ [(k : Int)]) qs (zs.set k (bendP v d q)) := by
  have hkl := (List.getElem?_eq_some_iff.1 hq).1
  refine ⟨by rw [List.length_set]; exact h.len, fun j p hp => ?_⟩
  rw [List.getElem?_set]
  by_cases hj : k = j
  · subst hj
    rw [hq] at hp
    cases hp
    rw [if_pos rfl, if_pos (by have := h.len; omega), if_pos (by simp)]
  · rw [if_neg hj, h.each j p hp]
    have : (j : Int) ∈ want ++ [(k : Int)] ↔ (j : Int) ∈ want := by
      rw [List.mem_append, List.mem_singleton]
      exact ⟨fun h => h.elim id (fun h => by omega), Or.inl⟩
    by_cases hw : (j : Int) ∈ want
    · rw [if_pos hw, if_pos (this.2 hw)]
    · rw [if_neg hw, if_neg (fun h => hw (this.1 h))]
theorem len_le_of {l r : List Int} (hl : l.Nodup) (hr : r.Nodup) (h : ∀ z ∈ l, z ∈ r) : l.length ≤ r.length := by
  have e : l.length = (r.filter fun z => decide (z ∈ l)).length := nodup_len' hl (hr.filter _) (fun z => by
    rw [List.mem_filter]
    simp only [decide_eq_true_eq]
    exact ⟨fun hz => ⟨h z hz, hz⟩, fun hz => hz.2⟩)
  rw [e]
  exact List.length_filter_le _ _
theorem idxF_sorted {α : Type} (p : α → Bool) : ∀ (l : List α) (k : Nat), (idxF p k l).Pairwise (· < ·) ∧ ∀ z ∈ idxF p k l, (k : Int) ≤ z
  | [], _ => by simp [idxF]
  | x :: l, k => by
    obtain ⟨h1, h2⟩ := idxF_sorted p l (k + 1)
    unfold idxF
    split
    · refine ⟨?_, fun z hz => ?_⟩
      · rw [List.singleton_append, List.pairwise_cons]
        exact ⟨fun z hz => by have := h2 z hz; omega, h1⟩
      · simp only [List.singleton_append, List.mem_cons] at hz
        rcases hz with rfl | hz
        · exact Int.le_refl _
        · have := h2 z hz; omega
    · refine ⟨by simpa using h1, fun z hz => by have := h2 z (by simpa using hz); omega⟩
/-- Where no two have one share, a repair drops what is not of them, and nothing else. -/
theorem repL_once (v : Int) (all : List Sh) : ∀ (l : List Pr) (hv : List Int), (hv ++ numsS v l).Nodup → ∀ (k : Nat) p, l[k]? = some p → (repL v all l hv).1[k]? = some (if blameB v all p = true then (p.1, p.2.1, dropK v p.2.2) else p)
  | [], hv, _, k, p, h => by simp at h
  | q :: r, hv, hn, k, p, h => by
    have hc : numsS v (q :: r) = ((pickS v q).map (·.1)).toList ++ numsS v r := by
      unfold numsS
      rw [List.filterMap_cons]
      cases pickS v q <;> simp
    rw [hc] at hn
    have hq : (repP v all q hv).1 = (if blameB v all q = true then (q.1, q.2.1, dropK v q.2.2) else q) ∧ ((repP v all q hv).2 ++ numsS v r).Nodup := by
      unfold repP blameB
      by_cases ht : q.1 = true
      · rw [if_pos ht, ht]
        cases hk : keptAt v q.2.2 with
        | none =>
          have hp : pickS v q = none := by unfold pickS; simp [hk]
          rw [hp] at hn
          simp only [Bool.and_false, Bool.false_eq_true, if_false]
          exact ⟨trivial, by simpa using hn⟩
        | some x =>
          have hx : pickS v q = some x.2 := pickS_there ht hk
          rw [hx] at hn
          have hnx : x.2.1 ∉ hv := fun h => by
            simp only [Option.map_some, Option.toList_some, List.nodup_append] at hn
            exact hn.2.2 x.2.1 h x.2.1 (by simp) rfl
          simp only [Bool.true_and]
          by_cases hs : sameS all x.2 = true
          · rw [if_neg (by simp [hnx, hs])]
            rw [hs]
            simp only [Bool.not_true, Bool.false_eq_true, if_false]
            exact ⟨trivial, by simpa using hn⟩
          · simp only [Bool.not_eq_true] at hs
            rw [if_pos (Or.inr hs), hs]
            simp only [Bool.not_false, if_true]
            refine ⟨trivial, ?_⟩
            rw [List.nodup_append] at hn ⊢
            refine ⟨hn.1, ?_, fun a ha b hb => hn.2.2 a ha b (List.mem_append_right _ hb)⟩
            exact (List.nodup_append.1 hn.2.1).2.1
      · simp only [Bool.not_eq_true] at ht
        rw [if_neg (by simp [ht]), ht]
        simp only [Bool.false_and, Bool.false_eq_true, if_false]
        rw [pickS_away ht] at hn
        exact ⟨trivial, by simpa using hn⟩
    match k, h with
    | 0, h => simp at h; subst h; unfold repL; simp only [List.getElem?_cons_zero]; rw [hq.1]
    | k + 1, h =>
      unfold repL
      simp only [List.getElem?_cons_succ]
      exact repL_once v all r _ hq.2 k p (by simpa using h)

theorem map_ext_get {α β : Type} {f : α → β} {l r : List α} (hl : r.length = l.length) (h : ∀ (k : Nat) x y, l[k]? = some x → r[k]? = some y → f y = f x) : r.map f = l.map f := by
  apply List.ext_getElem (by simpa using hl)
  intro i h1 h2
  simp only [List.length_map] at h1 h2
  rw [List.getElem_map, List.getElem_map]
  exact h i _ _ (List.getElem?_eq_getElem h2) (List.getElem?_eq_getElem h1)
theorem numsS_congr {v : Int} {ps qs : List Pr} (h : qs.map (fun p => (pickS v p).map (·.1)) = ps.map (fun p => (pickS v p).map (·.1))) : numsS v qs = numsS v ps := by
  have e : ∀ l : List Pr, numsS v l = (l.map fun p => (pickS v p).map (·.1)).filterMap id := fun l => by
    unfold numsS; rw [List.filterMap_map]; rfl
  rw [e, e, h]
section
variable {m : Me} {data pr : List Int} {n o : Nat} {qs : List Pr} {cs : List Int}
/-- Behind a save the new version is whole. -/
theorem SavedTo.whole (h : SavedTo m data pr n o qs cs) : Whole (m.1.length : Int) n o (rowsN n data.length) data qs := by
  have hpick : ∀ (k : Nat) q s, qs[k]? = some q → pickS (m.1.length : Int) q = some s → ∃ j, j < o ∧ cs[j]? = some (k : Int) ∧ s = shareL n data (rowsN n data.length) j := by
    intro k q s hk hs
    obtain ⟨_, x, _, _, rfl, hx⟩ := pickS_some hs
    obtain ⟨j, h1, h2, rfl, _⟩ := h.kept hk hx
    exact ⟨j, h1, h2, rfl⟩
  refine ⟨fun q hq s hs => ?_, ?_, fun j hj => ?_⟩
  · obtain ⟨k, hk⟩ := List.getElem?_of_mem hq
    obtain ⟨j, h1, _, h2⟩ := hpick k q s hk hs
    exact ⟨j, h1, h2⟩
  · rw [numsS_map]
    exact filterMap_nodup (fun i j x y s t hij hx hy hs ht e => by
      obtain ⟨a, _, h1, rfl⟩ := hpick i x s hx hs
      obtain ⟨c, _, h2, rfl⟩ := hpick j y t hy ht
      simp only [shareL] at e
      obtain rfl : a = c := by omega
      rw [h1] at h2
      simp only [Option.some.injEq] at h2
      omega)
  · obtain ⟨k, q, _, h2, h3, h4⟩ := h.given hj
    exact mem_numsS.2 ⟨q, List.mem_of_getElem? h2, _, pickS_there h3 h4, rfl⟩
/-- What is known of who is bent. -/
structure Want (v : Int) (n o : Nat) (want : List Int) (qs : List Pr) : Prop where
  each : ∀ c ∈ want, ∃ (k : Nat) (q : Pr) (x : Kp), c = (k : Int) ∧ qs[k]? = some q ∧ keptAt v q.2.2 = some x
  once : want.Nodup
  few : 2 * want.length ≤ o - n
theorem Want.nil (v : Int) (n o : Nat) (qs : List Pr) : Want v n o [] qs := ⟨by simp, List.nodup_nil, by simp⟩
variable {d : Int} {want : List Int} {zs : List Pr}
theorem BentTo.get {v : Int} (hz : BentTo v d want qs zs) {k : Nat} {z : Pr} (h : zs[k]? = some z) : ∃ q, qs[k]? = some q ∧ z = if (k : Int) ∈ want then bendP v d q else q := by
  have hl := (List.getElem?_eq_some_iff.1 h).1
  have hq : qs[k]? = some (qs[k]'(by have := hz.len; omega)) := List.getElem?_eq_getElem (by have := hz.len; omega)
  refine ⟨_, hq, ?_⟩
  have := hz.each k _ hq
  rw [h] at this
  simpa using this
theorem BentTo.nums {v : Int} (hz : BentTo v d want qs zs) : numsS v zs = numsS v qs := by
  refine numsS_congr (map_ext_get hz.len fun k q z hq hk => ?_)
  obtain ⟨q', h1, rfl⟩ := hz.get hk
  rw [hq] at h1
  cases h1
  split
  · rw [pickS_bend]
    cases pickS v q <;> rfl
  · rfl
theorem BentTo.place {b : List Ver} {v : Int} (hz : BentTo v d want qs zs) (h : placeV b qs = 0) : placeV b zs = 0 := by
  obtain ⟨h1, h2, h3⟩ := placeV_ok.1 h
  refine placeV_ok.2 ⟨h1, by rw [hz.len]; exact h2, fun z hm => ?_⟩
  obtain ⟨k, hk⟩ := List.getElem?_of_mem hm
  obtain ⟨q, hq, rfl⟩ := hz.get hk
  have := h3 q (List.mem_of_getElem? hq)
  split
  · exact bend_peer this
  · exact this
/-- Who is to blame: who is bent. -/
theorem SavedTo.blame (h : SavedTo m data pr n o qs cs) (hd : 0 < d) (hd2 : d < 31) (hw : Want (m.1.length : Int) n o want qs) (hz : BentTo (m.1.length : Int) d want qs zs) {k : Nat} {z : Pr} (hk : zs[k]? = some z) :
    blameB (m.1.length : Int) (sharesL n data o (rowsN n data.length)) z = true ↔ (k : Int) ∈ want := by
  have hW := h.whole
  have hp := (splitE_ok h.split).1
  have hb := planV_bd hp
  obtain ⟨q, hq, e⟩ := hz.get hk
  by_cases hin : (k : Int) ∈ want
  · rw [if_pos hin] at e
    subst e
    refine ⟨fun _ => hin, fun _ => ?_⟩
    obtain ⟨k', q', x, e1, hq', hx⟩ := hw.each _ hin
    obtain rfl : k = k' := by omega
    rw [hq] at hq'
    cases hq'
    obtain ⟨j, hj, _, rfl, ht⟩ := h.kept hq hx
    unfold blameB bendP
    simp only [ht, Bool.true_and]
    rw [keptAt_bend, hx]
    simp only [Option.map_some, bendK]
    rw [Bool.not_eq_true', Bool.eq_false_iff]
    intro hs
    rw [sameS_iff] at hs
    simp only [shareL, Int.toNat_natCast] at hs
    rw [sharesL_get _ _ _ hj] at hs
    simp only [shareL, Option.some.injEq, Prod.mk.injEq, true_and] at hs
    refine bendN_ne hd hd2 ?_ ?_ hs.symm
    · have : rowsN n data.length ≠ 0 := by
        unfold rowsN
        rcases (by omega : n = 1 ∨ n = 2 ∨ n = 3 ∨ n = 4) with rfl | rfl | rfl | rfl <;> omega
      simp; omega
    · intro y hy
      obtain ⟨i, _, rfl⟩ := List.mem_map.1 hy
      exact partV_bd _ _ _ _
  · rw [if_neg hin] at e
    subst e
    rw [hW.clean z (List.mem_of_getElem? hq)]
    simp [hin]
theorem SavedTo.blamed (h : SavedTo m data pr n o qs cs) (hd : 0 < d) (hd2 : d < 31) (hw : Want (m.1.length : Int) n o want qs) (hz : BentTo (m.1.length : Int) d want qs zs) :
    (∀ c, c ∈ blameF (m.1.length : Int) (sharesL n data o (rowsN n data.length)) zs zs.length ↔ c ∈ want) ∧ (blameF (m.1.length : Int) (sharesL n data o (rowsN n data.length)) zs zs.length).Pairwise (· < ·) := by
  unfold blameF
  rw [List.take_length]
  refine ⟨fun c => ?_, (idxF_sorted _ _ _).1⟩
  rw [mem_idxF]
  constructor
  · rintro ⟨i, z, rfl, hi, hb⟩
    rw [Nat.zero_add]
    exact (h.blame hd hd2 hw hz hi).1 hb
  · intro hc
    obtain ⟨k, q, x, rfl, hq, _⟩ := hw.each c hc
    have hzk := hz.each k q hq
    exact ⟨k, _, by simp, hzk, (h.blame hd hd2 hw hz hzk).2 hc⟩
/-- WHAT WAS SAVED IS RESTORED, and who is bent is to blame. -/
theorem SavedTo.finds (h : SavedTo m data pr n o qs cs) (hd : 0 < d) (hd2 : d < 31) (hw : Want (m.1.length : Int) n o want qs) (hz : BentTo (m.1.length : Int) d want qs zs) :
    restE (m.1 ++ [newV data pr n o], zs) (m.1.length : Int) = 0 ∧ restB (m.1 ++ [newV data pr n o], zs) (m.1.length : Int) = data ∧ lackV (m.1 ++ [newV data pr n o], zs) (m.1.length : Int) = 0 ∧
      blamedE (m.1 ++ [newV data pr n o], zs) (m.1.length : Int) = 0 ∧ (∀ c, c ∈ blamedC (m.1 ++ [newV data pr n o], zs) (m.1.length : Int) ↔ c ∈ want) ∧ (blamedC (m.1 ++ [newV data pr n o], zs) (m.1.length : Int)).Pairwise (· < ·) := by
  have hW := h.whole
  obtain ⟨hp, _, hv⟩ := splitE_ok h.split
  have hb := planV_bd hp
  have hpl : placeV (m.1 ++ [newV data pr n o]) zs = 0 := hz.place h.right
  obtain ⟨hB, hBs⟩ := h.blamed hd hd2 hw hz
  obtain ⟨r1, r2, r3⟩ := restE_get hpl h.ver
  have hnd : ((zs.filterMap (pickS (m.1.length : Int))).map (·.1)).Nodup := by
    rw [← numsS_map, hz.nums]; exact hW.once
  have hsh := sharesM_all hnd
  have hlen : (sharesM (m.1.length : Int) zs).length = o := by
    rw [hsh, ← List.length_map (f := (·.1)), ← numsS_map, hz.nums, numsS_map, List.length_map, ← hW.shares, hW.len]
  obtain ⟨_, hc1, hc2, hc3⟩ := sharesM_checks hpl h.ver
  have hR : Right n o data.length (sharesM (m.1.length : Int) zs) := right_of hp (by omega) (by omega) hc1
  have hcount : (sharesM (m.1.length : Int) zs).length - (sharesM (m.1.length : Int) zs).countP (ofD n (rowsN n data.length) data) ≤ want.length := by
    have h1 := List.length_eq_countP_add_countP (ofD n (rowsN n data.length) data) (l := sharesM (m.1.length : Int) zs)
    have h2 : (sharesM (m.1.length : Int) zs).countP (fun a => decide (¬ ofD n (rowsN n data.length) data a = true)) ≤ zs.countP (blameB (m.1.length : Int) (sharesL n data o (rowsN n data.length))) := by
      rw [hsh, List.countP_filterMap]
      apply List.countP_mono_left
      intro z _ hx
      cases hs : pickS (m.1.length : Int) z with
      | none => rw [hs] at hx; simp at hx
      | some s =>
        rw [hs] at hx
        simp only [Option.map_some, Option.getD_some, decide_eq_true_eq] at hx
        obtain ⟨ht, x, _, _, rfl, hk⟩ := pickS_some hs
        unfold blameB
        rw [ht, hk]
        simp only [Bool.true_and, Bool.not_eq_true', Bool.eq_false_iff]
        intro hsame
        rw [sameS_iff] at hsame
        have hlt := (List.getElem?_eq_some_iff.1 hsame).1
        rw [sharesL_len] at hlt
        rw [sharesL_get _ _ _ hlt] at hsame
        simp only [Option.some.injEq] at hsame
        refine hx ((ofD_iff ?_).2 hsame.symm)
        rw [← hsame]
        simp only [shareL]
        omega
    have h3 : zs.countP (blameB (m.1.length : Int) (sharesL n data o (rowsN n data.length))) ≤ want.length := by
      have := len_le_of (hBs.imp (fun h => by omega)) hw.once (fun c hc => (hB c).1 hc)
      unfold blameF at this
      rwa [List.take_length, idxF_len] at this
    omega
  have hfew := hw.few
  have hdec := decode hR rfl hv (by omega)
  obtain ⟨g1, g2, g3⟩ := most_of hR hdec (by omega)
  have e1 := r1.trans g1
  have e2 := r2.trans g2
  have hpa : planAt (m.1 ++ [newV data pr n o], zs).1 (m.1.length : Int) = ((n : Int), (o : Int), (data.length : Int)) := planAt_get h.ver
  have e4 : blamedE (m.1 ++ [newV data pr n o], zs) (m.1.length : Int) = 0 := by unfold blamedE; rw [if_neg (by simpa using e1), hpa, e2]; exact h.split
  have e5 : blamedC (m.1 ++ [newV data pr n o], zs) (m.1.length : Int) = blameF (m.1.length : Int) (sharesL n data o (rowsN n data.length)) zs zs.length := by
    unfold blamedC
    rw [if_pos e4, hpa, e2, splitL_ok h.split]
  refine ⟨e1, e2, ?_, e4, by rw [e5]; exact hB, by rw [e5]; exact hBs⟩
  rw [lackV_eq (restE_ready e1), hpa]
  simp only
  rw [hlen]
  omega
/-- ... and a repair makes it whole again. -/
theorem SavedTo.mends (h : SavedTo m data pr n o qs cs) (hd : 0 < d) (hd2 : d < 31) (hw : Want (m.1.length : Int) n o want qs) (hz : BentTo (m.1.length : Int) d want qs zs) :
    repairE (m.1 ++ [newV data pr n o], zs) (m.1.length : Int) = 0 ∧ ∃ ys, repairC (m.1 ++ [newV data pr n o], zs) (m.1.length : Int) = (m.1 ++ [newV data pr n o], ys) ∧ placeV (m.1 ++ [newV data pr n o]) ys = 0 ∧
      blamedE (m.1 ++ [newV data pr n o], ys) (m.1.length : Int) = 0 ∧ blamedC (m.1 ++ [newV data pr n o], ys) (m.1.length : Int) = [] := by
  have hW := h.whole
  obtain ⟨hp, _, hv⟩ := splitE_ok h.split
  have hb := planV_bd hp
  have hpl : placeV (m.1 ++ [newV data pr n o]) zs = 0 := hz.place h.right
  obtain ⟨e1, e2, _, _, _, _⟩ := h.finds hd hd2 hw hz
  have hpa : planAt (m.1 ++ [newV data pr n o], zs).1 (m.1.length : Int) = ((n : Int), (o : Int), (data.length : Int)) := planAt_get h.ver
  have hre : repairE (m.1 ++ [newV data pr n o], zs) (m.1.length : Int) = 0 := by
    obtain ⟨a1, _⟩ := repair_put (m := (m.1 ++ [newV data pr n o], zs)) (v := (m.1.length : Int)) (x := (pr, (n : Int), (o : Int), (data.length : Int))) e1 hpa (by rw [e2]; exact h.split) rfl
    rw [a1, e2]
    simp only
    rw [splitL_ok h.split]
    have hon := repL_once (m.1.length : Int) (sharesL n data o (rowsN n data.length)) zs [] (by rw [List.nil_append, hz.nums]; exact hW.once)
    obtain ⟨q1, q2, q3, q4⟩ := repL_spec (m.1.length : Int) (sharesL n data o (rowsN n data.length)) zs [] List.nodup_nil
    have hlr := repL_len (m.1.length : Int) (sharesL n data o (rowsN n data.length)) zs []
    have hpr := rep_place (v := (m.1.length : Int)) (all := sharesL n data o (rowsN n data.length)) hpl
    generalize (repL (m.1.length : Int) (sharesL n data o (rowsN n data.length)) zs []).1 = rs at *
    generalize (repL (m.1.length : Int) (sharesL n data o (rowsN n data.length)) zs []).2 = hv' at *
    rw [List.nil_append] at q2
    have hm : ∀ s ∈ missL (sharesL n data o (rowsN n data.length)) hv', s.1 ∉ hv' ∧ ∃ j, j < o ∧ s = shareL n data (rowsN n data.length) j := by
      intro s hs
      unfold missL at hs
      obtain ⟨s1, s2⟩ := List.mem_filter.1 hs
      obtain ⟨j, hj⟩ := List.getElem?_of_mem s1
      have hjo := (List.getElem?_eq_some_iff.1 hj).1
      rw [sharesL_len] at hjo
      rw [sharesL_get _ _ _ hjo] at hj
      cases hj
      exact ⟨by simpa using s2, j, hjo, rfl⟩
    have hcm : cs.length = o := by have := h.put.many; rw [sharesL_len] at this; exact this
    have hmw : (missL (sharesL n data o (rowsN n data.length)) hv').length ≤ want.length := by
      have hnd : ((missL (sharesL n data o (rowsN n data.length)) hv').map (fun s => cs.getD s.1.toNat 0)).Nodup := by
        have hsl : ((missL (sharesL n data o (rowsN n data.length)) hv').map (·.1)).Nodup := by
          refine List.Nodup.sublist (List.Sublist.map _ List.filter_sublist) ?_
          unfold sharesL
          rw [List.map_map]
          have : ((·.1) ∘ shareL n data (rowsN n data.length)) = fun (j : Nat) => (j : Int) := by funext j; rfl
          rw [this]
          exact numsL_nodup o
        rw [List.Nodup, List.pairwise_map] at hsl ⊢
        refine List.Pairwise.imp_of_mem ?_ hsl
        intro s t hs ht hne e
        obtain ⟨_, i, hi, rfl⟩ := hm s hs
        obtain ⟨_, j, hj, rfl⟩ := hm t ht
        simp only [shareL, Int.toNat_natCast] at e hne
        rw [List.getD_eq_getElem?_getD, List.getD_eq_getElem?_getD, List.getElem?_eq_getElem (by omega), List.getElem?_eq_getElem (by omega)] at e
        simp only [Option.getD_some] at e
        have := (List.getElem_inj h.put.nodup).1 e
        omega
      have := len_le_of hnd hw.once (fun c hc => by
        obtain ⟨s, hs, rfl⟩ := List.mem_map.1 hc
        obtain ⟨hnot, j, hj, rfl⟩ := hm s hs
        obtain ⟨k, q, g1, g2, g3, g4⟩ := h.given hj
        simp only [shareL, Int.toNat_natCast]
        rw [List.getD_eq_getElem?_getD, g1, Option.getD_some]
        by_cases hin : (k : Int) ∈ want
        · exact hin
        · have hzk := hz.each k q g2
          rw [if_neg hin] at hzk
          have hrk := hon k q hzk
          rw [hW.clean q (List.mem_of_getElem? g2), if_neg (by simp)] at hrk
          exfalso
          apply hnot
          rw [q2]
          exact mem_numsS.2 ⟨q, List.mem_of_getElem? hrk, _, pickS_there g3 g4, rfl⟩)
      rwa [List.length_map] at this
    have hwc : want.length ≤ (candL (m.1.length : Int) rs rs.length).length := by
      refine len_le_of hw.once ((candL_sorted _ _ _).imp (fun h => by omega)) (fun c hc => ?_)
      obtain ⟨k, q, x, rfl, hq, hx⟩ := hw.each c hc
      have hzk := hz.each k q hq
      rw [if_pos hc] at hzk
      have hrk := hon k _ hzk
      rw [if_pos ((h.blame hd hd2 hw hz hzk).2 hc)] at hrk
      rw [mem_candL]
      refine ⟨⟨by omega, by have := (List.getElem?_eq_some_iff.1 hrk).1; omega⟩, ?_⟩
      rw [canAt_get hrk]
      obtain ⟨_, _, _, _, ht⟩ := h.kept hq hx
      have hfew' := ((placeV_ok.1 hpl).2.2 _ (List.mem_of_getElem? hzk)).few
      have hmem : x ∈ q.2.2 := List.mem_of_find?_eq_some hx
      have hxv : x.1 = (m.1.length : Int) := by simpa using List.find?_some hx
      have hlt : (dropK (m.1.length : Int) (bendP (m.1.length : Int) d q).2.2).length < (bendP (m.1.length : Int) d q).2.2.length := by
        unfold dropK
        rw [List.length_filter_lt_length_iff_exists]
        exact ⟨bendK d x, List.mem_map.2 ⟨x, hmem, by rw [if_pos hxv]⟩, by simp [bendK, hxv]⟩
      have hno : findV (m.1.length : Int) (dropK (m.1.length : Int) (bendP (m.1.length : Int) d q).2.2) 0 = -1 := findV_none _ _ _ (fun y hy => by
        unfold dropK at hy
        simpa using (List.mem_filter.1 hy).2)
      have hr2 : (bendP (m.1.length : Int) d q).1 = true := ht
      unfold canV
      simp only [hno, hr2, Bool.true_and]
      rw [Bool.and_eq_true, decide_eq_true_eq]
      exact ⟨by omega, by decide⟩
    have hfew := hw.few
    refine put_can (m := (m.1 ++ [newV data pr n o], rs)) hpr (by omega) (by simp only [List.length_append, List.length_cons, List.length_nil]; omega) (fun s hs => ?_) (by omega) (by simp only; omega)
    simp only
    rw [planAt_get h.ver]
    obtain ⟨_, j, hj, rfl⟩ := hm s hs
    refine oneV_zero hp (by simp [shareL]) (by simp only [shareL]; omega) (shareL_len _ _ _ _) (fun z hz => ?_)
    obtain ⟨i, _, rfl⟩ := List.mem_map.1 hz
    exact partV_bd _ _ _ _
  refine ⟨hre, ?_⟩
  obtain ⟨pr', n', o', s', D, ys, c1, c2, _, _, _, c3, c4, c5, _⟩ := repair_zero hre
  obtain ⟨_, _, _, b1, b2, _, _⟩ := whole_audit c4 c1 c2 c5
  exact ⟨ys, c3, c4, b1, b2⟩
theorem sortV_rise {l : List Int} (h : l.Nodup) : (sortV l).Pairwise (· < ·) := by
  have h1 : (sortV l).Pairwise (fun x y => decide (x ≤ y) = true) := List.pairwise_mergeSort (fun a b c h1 h2 => by simp only [decide_eq_true_eq] at *; omega) (fun a b => by simp only [Bool.or_eq_true, decide_eq_true_eq]; omega) l
  have h2 : (sortV l).Nodup := (sortV_perm l).nodup_iff.2 h
  exact (h1.and h2).imp (fun h => by have h3 := h.1; have h4 := h.2; simp only [decide_eq_true_eq] at h3; omega)
theorem Want.more {v : Int} (h : Want v n o want qs) {k : Nat} {q : Pr} {x : Kp} (hq : qs[k]? = some q) (hx : keptAt v q.2.2 = some x) (hk : (k : Int) ∉ want) (hl : want.length ≠ (o - n) / 2) : Want v n o (want ++ [(k : Int)]) qs := by
  refine ⟨fun c hc => ?_, ?_, ?_⟩
  · rcases List.mem_append.1 hc with hc | hc
    · exact h.each c hc
    · rw [List.mem_singleton] at hc
      exact ⟨k, q, x, hc, hq, hx⟩
  · rw [List.nodup_append]
    refine ⟨h.once, by simp, fun a ha b hb e => ?_⟩
    rw [List.mem_singleton] at hb
    subst hb
    subst e
    exact hk ha
  · have := h.few
    simp only [List.length_append, List.length_cons, List.length_nil]
    omega
/-- One more is bent. -/
theorem SavedTo.step (h : SavedTo m data pr n o qs cs) (hw : Want (m.1.length : Int) n o want qs) (hz : BentTo (m.1.length : Int) d want qs zs) {k : Nat} {z : Pr} (hk : zs[k]? = some z) {mm : Nat} {y : Kp} (hy : z.2.2[mm]? = some y) (hv : y.1 = (m.1.length : Int)) (hkept : keptAt (m.1.length : Int) z.2.2 = some y) (hn : (k : Int) ∉ want) (hl : want.length ≠ (o - n) / 2) :
    ∃ v0, y.2.2[0]? = some v0 ∧ 0 ≤ v0 ∧ v0 < 31 ∧ Want (m.1.length : Int) n o (want ++ [(k : Int)]) qs ∧ BentTo (m.1.length : Int) d (want ++ [(k : Int)]) qs (zs.set k (z.1, z.2.1, z.2.2.set mm (y.1, y.2.1, y.2.2.set 0 ((v0 + d) % 31)))) := by
  have hb := planV_bd (splitE_ok h.split).1
  obtain ⟨q, hq, e⟩ := hz.get hk
  rw [if_neg hn] at e
  subst e
  obtain ⟨j, hj, _, rfl, ht⟩ := h.kept hq hkept
  have h0 : (shareL n data (rowsN n data.length) j).2[0]? = some (partV n data j 0) := shareL_get n data j (by
    have : rowsN n data.length ≠ 0 := by
      unfold rowsN
      rcases (by omega : n = 1 ∨ n = 2 ∨ n = 3 ∨ n = 4) with rfl | rfl | rfl | rfl <;> omega
    omega)
  have hbd := partV_bd n data j 0
  refine ⟨_, h0, hbd.1, hbd.2, hw.more hq hkept hn hl, ?_⟩
  have hmore := hz.more hq hn
  have hrise := ((placeV_ok.1 h.right).2.2 z (List.mem_of_getElem? hq)).rise
  have hbend := bend_at (d := d) hrise hy hv
  have hbk : bendK d ((m.1.length : Int), shareL n data (rowsN n data.length) j) = ((m.1.length : Int), (shareL n data (rowsN n data.length) j).1, (shareL n data (rowsN n data.length) j).2.set 0 ((partV n data j 0 + d) % 31)) := by
    unfold bendK bendN
    simp only
    rw [List.getD_eq_getElem?_getD, h0]
    rfl
  rw [hbk] at hbend
  rw [hbend]
  exact hmore
/-- What audits say at the end, and behind a repair. -/
theorem SavedTo.audit (h : SavedTo m data pr n o qs cs) (hd : 0 < d) (hd2 : d < 31) (hw : Want (m.1.length : Int) n o want qs) (hz : BentTo (m.1.length : Int) d want qs zs) :
    lackV (m.1 ++ [newV data pr n o], zs) (m.1.length : Int) = 0 ∧ readyE (m.1 ++ [newV data pr n o], zs) (m.1.length : Int) = 0 ∧ blamedE (m.1 ++ [newV data pr n o], zs) (m.1.length : Int) = 0 ∧ blamedC (m.1 ++ [newV data pr n o], zs) (m.1.length : Int) = sortV want ∧
      repairE (m.1 ++ [newV data pr n o], zs) (m.1.length : Int) = 0 ∧ ∃ ys, repairC (m.1 ++ [newV data pr n o], zs) (m.1.length : Int) = (m.1 ++ [newV data pr n o], ys) ∧ blamedE (m.1 ++ [newV data pr n o], ys) (m.1.length : Int) = 0 ∧ blamedC (m.1 ++ [newV data pr n o], ys) (m.1.length : Int) = [] := by
  obtain ⟨e1, _, e3, e4, e5, e6⟩ := h.finds hd hd2 hw hz
  obtain ⟨f1, ys, f2, _, f3, f4⟩ := h.mends hd hd2 hw hz
  exact ⟨e3, restE_ready e1, e4, sorted_ext e6 (sortV_rise hw.once) (fun z => by rw [e5, (sortV_perm want).mem_iff]), f1, ys, f2, f3, f4⟩
end
end Go.Proofs.YtnpdojjffbhalaaGreat
