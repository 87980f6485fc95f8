/-
  The plain laws of a mesh: what is there of a version; who was given what.
  The plain laws of a save: what was saved is there, each share at another peer; elder versions are as they were.
  What an audit answers, in plain Lean: who is to blame, how many shares lack, how many are to spare.
-/
import Derived.Test.YtnidbghgadnjeaaGreatDeeps
import Derived.Test.YtnidbghgadnjeaaGreatVotes
import Derived.Test.YtnidbghgadnjeaaGreatMends
import Derived.Test.YtnidbghgadnjeaaGreatSaves
import Derived.Test.YtnidbghgadnjeaaGreatTries
namespace Go.Proofs.YtnidbghgadnjeaaGreat

/-! ### What is there -/
theorem sharesM_map (v : Int) (ps : List Pr) : sharesM v ps = (ps.map (pickS v)).foldl addS [] := by
  unfold sharesM
  rw [List.foldl_map]
theorem addS_mem {l : List Sh} {o : Option Sh} {s : Sh} (h : s ∈ addS l o) : s ∈ l ∨ o = some s := by
  unfold addS at h
  split at h
  · exact Or.inl h
  · split at h
    · exact Or.inl h
    · rcases List.mem_append.1 h with h | h
      · exact Or.inl h
      · rw [List.mem_singleton.1 h]; exact Or.inr rfl
theorem addS_nodup {l : List Sh} {o : Option Sh} (h : (l.map (·.1)).Nodup) : ((addS l o).map (·.1)).Nodup := by
  unfold addS
  split
  · exact h
  · rename_i s
    split
    · exact h
    · rename_i hn
      rw [List.map_append, List.nodup_append]
      refine ⟨h, by simp, fun a ha b hb e => ?_⟩
      simp at hb
      subst hb
      apply hn
      obtain ⟨t, ht, rfl⟩ := List.mem_map.1 ha
      exact List.any_eq_true.2 ⟨t, ht, by simp [e]⟩
theorem foldS_nodup (os : List (Option Sh)) : ∀ (l : List Sh), (l.map (·.1)).Nodup → ((os.foldl addS l).map (·.1)).Nodup := by
  induction os with
  | nil => exact fun l h => h
  | cons o os ih => exact fun l h => ih _ (addS_nodup h)
theorem foldS_mem {s : Sh} (os : List (Option Sh)) : ∀ (l : List Sh), s ∈ os.foldl addS l → s ∈ l ∨ some s ∈ os := by
  induction os with
  | nil => exact fun l h => Or.inl h
  | cons o os ih =>
    intro l h
    rcases ih _ h with h | h
    · rcases addS_mem h with h | h
      · exact Or.inl h
      · exact Or.inr (by simp [h])
    · exact Or.inr (by simp [h])
theorem sharesM_nodup (v : Int) (ps : List Pr) : ((sharesM v ps).map (·.1)).Nodup := by
  rw [sharesM_map]
  exact foldS_nodup _ [] (by simp)
theorem sharesM_mem {v : Int} {ps : List Pr} {s : Sh} (h : s ∈ sharesM v ps) : ∃ p ∈ ps, pickS v p = some s := by
  rw [sharesM_map] at h
  rcases foldS_mem _ _ h with h | h
  · simp at h
  · simpa using h
/-- Where no two have one share, all of them are there. -/
theorem foldS_all (os : List (Option Sh)) : ∀ (l : List Sh), ((l ++ os.filterMap id).map (·.1)).Nodup → os.foldl addS l = l ++ os.filterMap id := by
  induction os with
  | nil => intro l _; simp
  | cons o os ih =>
    intro l h
    cases o with
    | none =>
      have := ih l (by simpa using h)
      simpa [addS] using this
    | some s =>
      have hn : l.any (fun t => decide (t.1 = s.1)) = false := by
        rw [List.any_eq_false]
        intro t ht he
        simp only [decide_eq_true_eq] at he
        simp only [List.filterMap_cons, id, List.map_append, List.map_cons, List.nodup_append] at h
        exact h.2.2 t.1 (List.mem_map.2 ⟨t, ht, rfl⟩) s.1 (by simp) he
      have ha : addS l (some s) = l ++ [s] := by unfold addS; simp [hn]
      rw [List.foldl_cons, ha, ih _ (by simpa using h)]
      simp
theorem sharesM_all {v : Int} {ps : List Pr} (h : ((ps.filterMap (pickS v)).map (·.1)).Nodup) : sharesM v ps = ps.filterMap (pickS v) := by
  have e : (ps.map (pickS v)).filterMap id = ps.filterMap (pickS v) := by rw [List.filterMap_map]; rfl
  rw [sharesM_map, foldS_all _ [] (by rw [List.nil_append, e]; exact h), e]
  simp
theorem pickS_some {v : Int} {p : Pr} {s : Sh} (h : pickS v p = some s) : p.1 = true ∧ ∃ x ∈ p.2.2, x.1 = v ∧ x.2 = s ∧ keptAt v p.2.2 = some x := by
  unfold pickS at h
  split at h
  · rename_i ht
    refine ⟨ht, ?_⟩
    cases hk : keptAt v p.2.2 with
    | none => rw [hk] at h; simp at h
    | some x =>
      rw [hk] at h
      simp at h
      have h1 := List.mem_of_find?_eq_some hk
      have h2 := List.find?_some hk
      exact ⟨x, h1, by simpa using h2, h, rfl⟩
  · cases h
theorem pickS_away {v : Int} {p : Pr} (h : p.1 = false) : pickS v p = none := by unfold pickS; simp [h]
theorem pickS_there {v : Int} {p : Pr} {x : Kp} (h : p.1 = true) (hx : keptAt v p.2.2 = some x) : pickS v p = some x.2 := by unfold pickS; simp [h, hx]
/-- What is there of a version of a right mesh is right. -/
theorem sharesM_one {b : List Ver} {ps : List Pr} {v : Int} (h : placeV b ps = 0) {s : Sh} (hs : s ∈ sharesM v ps) : oneV (planAt b v).1 (planAt b v).2.1 (planAt b v).2.2 s.1 s.2 = 0 := by
  obtain ⟨p, hp, h1⟩ := sharesM_mem hs
  obtain ⟨_, x, hx, rfl, rfl, _⟩ := pickS_some h1
  exact ((placeV_ok.1 h).2.2 p hp).each x hx |>.2.2
theorem planAt_get {b : List Ver} {k : Nat} {x : Ver} (h : b[k]? = some x) : planAt b (k : Int) = x.2 := by unfold planAt; simp [h]
theorem checkL_nodup {n o s : Int} : ∀ {r seen : List Sh}, (∀ t ∈ r, oneV n o s t.1 t.2 = 0) → ((seen ++ r).map (·.1)).Nodup → checkL n o s seen r = 0
  | [], _, _, _ => rfl
  | t :: r, seen, h1, h2 => by
    unfold checkL
    rw [if_neg (by simpa using h1 t (by simp)), if_neg, checkL_nodup (fun u hu => h1 u (by simp [hu])) (by simpa using h2)]
    intro h
    obtain ⟨u, hu, e⟩ := (hasN_iff _ _).1 h
    simp only [List.map_append, List.map_cons, List.nodup_append] at h2
    exact h2.2.2 u.1 (List.mem_map.2 ⟨u, hu, rfl⟩) t.1 (by simp) e
/-- Of a version of a right mesh: what may be wrong is that there is too little. -/
theorem sharesM_checks {b : List Ver} {ps : List Pr} {k : Nat} {x : Ver} (h : placeV b ps = 0) (hx : b[k]? = some x) :
    planV x.2.1 x.2.2.1 x.2.2.2 = 0 ∧ checkL x.2.1 x.2.2.1 x.2.2.2 [] (sharesM (k : Int) ps) = 0 ∧ (sharesM (k : Int) ps).length ≤ 8 ∧ checksL x.2.1 x.2.2.1 x.2.2.2 (sharesM (k : Int) ps) = if ((sharesM (k : Int) ps).length : Int) < x.2.1 then 7 else 0 := by
  obtain ⟨h1, h2, h3⟩ := placeV_ok.1 h
  have hp := (bookV_ok.1 h1).plan k x hx
  have hc : checkL x.2.1 x.2.2.1 x.2.2.2 [] (sharesM (k : Int) ps) = 0 := checkL_nodup (fun t ht => by
    have := sharesM_one h ht
    rwa [planAt_get hx] at this) (by simpa using sharesM_nodup _ _)
  have hl := sharesM_len (k : Int) ps
  refine ⟨hp, hc, by omega, ?_⟩
  unfold checksL
  rw [if_neg (by simpa using hp), if_neg (by omega), if_neg (by simpa using hc)]
theorem restE_get {b : List Ver} {ps : List Pr} {k : Nat} {x : Ver} (h : placeV b ps = 0) (hx : b[k]? = some x) :
    restE (b, ps) (k : Int) = mostE x.2.1 x.2.2.1 x.2.2.2 (sharesM (k : Int) ps) ∧ restB (b, ps) (k : Int) = mostB x.2.1 x.2.2.1 x.2.2.2 (sharesM (k : Int) ps) ∧ restW (b, ps) (k : Int) = mostW x.2.1 x.2.2.1 x.2.2.2 (sharesM (k : Int) ps) := by
  have hk := (List.getElem?_eq_some_iff.1 hx).1
  have h0 : readyE (b, ps) (k : Int) = 0 := by
    unfold readyE
    rw [if_neg (by simpa using (show meshV (b, ps) = 0 from h)), if_neg (by simp only; omega)]
  unfold restE restB restW
  rw [if_neg (by simpa using h0), if_neg (by simpa using h0), if_neg (by simpa using h0)]
  rw [show planAt (b, ps).1 (k : Int) = x.2 from planAt_get hx]
  exact ⟨rfl, rfl, rfl⟩
/-- Too little is there. -/
theorem rest_short {b : List Ver} {ps : List Pr} {k : Nat} {x : Ver} (h : placeV b ps = 0) (hx : b[k]? = some x) (hl : ((sharesM (k : Int) ps).length : Int) < x.2.1) : restE (b, ps) (k : Int) = 7 := by
  obtain ⟨_, _, _, h4⟩ := sharesM_checks h hx
  rw [if_pos hl] at h4
  rw [(restE_get h hx).1, mostE_chk (by rw [h4]; decide), h4]
/-- All that is there is of one content. -/
theorem rest_whole {b : List Ver} {ps : List Pr} {k n o s : Nat} {pr : List Int} {D : List Int} (h : placeV b ps = 0) (hx : b[k]? = some (pr, (n : Int), (o : Int), (s : Int))) (hs : splitE n o s D = 0) (hof : ∀ t ∈ sharesM (k : Int) ps, ∃ j, j < o ∧ t = shareL n D (rowsN n s) j)
    (hl : n ≤ (sharesM (k : Int) ps).length) : restE (b, ps) (k : Int) = 0 ∧ restB (b, ps) (k : Int) = D ∧ restW (b, ps) (k : Int) = [] := by
  obtain ⟨h1, h2, h3⟩ := restE_get h hx
  obtain ⟨p1, p2, p3⟩ := splitE_ok hs
  obtain ⟨g1, g2, g3⟩ := most_whole p1 (by omega) p3 ⟨hof, sharesM_nodup _ _⟩ hl
  exact ⟨h1.trans g1, h2.trans g2, h3.trans g3⟩

/-! ### Who was given what -/
theorem keptAt_keepK {v : Int} {x : Kp} : ∀ {l : List Kp}, (∀ y ∈ l, y.1 ≠ x.1) → keptAt v (keepK x l) = if x.1 = v then some x else keptAt v l
  | [], _ => by
    unfold keepK keptAt
    by_cases h : x.1 = v <;> simp [h]
  | y :: r, h => by
    have hy := h y (by simp)
    have ih := keptAt_keepK (v := v) (x := x) (l := r) (fun z hz => h z (by simp [hz]))
    unfold keptAt at ih ⊢
    unfold keepK
    by_cases hlt : y.1 < x.1
    · rw [if_pos hlt]
      by_cases hv : y.1 = v
      · rw [List.find?_cons_of_pos (by simpa using hv), List.find?_cons_of_pos (by simpa using hv), if_neg (by omega)]
      · rw [List.find?_cons_of_neg (by simpa using hv), List.find?_cons_of_neg (by simpa using hv), ih]
    · rw [if_neg hlt]
      by_cases hxv : x.1 = v
      · rw [List.find?_cons_of_pos (by simpa using hxv), if_pos hxv]
      · rw [List.find?_cons_of_neg (by simpa using hxv), if_neg hxv]
theorem keep_zero {b : List Ver} {p : Pr} {k : Kp} (h : keepE b p k = 0) : PeerOk b p ∧ (∀ y ∈ p.2.2, y.1 ≠ k.1) ∧ PeerOk b (keepQ p k) ∧ (p.2.2.length : Int) < p.2.1 := by
  unfold keepE at h
  by_cases h0 : peerV b p = 0
  · rw [if_neg (by simpa using h0)] at h
    by_cases h1 : (p.2.2.length : Int) = p.2.1
    · rw [if_pos h1] at h; simp at h
    · rw [if_neg h1] at h
      by_cases h2 : 0 ≤ findV k.1 p.2.2 0
      · rw [if_pos h2] at h; simp at h
      · rw [if_neg h2] at h
        have h3 := peerV_ok.1 h0
        have := h3.few
        exact ⟨h3, (findV_neg (k := 0)).1 (by omega), peerV_ok.1 h, by omega⟩
  · rw [if_pos h0] at h
    exact absurd h h0
/-- Who can have a share can keep it. -/
theorem keep_can {b : List Ver} {p : Pr} {v : Int} {s : Sh} (hp : PeerOk b p) (hc : canV v p = true) (h0 : 0 ≤ v) (h1 : v < b.length) (hs : oneV (planAt b v).1 (planAt b v).2.1 (planAt b v).2.2 s.1 s.2 = 0) : keepE b p (v, s) = 0 := by
  simp only [canV, Bool.and_eq_true, decide_eq_true_eq] at hc
  obtain ⟨_, hr, hf⟩ := hc
  have hn := findV_neg.1 hf
  unfold keepE
  rw [if_neg (by simpa using peerV_ok.2 hp), if_neg (by omega), if_neg (by simp only; omega)]
  refine peerV_ok.2 ⟨hp.book, hp.room, ?_, ?_, ?_⟩
  · unfold keepQ
    simp only [keepK_len]
    omega
  · intro x hx
    unfold keepQ at hx
    rcases mem_keepK.1 hx with rfl | hx
    · exact ⟨h0, h1, hs⟩
    · exact hp.each x hx
  · exact keepK_rise hp.rise hn
/-- One by one they are given their shares: each its own, all others as they were. -/
theorem putL_all {b : List Ver} {v : Int} {ss : List Sh} : ∀ (cs : List Int) (i : Nat) (ps : List Pr), cs.Nodup → (∀ c ∈ cs, 0 ≤ c ∧ c < ps.length) → i + cs.length ≤ ss.length → (putL b v ss cs i ps).1 = 0 →
    (putL b v ss cs i ps).2.length = ps.length ∧ (∀ (k : Nat), (k : Int) ∉ cs → (putL b v ss cs i ps).2[k]? = ps[k]?) ∧
    ∀ (j k : Nat) p s, cs[j]? = some (k : Int) → ps[k]? = some p → ss[i + j]? = some s → keepE b p (v, s) = 0 ∧ (putL b v ss cs i ps).2[k]? = some (keepQ p (v, s))
  | [], i, ps, _, _, _, _ => ⟨rfl, fun _ _ => rfl, fun j k p s h => by simp at h⟩
  | c :: cs, i, ps, hn, hr, hl, h => by
    obtain ⟨hc0, hc1⟩ := hr c (by simp)
    obtain ⟨m, rfl⟩ := Int.eq_ofNat_of_zero_le hc0
    have hm : m < ps.length := by omega
    have hpm : ps[m]? = some ps[m] := List.getElem?_eq_getElem hm
    have hi : i < ss.length := by simp at hl; omega
    have hsi : ss[i]? = some ss[i] := List.getElem?_eq_getElem hi
    have hn' := List.nodup_cons.1 hn
    by_cases hk : keepE b ps[m] (v, ss[i]) = 0
    · rw [putL_ok rfl hpm hsi hk, keepC_ok hk] at h ⊢
      obtain ⟨h1, h2, h3⟩ := putL_all cs (i + 1) (ps.set m (keepQ ps[m] (v, ss[i]))) hn'.2 (fun c hc => by rw [List.length_set]; exact hr c (by simp [hc])) (by simp at hl; omega) h
      rw [List.length_set] at h1
      refine ⟨h1, fun k hk' => ?_, fun j k p s hj hp hs => ?_⟩
      · simp only [List.mem_cons, not_or] at hk'
        rw [h2 k hk'.2, List.getElem?_set, if_neg (by intro e; subst e; exact hk'.1 rfl)]
      · match j, hj with
        | 0, hj =>
          simp only [List.getElem?_cons_zero, Option.some.injEq] at hj
          obtain rfl : m = k := by omega
          rw [hpm] at hp
          cases hp
          rw [Nat.add_zero, hsi] at hs
          cases hs
          refine ⟨hk, ?_⟩
          rw [h2 m (fun hm' => hn'.1 hm'), List.getElem?_set, if_pos rfl, if_pos hm]
        | j + 1, hj =>
          have hj' : cs[j]? = some (k : Int) := by simpa using hj
          have hmk : m ≠ k := by intro e; subst e; exact hn'.1 (List.mem_of_getElem? hj')
          exact h3 j k p s hj' (by rw [List.getElem?_set, if_neg hmk]; exact hp) (by rw [show i + 1 + j = i + (j + 1) by omega]; exact hs)
    · rw [putL_no rfl hpm hsi hk] at h
      exact absurd h hk
theorem gotL_nodup (v : Int) (l : List Pr) : (gotL v l).Nodup := ((places_perm v l).nodup_iff).2 ((candL_sorted v l l.length).imp (fun h => by omega))
theorem mem_gotL {v : Int} {l : List Pr} {c : Int} (h : c ∈ gotL v l) : ∃ (k : Nat) (p : Pr), c = k ∧ l[k]? = some p ∧ canV v p = true := by
  have h1 := mem_candL.1 ((places_perm v l).mem_iff.1 h)
  obtain ⟨k, rfl⟩ := Int.eq_ofNat_of_zero_le h1.1.1
  have hk : k < l.length := by omega
  have hg : l[k]? = some l[k] := List.getElem?_eq_getElem hk
  have h2 := h1.2
  rw [canAt_get hg] at h2
  exact ⟨k, _, rfl, hg, h2⟩
/-- Some were given these shares, in this order. -/
structure Put (b : List Ver) (v : Int) (ss : List Sh) (ps qs : List Pr) (cs : List Int) : Prop where
  len : qs.length = ps.length
  many : cs.length = ss.length
  nodup : cs.Nodup
  who : ∀ c ∈ cs, ∃ (k : Nat) (p : Pr), c = k ∧ ps[k]? = some p ∧ canV v p = true
  rest : ∀ (k : Nat), (k : Int) ∉ cs → qs[k]? = ps[k]?
  got : ∀ (j k : Nat) p s, cs[j]? = some (k : Int) → ps[k]? = some p → ss[j]? = some s → keepE b p (v, s) = 0 ∧ qs[k]? = some (keepQ p (v, s))
theorem put_zero {m : Me} {v : Int} {ss : List Sh} (h : putE m v ss = 0) : placeV m.1 m.2 = 0 ∧ ∃ qs cs, putC m v ss = (m.1, qs) ∧ Put m.1 v ss m.2 qs cs := by
  unfold putC
  rw [if_neg (by simpa using h)]
  unfold putE at h
  by_cases h0 : forE m.1 m.2 v ss.length = 0
  · rw [if_neg (by simpa using h0)] at h
    have h1 : placeV m.1 m.2 = 0 := by
      by_cases h9 : placeV m.1 m.2 = 0
      · exact h9
      · rw [forE_chk _ _ h9] at h0; exact absurd h0 h9
    obtain ⟨h2, h3⟩ := for_many h0
    have hn : (forC m.1 m.2 v ss.length).Nodup := by rw [forC_ok h0]; exact (gotL_nodup v m.2).sublist (List.take_sublist _ _)
    obtain ⟨g1, g2, g3⟩ := putL_all (forC m.1 m.2 v ss.length) 0 m.2 hn h3 (by omega) h
    exact ⟨h1, _, _, rfl, g1, h2, hn, fun c hc => mem_gotL (by rw [forC_ok h0] at hc; exact List.mem_of_mem_take hc), g2, fun j k p s hj hp hs => g3 j k p s hj hp (by simpa using hs)⟩
  · rw [if_pos h0] at h
    exact absurd h h0
theorem putL_can {b : List Ver} {v : Int} {ss : List Sh} (h0 : 0 ≤ v) (h1 : v < b.length) (hs : ∀ s ∈ ss, oneV (planAt b v).1 (planAt b v).2.1 (planAt b v).2.2 s.1 s.2 = 0) : ∀ (cs : List Int) (i : Nat) (ps : List Pr), cs.Nodup → (∀ c ∈ cs, ∃ (k : Nat) (p : Pr), c = k ∧ ps[k]? = some p ∧ canV v p = true ∧ PeerOk b p) → i + cs.length ≤ ss.length → (putL b v ss cs i ps).1 = 0
  | [], i, ps, _, _, _ => rfl
  | c :: cs, i, ps, hn, hr, hl => by
    obtain ⟨m, p, rfl, hp, hc, ho⟩ := hr c (by simp)
    have hi : i < ss.length := by simp at hl; omega
    have hsi : ss[i]? = some ss[i] := List.getElem?_eq_getElem hi
    have hn' := List.nodup_cons.1 hn
    have hk := keep_can ho hc h0 h1 (hs _ (List.getElem_mem hi))
    rw [putL_ok rfl hp hsi hk]
    refine putL_can h0 h1 hs cs (i + 1) _ hn'.2 (fun c hc => ?_) (by simp at hl; omega)
    obtain ⟨k, q, rfl, hq, h2, h3⟩ := hr c (by simp [hc])
    exact ⟨k, q, rfl, by rw [List.getElem?_set, if_neg (by intro e; subst e; exact hn'.1 hc)]; exact hq, h2, h3⟩
/-- Where enough can have a share, they are given. -/
theorem put_can {m : Me} {v : Int} {ss : List Sh} (hm : placeV m.1 m.2 = 0) (h0 : 0 ≤ v) (h1 : v < m.1.length) (hs : ∀ s ∈ ss, oneV (planAt m.1 v).1 (planAt m.1 v).2.1 (planAt m.1 v).2.2 s.1 s.2 = 0) (h8 : ss.length ≤ 8) (hc : ss.length ≤ (candL v m.2 m.2.length).length) : putE m v ss = 0 := by
  have hf := forE_ok (v := v) (many := ss.length) hm (by omega) (by omega)
  unfold putE
  rw [if_neg (by simpa using hf)]
  obtain ⟨h2, h3⟩ := for_many hf
  refine putL_can h0 h1 hs _ 0 _ ?_ (fun c hc' => ?_) (by omega)
  · rw [forC_ok hf]; exact (gotL_nodup v m.2).sublist (List.take_sublist _ _)
  · rw [forC_ok hf] at hc'
    obtain ⟨k, p, e, hp, h4⟩ := mem_gotL (List.mem_of_mem_take hc')
    exact ⟨k, p, e, hp, h4, (placeV_ok.1 hm).2.2 p (List.mem_of_getElem? hp)⟩
section
variable {b : List Ver} {v : Int} {ss : List Sh} {ps qs : List Pr} {cs : List Int}
/-- Each one is as it was, or has one more. -/
theorem Put.each (h : Put b v ss ps qs cs) {k : Nat} {p q : Pr} (hp : ps[k]? = some p) (hq : qs[k]? = some q) : q = p ∨ ∃ (j : Nat) (s : Sh), cs[j]? = some (k : Int) ∧ ss[j]? = some s ∧ keepE b p (v, s) = 0 ∧ canV v p = true ∧ q = keepQ p (v, s) := by
  by_cases hk : (k : Int) ∈ cs
  · right
    obtain ⟨j, hj⟩ := List.getElem?_of_mem hk
    have hjl := (List.getElem?_eq_some_iff.1 hj).1
    have hm := h.many
    have hsj : ss[j]? = some ss[j] := List.getElem?_eq_getElem (by omega)
    obtain ⟨h1, h2⟩ := h.got j k p _ hj hp hsj
    rw [hq] at h2
    cases h2
    obtain ⟨k', p', e, hp', hc⟩ := h.who _ hk
    obtain rfl : k = k' := by omega
    rw [hp] at hp'
    cases hp'
    exact ⟨j, _, hj, hsj, h1, hc, rfl⟩
  · left
    have := h.rest k hk
    rw [hp, hq] at this
    exact Option.some.inj this
theorem Put.get (h : Put b v ss ps qs cs) {k : Nat} {q : Pr} (hq : qs[k]? = some q) : ∃ p, ps[k]? = some p := by
  have := (List.getElem?_eq_some_iff.1 hq).1
  exact ⟨_, List.getElem?_eq_getElem (by have := h.len; omega)⟩
theorem Put.right (h : Put b v ss ps qs cs) (hm : placeV b ps = 0) : placeV b qs = 0 := by
  obtain ⟨h1, h2, h3⟩ := placeV_ok.1 hm
  refine placeV_ok.2 ⟨h1, by have := h.len; omega, fun q hq => ?_⟩
  obtain ⟨k, hk⟩ := List.getElem?_of_mem hq
  obtain ⟨p, hp⟩ := h.get hk
  rcases h.each hp hk with rfl | ⟨j, s, _, _, h4, _, rfl⟩
  · exact h3 _ (List.mem_of_getElem? hp)
  · exact (keep_zero h4).2.2.1
theorem keepQ_other {p : Pr} {k : Kp} {u : Int} (h : ∀ y ∈ p.2.2, y.1 ≠ k.1) (hu : k.1 ≠ u) : keptAt u (keepQ p k).2.2 = keptAt u p.2.2 := by
  unfold keepQ
  simp only
  rw [keptAt_keepK h, if_neg hu]
theorem keepQ_self {p : Pr} {k : Kp} (h : ∀ y ∈ p.2.2, y.1 ≠ k.1) : keptAt k.1 (keepQ p k).2.2 = some k := by
  unfold keepQ
  simp only
  rw [keptAt_keepK h, if_pos rfl]
end
end Go.Proofs.YtnidbghgadnjeaaGreat

namespace Go.Proofs.YtnidbghgadnjeaaGreat

theorem BookOk.left {b : List Ver} {x : Ver} (h : BookOk (b ++ [x])) : BookOk b := by
  refine ⟨by have := h.top; simp at this; omega, fun k v hk => ?_, fun k v hk => ?_⟩
  · have hl := (List.getElem?_eq_some_iff.1 hk).1
    exact h.par k v (by rw [List.getElem?_append_left hl]; exact hk)
  · have hl := (List.getElem?_eq_some_iff.1 hk).1
    exact h.plan k v (by rw [List.getElem?_append_left hl]; exact hk)
/-- What a save has done. -/
structure SavedTo (m : Me) (data pr : List Int) (n o : Nat) (qs : List Pr) (cs : List Int) : Prop where
  mesh : placeV m.1 m.2 = 0
  split : splitE n o data.length data = 0
  book : placeV (m.1 ++ [newV data pr n o]) m.2 = 0
  put : Put (m.1 ++ [newV data pr n o]) m.1.length (sharesL n data o (rowsN n data.length)) m.2 qs cs
theorem save_zero {m : Me} {data pr : List Int} {n o : Int} (h : saveE m data pr n o = 0) : ∃ (n' o' : Nat) (qs : List Pr) (cs : List Int), n = n' ∧ o = o' ∧ saveC m data pr n o = (m.1 ++ [newV data pr n o], qs) ∧ SavedTo m data pr n' o' qs cs := by
  by_cases h0 : meshV m = 0
  · by_cases h1 : splitE n o data.length data = 0
    · by_cases h2 : addVE m.1 (newV data pr n o) = 0
      · obtain ⟨h3, h4⟩ := saveC_put h0 h1 h2
        rw [h3] at h
        obtain ⟨n', o', s', rfl, rfl, e⟩ := plan_nat (splitE_ok h1).1
        have : s' = data.length := by omega
        subst this
        rw [addC_ok h2, splitL_ok h1] at h h4
        obtain ⟨h5, qs, cs, h6, h7⟩ := put_zero h
        exact ⟨n', o', qs, cs, rfl, rfl, h4.trans h6, h0, h1, h5, h7⟩
      · rw [(saveC_add h0 h1 h2).1] at h
        exact absurd h h2
    · rw [(saveC_split h0 h1).1] at h
      exact absurd h h1
  · rw [(saveC_chk h0).1] at h
    exact absurd h h0
theorem filterMap_nodup {α β γ : Type} {f : α → Option β} {g : β → γ} {l : List α} (h : ∀ (i j : Nat) x y s t, i ≠ j → l[i]? = some x → l[j]? = some y → f x = some s → f y = some t → g s ≠ g t) : ((l.filterMap f).map g).Nodup := by
  rw [List.Nodup, List.pairwise_map, List.pairwise_filterMap, List.pairwise_iff_getElem]
  intro i j hi hj hij s hs t ht
  exact h i j _ _ s t (by omega) (List.getElem?_eq_getElem hi) (List.getElem?_eq_getElem hj) hs ht
/-- Each one of these was given a share, none had anything before. -/
theorem SavedTo.none {m : Me} {data pr : List Int} {n o : Nat} {qs : List Pr} {cs : List Int} (h : SavedTo m data pr n o qs cs) {p : Pr} (hp : p ∈ m.2) : ∀ y ∈ p.2.2, y.1 < (m.1.length : Int) := fun y hy => (((placeV_ok.1 h.mesh).2.2 p hp).each y hy).2.1
theorem keptAt_none {v : Int} {l : List Kp} (h : ∀ y ∈ l, y.1 ≠ v) : keptAt v l = none := by
  unfold keptAt
  rw [List.find?_eq_none]
  intro y hy
  simpa using h y hy
section
variable {m : Me} {data pr : List Int} {n o : Nat} {qs : List Pr} {cs : List Int}
theorem SavedTo.right (h : SavedTo m data pr n o qs cs) : placeV (m.1 ++ [newV data pr n o]) qs = 0 := h.put.right h.book
theorem SavedTo.ver (_ : SavedTo m data pr n o qs cs) : (m.1 ++ [newV data pr n o])[m.1.length]? = some (pr, (n : Int), (o : Int), (data.length : Int)) := by
  rw [List.getElem?_append_right (Nat.le_refl _)]
  simp [newV]
/-- Who keeps something of the new version keeps the share that was given. -/
theorem SavedTo.kept (h : SavedTo m data pr n o qs cs) {k : Nat} {q : Pr} {x : Kp} (hq : qs[k]? = some q) (hx : keptAt (m.1.length : Int) q.2.2 = some x) : ∃ j, j < o ∧ cs[j]? = some (k : Int) ∧ x = ((m.1.length : Int), shareL n data (rowsN n data.length) j) ∧ q.1 = true := by
  obtain ⟨p, hp⟩ := h.put.get hq
  have hnone := h.none (List.mem_of_getElem? hp)
  rcases h.put.each hp hq with rfl | ⟨j, s, h1, h2, h3, h4, rfl⟩
  · rw [keptAt_none (fun y hy => by have := hnone y hy; omega)] at hx
    cases hx
  · have hj : j < o := by
      have := (List.getElem?_eq_some_iff.1 h2).1
      rwa [sharesL_len] at this
    rw [sharesL_get _ _ _ hj] at h2
    cases h2
    have hk := keepQ_self (p := p) (k := ((m.1.length : Int), shareL n data (rowsN n data.length) j)) (keep_zero h3).2.1
    rw [hk] at hx
    cases hx
    simp only [canV, Bool.and_eq_true] at h4
    exact ⟨j, hj, h1, rfl, h4.1⟩
end
end Go.Proofs.YtnidbghgadnjeaaGreat

namespace Go.Proofs.YtnidbghgadnjeaaGreat

/-- The numbers of the shares of a version that are there, as they come. -/
def numsS (v : Int) (ps : List Pr) : List Int := ps.filterMap fun p => (pickS v p).map (·.1)
theorem numsS_step (v : Int) {ps : List Pr} {k : Nat} {p : Pr} (h : ps[k]? = some p) : numsS v (ps.take (k + 1)) = numsS v (ps.take k) ++ ((pickS v p).map (·.1)).toList := by
  unfold numsS
  rw [take_get h, List.filterMap_append]
  congr 1
theorem numsS_len (v : Int) (ps : List Pr) : (numsS v ps).length ≤ ps.length := List.length_filterMap_le _ _
/-- How many are to spare. -/
def spareV (m : Me) (v : Int) : Int := if readyE m v ≠ 0 then 0 else ((onceL (numsS v m.2)).length : Int) - (planAt m.1 v).1
theorem onceL_snoc (l : List Int) (x : Int) : onceL (l ++ [x]) = if x ∈ l then onceL l else onceL l ++ [x] := by
  unfold onceL
  rw [List.foldl_append]
  have h := (once_fold l [] List.nodup_nil).2 x
  simp only [List.not_mem_nil, false_or] at h
  simp only [List.foldl_cons, List.foldl_nil, h]
/-- So many are there as have unlike numbers. -/
theorem once_shares (v : Int) : ∀ (os : List (Option Sh)) (l : List Sh) (r : List Int), onceL r = l.map (·.1) → (∀ z, z ∈ r ↔ z ∈ l.map (·.1)) → onceL (r ++ os.filterMap (fun o => o.map (·.1))) = (os.foldl addS l).map (·.1)
  | [], l, r, h, _ => by simpa using h
  | none :: os, l, r, h, hm => by
    have := once_shares v os l r h hm
    simpa [addS] using this
  | some s :: os, l, r, h, hm => by
    have e : r ++ (some s :: os).filterMap (fun o => o.map (·.1)) = (r ++ [s.1]) ++ os.filterMap (fun o => o.map (·.1)) := by simp
    rw [e, List.foldl_cons]
    have hs := onceL_snoc r s.1
    by_cases hr : s.1 ∈ r
    · have ha : addS l (some s) = l := by
        unfold addS
        simp only
        rw [if_pos]
        obtain ⟨t, ht, he⟩ := List.mem_map.1 ((hm s.1).1 hr)
        exact List.any_eq_true.2 ⟨t, ht, by simpa using he⟩
      rw [ha]
      rw [if_pos hr] at hs
      refine once_shares v os l _ (by rw [hs, h]) (fun z => ?_)
      rw [List.mem_append]
      constructor
      · rintro (h1 | h1)
        · exact (hm z).1 h1
        · simp at h1; subst h1; exact (hm _).1 hr
      · exact fun h1 => Or.inl ((hm z).2 h1)
    · have ha : addS l (some s) = l ++ [s] := by
        unfold addS
        simp only
        rw [if_neg]
        intro hh
        obtain ⟨t, ht, he⟩ := List.any_eq_true.1 hh
        exact hr ((hm s.1).2 (List.mem_map.2 ⟨t, ht, by simpa using he⟩))
      rw [ha]
      rw [if_neg hr] at hs
      refine once_shares v os (l ++ [s]) _ (by rw [hs, h]; simp) (fun z => ?_)
      rw [List.mem_append, List.map_append, List.mem_append, hm z]
      simp
theorem once_len (v : Int) (ps : List Pr) : (onceL (numsS v ps)).length = (sharesM v ps).length := by
  have h := once_shares v (ps.map (pickS v)) [] [] rfl (by simp)
  have e : (ps.map (pickS v)).filterMap (fun o => o.map (·.1)) = numsS v ps := by rw [List.filterMap_map]; rfl
  rw [List.nil_append, e] at h
  rw [h, List.length_map, sharesM_map]
theorem spareV_eq {m : Me} {v : Int} (h : readyE m v = 0) : spareV m v = ((sharesM v m.2).length : Int) - (planAt m.1 v).1 := by unfold spareV; rw [if_neg (by simpa using h), once_len]
end Go.Proofs.YtnidbghgadnjeaaGreat
