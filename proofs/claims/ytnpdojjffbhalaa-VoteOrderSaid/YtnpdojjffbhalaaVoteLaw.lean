/-
  The plain law of the vote: a content that has enough of the shares is the best one; what two contents have in common.
-/
import Derived.Test.YtnpdojjffbhalaaJoinsLaw
import Derived.Test.YtnpdojjffbhalaaTryMath
namespace Go.Proofs.Ytnpdojjffbhalaa

theorem ofD_iff {n r : Nat} {data : List Int} {t : Sh} (h : 0 ≤ t.1) : ofD n r data t = true ↔ t = shareL n data r t.1.toNat := by
  obtain ⟨a, l⟩ := t
  have e : ((a.toNat : Nat) : Int) = a := by simp only at h; omega
  unfold ofD sameV eqInts shareL
  simp only [decide_true, Bool.true_and, decide_eq_true_eq, Prod.mk.injEq, e, true_and]
theorem count_both {α : Type} (p q : α → Bool) : ∀ l : List α, l.countP q + l.countP p ≤ l.countP (fun x => p x && q x) + l.length
  | [] => by simp
  | x :: l => by
    have := count_both p q l
    simp only [List.countP_cons, List.length_cons]
    cases p x <;> cases q x <;> simp <;> omega

section
variable {n o s : Nat} {ls : List Sh}
theorem someOf_ofD (hR : Right n o s ls) {data : List Int} {pk : List Sh} (hs : pk.Sublist ls) (h : ∀ t ∈ pk, ofD n (rowsN n s) data t = true) : SomeOf n data o (rowsN n s) pk :=
  ⟨fun t ht => by
    have hn := hR.num t (hs.subset ht)
    exact ⟨t.1.toNat, by omega, (ofD_iff hn.1).1 (h t ht)⟩, hR.nodup.sublist (hs.map _)⟩
theorem join_all (hR : Right n o s ls) (hj : joinE n o s ls = 0) : ∀ t ∈ ls, ofD n (rowsN n s) (joinC n o s ls) t = true := by
  have h1 := joins_E hR hR.checks
  rw [hj] at h1
  split at h1
  · rename_i h2
    rw [(joins_C hR hR.checks h2.1 h2.2).2]
    intro t ht
    exact List.all_eq_true.1 h2.2 t ht
  · cases h1
theorem join_data (hR : Right n o s ls) (hj : joinE n o s ls = 0) : (joinC n o s ls).length = s ∧ ∀ z ∈ joinC n o s ls, 0 ≤ z ∧ z < 31 := by
  obtain ⟨_, h2, h3⟩ := splitE_ok (join_split hR hj)
  exact ⟨by omega, h3⟩
/-- Of n shares there is one content at most. -/
theorem two_alike (hR : Right n o s ls) {D E : List Int} (hD : D.length = s) (hd : ∀ z ∈ D, 0 ≤ z ∧ z < 31) (hE : E.length = s) (he : ∀ z ∈ E, 0 ≤ z ∧ z < 31)
    (h : n ≤ ls.countP (fun t => ofD n (rowsN n s) D t && ofD n (rowsN n s) E t)) : D = E := by
  rw [List.countP_eq_length_filter] at h
  have hs : (ls.filter (fun t => ofD n (rowsN n s) D t && ofD n (rowsN n s) E t)).Sublist ls := List.filter_sublist
  have hm : ∀ t ∈ ls.filter (fun t => ofD n (rowsN n s) D t && ofD n (rowsN n s) E t), ofD n (rowsN n s) D t = true ∧ ofD n (rowsN n s) E t = true := fun t ht => by
    have := (List.mem_filter.1 ht).2
    simpa using this
  have h1 := (someOf_ofD hR hs fun t ht => (hm t ht).1).joins hR.plan hD hd h
  have h2 := (someOf_ofD hR hs fun t ht => (hm t ht).2).joins hR.plan hE he h
  rw [← h1.2, h2.2]

theorem fold_best {D : List Int} : ∀ (cs : List (List Sh)) (st : Vs), (∀ c ∈ cs, joinE n o s c = 0 → joinC n o s c = D ∨ (idxF (ofD n (rowsN n s) (joinC n o s c)) 0 ls).length < (idxF (ofD n (rowsN n s) D) 0 ls).length) →
    (st = (D, idxF (ofD n (rowsN n s) D) 0 ls) ∨ (st.2.length < (idxF (ofD n (rowsN n s) D) 0 ls).length ∧ ∃ c ∈ cs, joinE n o s c = 0 ∧ joinC n o s c = D)) → cs.foldl (fun st c => castV n o s ls c st) st = (D, idxF (ofD n (rowsN n s) D) 0 ls)
  | [], st, _, h => by
    rcases h with h | ⟨_, c, hc, _⟩
    · exact h
    · simp at hc
  | c :: cs, st, hc, h => by
    rw [List.foldl_cons]
    refine fold_best cs _ (fun d hd => hc d (by simp [hd])) ?_
    have h0 := hc c (by simp)
    unfold castV
    by_cases hj : joinE n o s c = 0
    · rw [if_neg (by simpa using hj)]
      rcases h with h | ⟨h1, d, hd, h2, h3⟩
      · left
        subst h
        rcases h0 hj with e | e
        · rw [e, if_neg (by simp)]
        · rw [if_neg (by simp only; omega)]
      · rcases h0 hj with e | e
        · left
          rw [e, if_pos h1]
        · right
          have hd' : d ∈ cs := by
            rcases List.mem_cons.1 hd with rfl | hd
            · rw [h3] at e; omega
            · exact hd
          refine ⟨?_, d, hd', h2, h3⟩
          split
          · exact e
          · exact h1
    · rw [if_pos hj]
      rcases h with h | ⟨h1, d, hd, h2, h3⟩
      · exact Or.inl h
      · right
        refine ⟨h1, d, ?_, h2, h3⟩
        rcases List.mem_cons.1 hd with rfl | hd
        · exact absurd h2 hj
        · exact hd
theorem fold_max : ∀ (cs : List (List Sh)) (st : Vs), st.2.length ≤ (cs.foldl (fun st c => castV n o s ls c st) st).2.length ∧ ∀ c ∈ cs, joinE n o s c = 0 → (idxF (ofD n (rowsN n s) (joinC n o s c)) 0 ls).length ≤ (cs.foldl (fun st c => castV n o s ls c st) st).2.length
  | [], st => ⟨Nat.le_refl _, by simp⟩
  | c :: cs, st => by
    rw [List.foldl_cons]
    obtain ⟨h1, h2⟩ := fold_max cs (castV n o s ls c st)
    have h3 : st.2.length ≤ (castV n o s ls c st).2.length ∧ (joinE n o s c = 0 → (idxF (ofD n (rowsN n s) (joinC n o s c)) 0 ls).length ≤ (castV n o s ls c st).2.length) := by
      unfold castV
      by_cases hj : joinE n o s c = 0
      · rw [if_neg (by simpa using hj)]
        split
        · rename_i h9
          exact ⟨Nat.le_of_lt h9, fun _ => Nat.le_refl _⟩
        · exact ⟨Nat.le_refl _, fun _ => by omega⟩
      · rw [if_pos hj]
        exact ⟨Nat.le_refl _, fun h => absurd h hj⟩
    refine ⟨Nat.le_trans h3.1 h1, fun d hd hj => ?_⟩
    rcases List.mem_cons.1 hd with rfl | hd
    · exact Nat.le_trans (h3.2 hj) h1
    · exact h2 d hd hj
theorem fold_from : ∀ (cs : List (List Sh)) (st : Vs), cs.foldl (fun st c => castV n o s ls c st) st = st ∨ ∃ c ∈ cs, joinE n o s c = 0 ∧ cs.foldl (fun st c => castV n o s ls c st) st = (joinC n o s c, idxF (ofD n (rowsN n s) (joinC n o s c)) 0 ls)
  | [], st => Or.inl rfl
  | c :: cs, st => by
    rw [List.foldl_cons]
    rcases fold_from cs (castV n o s ls c st) with h | ⟨d, hd, h1, h2⟩
    · rw [h]
      unfold castV
      by_cases hj : joinE n o s c = 0
      · rw [if_neg (by simpa using hj)]
        split
        · exact Or.inr ⟨c, by simp, hj, rfl⟩
        · exact Or.inl rfl
      · rw [if_pos hj]
        exact Or.inl rfl
    · exact Or.inr ⟨d, by simp [hd], h1, h2⟩
theorem finV_fold : finV n o s ls = (combL n [] ls).foldl (fun st c => castV n o s ls c st) ([], []) := tryL_fold _ _ _ _ _
theorem comb_right (hR : Right n o s ls) {c : List Sh} (hc : c ∈ combL n [] ls) : Right n o s c ∧ c.Sublist ls ∧ c.length = n := by
  have hn := (planV_bd hR.plan).1
  obtain ⟨q, rfl, h1, h2⟩ := (mem_combL (by simp; omega)).1 hc
  simp at h2
  exact ⟨hR.sub h1 (by omega), h1, by simpa using h2⟩
theorem mem_comb (hR : Right n o s ls) {c : List Sh} (hs : c.Sublist ls) (hl : c.length = n) : c ∈ combL n [] ls := by
  have hn := (planV_bd hR.plan).1
  exact (mem_combL (by simp; omega)).2 ⟨c, rfl, hs, by simpa using hl⟩
/-- WHERE FEWER THAN HALF OF WHAT IS MORE THAN ENOUGH IS BENT IT IS FOUND. -/
theorem decode (hR : Right n o s ls) {D : List Int} (hl : D.length = s) (hd : ∀ z ∈ D, 0 ≤ z ∧ z < 31) (hg : 2 * (ls.length - ls.countP (ofD n (rowsN n s) D)) ≤ ls.length - n) : finV n o s ls = (D, idxF (ofD n (rowsN n s) D) 0 ls) := by
  have hn := (planV_bd hR.plan).1
  have hfew := hR.few
  have hle := List.countP_le_length (p := ofD n (rowsN n s) D) (l := ls)
  have hgn : n ≤ ls.countP (ofD n (rowsN n s) D) := by omega
  rw [finV_fold]
  refine fold_best _ _ (fun c hc hj => ?_) (Or.inr ⟨by rw [idxF_len]; simp only [List.length_nil]; omega, (ls.filter (ofD n (rowsN n s) D)).take n, ?_, ?_⟩)
  · obtain ⟨h1, h2, h3⟩ := comb_right hR hc
    obtain ⟨h4, h5⟩ := join_data h1 hj
    by_cases he : n ≤ ls.countP (fun t => ofD n (rowsN n s) D t && ofD n (rowsN n s) (joinC n o s c) t)
    · exact Or.inl (two_alike hR hl hd h4 h5 he).symm
    · right
      have h6 := count_both (ofD n (rowsN n s) D) (ofD n (rowsN n s) (joinC n o s c)) ls
      rw [idxF_len, idxF_len]
      omega
  · have hf : (ls.filter (ofD n (rowsN n s) D)).length = ls.countP (ofD n (rowsN n s) D) := by rw [List.countP_eq_length_filter]
    exact mem_comb hR ((List.take_sublist _ _).trans List.filter_sublist) (by rw [List.length_take]; omega)
  · have hf : (ls.filter (ofD n (rowsN n s) D)).length = ls.countP (ofD n (rowsN n s) D) := by rw [List.countP_eq_length_filter]
    refine (someOf_ofD hR ((List.take_sublist _ _).trans List.filter_sublist) fun t ht => (List.mem_filter.1 (List.mem_of_mem_take ht)).2).joins hR.plan hl hd ?_
    rw [List.length_take]
    omega
/-- What Most tells where a content has so many of the shares. -/
theorem most_of (hR : Right n o s ls) {D : List Int} (hf : finV n o s ls = (D, idxF (ofD n (rowsN n s) D) 0 ls)) (hp : 0 < ls.countP (ofD n (rowsN n s) D)) :
    mostE n o s ls = 0 ∧ mostB n o s ls = D ∧ mostW n o s ls = ((ls.filter fun t => !ofD n (rowsN n s) D t).map (·.1)).mergeSort (fun x y => decide (x ≤ y)) := by
  have hE : mostE n o s ls = 0 := by
    rw [mostE_nat hR.checks, hf, if_neg]
    intro h
    have := congrArg List.length h
    rw [idxF_len] at this
    simp only [List.length_nil] at this
    omega
  refine ⟨hE, by rw [mostB_nat hE, hf], ?_⟩
  rw [mostW_nat hE, hf, badF_idx]
/-- With none bent. -/
theorem most_whole {D : List Int} (hp : planV n o s = 0) (hl : D.length = s) (hd : ∀ z ∈ D, 0 ≤ z ∧ z < 31) (h : SomeOf n D o (rowsN n s) ls) (hn : n ≤ ls.length) : mostE n o s ls = 0 ∧ mostB n o s ls = D ∧ mostW n o s ls = [] := by
  have hR := h.right hp hn
  have h1 := (planV_bd hp).1
  have hall : ∀ t ∈ ls, ofD n (rowsN n s) D t = true := fun t ht => by
    obtain ⟨k, _, rfl⟩ := h.of t ht
    exact (ofD_iff (by simp [shareL])).2 (by simp [shareL])
  have hc : ls.countP (ofD n (rowsN n s) D) = ls.length := List.countP_eq_length.2 hall
  obtain ⟨h2, h3, h4⟩ := most_of hR (decode hR hl hd (by omega)) (by omega)
  refine ⟨h2, h3, ?_⟩
  have : (ls.filter fun t => !ofD n (rowsN n s) D t) = [] := by
    rw [List.filter_eq_nil_iff]
    intro t ht
    simp [hall t ht]
  rw [h4, this]
  simp
/-- Where there is an answer: whose it is. -/
theorem most_some (hR : Right n o s ls) (hE : mostE n o s ls = 0) : ∃ c ∈ combL n [] ls, joinE n o s c = 0 ∧ mostB n o s ls = joinC n o s c ∧ finV n o s ls = (joinC n o s c, idxF (ofD n (rowsN n s) (joinC n o s c)) 0 ls) := by
  have h1 := mostE_nat (n := n) (o := o) (s := s) hR.checks
  rw [hE] at h1
  have hne : (finV n o s ls).2 ≠ [] := by
    intro h
    rw [if_pos h] at h1
    cases h1
  rcases fold_from (n := n) (o := o) (s := s) (ls := ls) (combL n [] ls) ([], []) with h | ⟨c, hc, hj, h⟩
  · rw [← finV_fold] at h
    rw [h] at hne
    exact absurd rfl hne
  · rw [← finV_fold] at h
    exact ⟨c, hc, hj, by rw [mostB_nat hE, h], h⟩
theorem comb_count (hR : Right n o s ls) {c : List Sh} (hc : c ∈ combL n [] ls) (hj : joinE n o s c = 0) : n ≤ ls.countP (ofD n (rowsN n s) (joinC n o s c)) := by
  obtain ⟨h1, h2, h3⟩ := comb_right hR hc
  have := List.Sublist.countP_le (p := ofD n (rowsN n s) (joinC n o s c)) h2
  rw [List.countP_eq_length.2 (join_all h1 hj), h3] at this
  exact this
end
end Go.Proofs.Ytnpdojjffbhalaa
