/-
  The plain law of a share that is bent in one number.
-/
import Derived.Test.YtlaabmpadikkjaaShareAnyWalk
namespace Go.Proofs.Ytlaabmpadikkjaa

theorem set_sameT {α : Type} {l : List α} {i : Nat} {x : α} (h : l[i]? = some x) : l.set i x = l := by
  apply List.ext_getElem?
  intro j
  rw [List.getElem?_set]
  by_cases hij : i = j
  · subst hij
    rw [if_pos rfl, h, if_pos (List.getElem?_eq_some_iff.1 h).1]
  · rw [if_neg hij]
theorem dataL_get (n : Nat) (ls : List Sh) {i j : Nat} (hj : j < n) : ∀ r, i < r → (dataL n ls r)[i * n + j]? = some (atV (xsL n ls) (ysL n ls i) (j : Int))
  | 0, h => by omega
  | r + 1, h => by
    rw [dataL_step]
    by_cases hi : i < r
    · have h1 : i * n + j < r * n := by
        have : (i + 1) * n ≤ r * n := Nat.mul_le_mul_right _ hi
        rw [Nat.add_mul, Nat.one_mul] at this
        omega
      rw [List.getElem?_append_left (by rw [dataL_len]; exact h1)]
      exact dataL_get n ls hj r hi
    · obtain rfl : i = r := by omega
      rw [List.getElem?_append_right (by rw [dataL_len]; omega), dataL_len, show i * n + j - i * n = j by omega]
      unfold outK
      rw [List.getElem?_map, List.getElem?_range hj]
      rfl

/-- One number of one share is bent. -/
structure Bent (n o s : Nat) (data : List Int) (ps : List Sh) (k i : Nat) (t : Sh) (y z : Int) : Prop where
  plan : planV n o s = 0
  len : data.length = s
  num : ∀ z ∈ data, 0 ≤ z ∧ z < 31
  some : SomeOf n data o (rowsN n s) ps
  few : n ≤ ps.length
  at_ : ps[k]? = .some t
  row : i < rowsN n s
  old : t.2[i]? = .some y
  ne : z ≠ y
  bd : 0 ≤ z ∧ z < 31
def bentL (ps : List Sh) (k i : Nat) (t : Sh) (z : Int) : List Sh := ps.set k (t.1, t.2.set i z)

section
variable {n o s : Nat} {data : List Int} {ps : List Sh} {k i : Nat} {t : Sh} {y z : Int}
theorem Bent.fst (h : Bent n o s data ps k i t y z) : (bentL ps k i t z).map (·.1) = ps.map (·.1) := by
  unfold bentL
  rw [List.map_set]
  exact set_sameT (by rw [List.getElem?_map, h.at_]; rfl)
theorem Bent.one (h : Bent n o s data ps k i t y z) : ∀ u ∈ bentL ps k i t z, oneV n o s u.1 u.2 = 0 := by
  intro u hu
  unfold bentL at hu
  rcases List.mem_or_eq_of_mem_set hu with hu | rfl
  · exact h.some.one h.plan u hu
  · obtain ⟨kk, hk, rfl⟩ := h.some.of t (List.mem_of_getElem? h.at_)
    refine oneV_zero h.plan (by simp [shareL]) (by simp [shareL]; omega) (by simp [shareL]) ?_
    intro w hw
    rcases List.mem_or_eq_of_mem_set hw with hw | rfl
    · obtain ⟨m, hm, rfl⟩ := List.getElem_of_mem hw
      simp [shareL]
      exact partV_bd _ _ _ _
    · exact h.bd
theorem Bent.checkL (h : Bent n o s data ps k i t y z) : checkL n o s [] (bentL ps k i t z) = 0 :=
  checkL_zero h.one (by rw [List.nil_append, h.fst]; exact h.some.once)
theorem Bent.blen (_h : Bent n o s data ps k i t y z) : (bentL ps k i t z).length = ps.length := by simp [bentL]
theorem Bent.right (h : Bent n o s data ps k i t y z) : Right n o s (bentL ps k i t z) := by
  obtain ⟨p1, p2, p3, p4, p5, p6⟩ := planV_bd h.plan
  have := h.some.len
  exact right_of h.plan (by rw [h.blen]; exact h.few) (by rw [h.blen]; omega) h.checkL
theorem Bent.checks (h : Bent n o s data ps k i t y z) : checksL n o s (bentL ps k i t z) = 0 := by
  obtain ⟨p1, p2, p3, p4, p5, p6⟩ := planV_bd h.plan
  have hl := h.some.len
  have hb := h.blen
  have hf := h.few
  unfold checksL
  rw [if_neg (by simpa using h.plan), if_neg (by omega), if_neg (by simpa using h.checkL), if_neg (by omega)]
/-- What every share says of row i. -/
theorem Bent.says (h : Bent n o s data ps k i t y z) {m : Nat} {u : Sh} (hu : ps[m]? = .some u) : u.2[i]? = .some (atV (placesL n) (rowL n data i) u.1) := by
  obtain ⟨kk, _, rfl⟩ := h.some.of u (List.mem_of_getElem? hu)
  exact shareL_get n data kk h.row
theorem Bent.pt (h : Bent n o s data ps k i t y z) {m : Nat} {u : Sh} (hm : m < n) (hu : (bentL ps k i t z)[m]? = .some u) {v : Int} (hv : u.2[i]? = .some v) :
    atV (xsL n (bentL ps k i t z)) (ysL n (bentL ps k i t z) i) u.1 = v := by
  refine atV_through (h.right.pts i) (m := m) ?_ ?_
  · unfold xsL
    rw [List.getElem?_map, List.getElem?_take, if_pos hm, hu]
    rfl
  · unfold ysL
    rw [List.getElem?_map, List.getElem?_take, if_pos hm, hu]
    simp [List.getD_eq_getElem?_getD, hv]
theorem Bent.bentAt (h : Bent n o s data ps k i t y z) : (bentL ps k i t z)[k]? = .some (t.1, t.2.set i z) ∧ (t.2.set i z)[i]? = .some z := by
  have h1 := (List.getElem?_eq_some_iff.1 h.at_).1
  have h2 := (List.getElem?_eq_some_iff.1 h.old).1
  exact ⟨by unfold bentL; rw [List.getElem?_set, if_pos rfl, if_pos h1], by rw [List.getElem?_set, if_pos rfl, if_pos h2]⟩
theorem Bent.other (_h : Bent n o s data ps k i t y z) {m : Nat} (hm : m ≠ k) : (bentL ps k i t z)[m]? = ps[m]? := by
  unfold bentL
  rw [List.getElem?_set, if_neg (fun e => hm e.symm)]
/-- Where the curve through the first ones, one of them bent, would agree with the content's at n places, nothing would be bent. -/
theorem Bent.uniq (h : Bent n o s data ps k i t y z) (hk : k < n) {Q : List Int} (hQ : Q.Nodup) (hr : ∀ q ∈ Q, 0 ≤ q ∧ q < 31) (hl : Q.length = n)
    (he : ∀ q ∈ Q, atV (xsL n (bentL ps k i t z)) (ysL n (bentL ps k i t z) i) q = atV (placesL n) (rowL n data i) q) : False := by
  obtain ⟨p1, p2, p3, p4, p5, p6⟩ := planV_bd h.plan
  have hP := h.right.pts i
  have hR := ptsOk_row (n := n) (data := data) (by omega) (by omega) h.num i
  have hxl : (xsL n (bentL ps k i t z)).length = n := by
    have := h.blen
    have := h.few
    simp [xsL]; omega
  have e1 := (atV_same hP hQ hr (by rw [hl, hxl])).2 t.1
  have e2 := (atV_same hR hQ hr (by rw [hl, placesL_len])).2 t.1
  have e3 : Q.map (atV (xsL n (bentL ps k i t z)) (ysL n (bentL ps k i t z) i)) = Q.map (atV (placesL n) (rowL n data i)) := List.map_congr_left he
  rw [e3, e2] at e1
  obtain ⟨b1, b2⟩ := h.bentAt
  have e4 := h.pt hk b1 b2
  have e5 := h.says h.at_
  rw [h.old] at e5
  cases e5
  exact h.ne (e4.symm.trans e1.symm)
theorem Bent.torn (h : Bent n o s data ps k i t y z) (hn : ps.length = n + 1) : joinE n o s (bentL ps k i t z) = 9 := by
  obtain ⟨p1, p2, p3, p4, p5, p6⟩ := planV_bd h.plan
  have hkl := (List.getElem?_eq_some_iff.1 h.at_).1
  have ht : tornL n (bentL ps k i t z) i = true := by
    unfold tornL
    rw [List.any_eq_true]
    by_cases hk : k = n
    · obtain ⟨b1, b2⟩ := h.bentAt
      refine ⟨(t.1, t.2.set i z), ?_, ?_⟩
      · refine List.mem_of_getElem? (i := 0) ?_
        rw [List.getElem?_drop, Nat.add_zero, ← hk]
        exact b1
      · have hx : xsL n (bentL ps k i t z) = xsL n ps := by unfold xsL bentL; rw [List.take_set_of_le (by omega)]
        have hy : ysL n (bentL ps k i t z) i = ysL n ps i := by unfold ysL bentL; rw [List.take_set_of_le (by omega)]
        rw [decide_eq_true_eq, hx, hy, h.some.curve h.plan h.few h.row, List.getD_eq_getElem?_getD, b2]
        have e5 := h.says h.at_
        rw [h.old] at e5
        cases e5
        simp only [Option.getD_some]
        exact fun e => h.ne e.symm
    · have hkn : k < n := by omega
      have hu : ps[n]? = .some ps[n] := List.getElem?_eq_getElem (by omega)
      refine ⟨ps[n], ?_, ?_⟩
      · refine List.mem_of_getElem? (i := 0) ?_
        rw [List.getElem?_drop, Nat.add_zero, h.other (by omega)]
        exact hu
      · rw [decide_eq_true_eq, List.getD_eq_getElem?_getD, h.says hu, Option.getD_some]
        intro he
        refine h.uniq hkn (Q := (ps.map (·.1)).eraseIdx k) (List.Nodup.sublist (List.eraseIdx_sublist _ _) h.some.once) ?_ ?_ ?_
        · intro q hq
          obtain ⟨u, hu, rfl⟩ := List.mem_map.1 (List.mem_of_mem_eraseIdx hq)
          obtain ⟨kk, hk, rfl⟩ := h.some.of u hu
          simp [shareL]
          omega
        · rw [List.length_eraseIdx, if_pos (by rw [List.length_map]; exact hkl), List.length_map, hn]
          rfl
        · intro q hq
          obtain ⟨m, hmk, hm⟩ := List.mem_eraseIdx_iff_getElem?.1 hq
          rw [List.getElem?_map, Option.map_eq_some_iff] at hm
          obtain ⟨u, hu', rfl⟩ := hm
          have hml := (List.getElem?_eq_some_iff.1 hu').1
          by_cases hmn : m = n
          · subst hmn
            rw [hu] at hu'
            cases hu'
            exact he
          · exact h.pt (m := m) (by omega) (by rw [h.other hmk]; exact hu') (h.says hu')
  unfold joinE
  rw [if_neg (by simpa using h.checks), if_pos (tornsL_of ht h.row)]
theorem Bent.not (h : Bent n o s data ps k i t y z) (hn : ps.length = n) : joinE n o s (bentL ps k i t z) = 9 ∨ joinE n o s (bentL ps k i t z) = 0 ∧ joinC n o s (bentL ps k i t z) ≠ data := by
  obtain ⟨p1, p2, p3, p4, p5, p6⟩ := planV_bd h.plan
  have hkl := (List.getElem?_eq_some_iff.1 h.at_).1
  by_cases hE : joinE n o s (bentL ps k i t z) = 9
  · exact Or.inl hE
  · right
    have htn : tornsL n (bentL ps k i t z) (rowsN n s) = false := by
      cases hh : tornsL n (bentL ps k i t z) (rowsN n s) with
      | false => rfl
      | true =>
        exfalso; apply hE
        unfold joinE
        rw [if_neg (by simpa using h.checks), if_pos hh]
    have hnt : hasNot ((dataL n (bentL ps k i t z) (rowsN n s)).drop s) = false := by
      cases hh : hasNot ((dataL n (bentL ps k i t z) (rowsN n s)).drop s) with
      | false => rfl
      | true =>
        exfalso; apply hE
        unfold joinE
        rw [if_neg (by simpa using h.checks), htn, if_neg (by simp), if_pos hh]
    have h0 : joinE n o s (bentL ps k i t z) = 0 := by
      unfold joinE
      rw [if_neg (by simpa using h.checks), htn, if_neg (by simp), hnt, if_neg (by simp)]
    refine ⟨h0, fun hd => ?_⟩
    rw [joinC_ok h0] at hd
    unfold joinD at hd
    refine h.uniq (by omega) (Q := placesL n) ?_ (numsL_places (by omega)) (placesL_len n) ?_
    · unfold placesL
      refine List.pairwise_map.2 (List.Pairwise.imp ?_ List.pairwise_lt_range)
      intro a b hab e
      omega
    · intro q hq
      obtain ⟨j, hj, rfl⟩ := List.mem_map.1 hq
      have hj := List.mem_range.1 hj
      have hp := partV_place (n := n) (data := data) (by omega) (by omega) h.num i hj
      unfold partV at hp
      rw [hp]
      have hg := dataL_get n (bentL ps k i t z) (i := i) hj (rowsN n s) h.row
      by_cases hlt : i * n + j < s
      · have h3 : ((dataL n (bentL ps k i t z) (rowsN n s)).take s)[i * n + j]? = data[i * n + j]? := by rw [hd]
        rw [List.getElem?_take, if_pos hlt, hg] at h3
        rw [List.getD_eq_getElem?_getD, ← h3]
        rfl
      · have h3 : ((dataL n (bentL ps k i t z) (rowsN n s)).drop s)[i * n + j - s]? = .some (atV (xsL n (bentL ps k i t z)) (ysL n (bentL ps k i t z) i) (j : Int)) := by
          rw [List.getElem?_drop, show s + (i * n + j - s) = i * n + j by omega]
          exact hg
        have h4 := List.mem_of_getElem? h3
        have h5 : atV (xsL n (bentL ps k i t z)) (ysL n (bentL ps k i t z) i) (j : Int) = 0 := by
          simp [hasNot] at hnt
          exact hnt _ h4
        rw [h5, List.getD_eq_getElem?_getD, List.getElem?_eq_none (by rw [h.len]; omega)]
        rfl
end

end Go.Proofs.Ytlaabmpadikkjaa
