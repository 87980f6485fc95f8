/-
  The plain law of the reference's Joins: what the first shares make is what Join makes, and all shares are of it exactly if no row is torn.
-/
import Derived.Test.YtnpdojjffbhalaaMadeR
import Derived.Test.YtnpdojjffbhalaaShareLaw
namespace Go.Proofs.Ytnpdojjffbhalaa

section
variable {n o s : Nat} {ls : List Sh}
theorem made_row (_h : Right n o s ls) (hm : madeB n s ls = true) {i j : Nat} (hi : i < rowsN n s) (hj : j < n) : (madeC n s ls).getD (i * n + j) 0 = atV (xsL n ls) (ysL n ls i) (j : Int) := by
  have hg := dataL_get n ls hj (rowsN n s) hi
  rw [madeC_ok hm, List.getD_eq_getElem?_getD]
  by_cases hlt : i * n + j < s
  · rw [List.getElem?_take, if_pos hlt, hg]
    rfl
  · rw [List.getElem?_take, if_neg hlt]
    have h3 : ((dataL n ls (rowsN n s)).drop s)[i * n + j - s]? = some (atV (xsL n ls) (ysL n ls i) (j : Int)) := by
      rw [List.getElem?_drop, show s + (i * n + j - s) = i * n + j by omega]
      exact hg
    have h4 := List.mem_of_getElem? h3
    unfold madeB at hm
    simp [hasNot] at hm
    exact (hm _ h4).symm
theorem made_part (h : Right n o s ls) (hm : madeB n s ls = true) {i : Nat} (hi : i < rowsN n s) (k : Nat) : partV n (madeC n s ls) k i = atV (xsL n ls) (ysL n ls i) (k : Int) := by
  obtain ⟨p1, p2, p3, p4, p5, p6⟩ := planV_bd h.plan
  have hrow : rowL n (madeC n s ls) i = (placesL n).map (atV (xsL n ls) (ysL n ls i)) := by
    apply List.ext_getElem?
    intro j
    by_cases hj : j < n
    · rw [rowL_get _ _ hj, made_row h hm hi hj, List.getElem?_map, placesL_get hj]
      rfl
    · rw [List.getElem?_eq_none (by rw [rowL_len]; omega), List.getElem?_eq_none (by rw [List.length_map, placesL_len]; omega)]
  unfold partV
  rw [hrow]
  refine (atV_same (h.pts i) ?_ (numsL_places (by omega)) ?_).2 _
  · unfold placesL
    refine List.pairwise_map.2 (List.Pairwise.imp ?_ List.pairwise_lt_range)
    intro a b hab e
    omega
  · have := h.few
    rw [placesL_len]
    simp [xsL]; omega
/-- Is a share of what the first ones make? -/
def ofMade (n s : Nat) (ls : List Sh) (t : Sh) : Bool := sameV t.1 t.1 t.2 (shareL n (madeC n s ls) (rowsN n s) t.1.toNat).2
theorem ofMade_iff (h : Right n o s ls) (hm : madeB n s ls = true) {t : Sh} (ht : t ∈ ls) : ofMade n s ls t = true ↔ ∀ i, i < rowsN n s → atV (xsL n ls) (ysL n ls i) t.1 = t.2.getD i 0 := by
  have hn := h.num t ht
  have hl := h.len t ht
  have hk : ((t.1.toNat : Nat) : Int) = t.1 := by omega
  have e : ofMade n s ls t = true ↔ t.2 = (shareL n (madeC n s ls) (rowsN n s) t.1.toNat).2 := by
    unfold ofMade sameV eqInts
    simp
  rw [e]
  constructor
  · intro he i hi
    have h1 := made_part h hm hi t.1.toNat
    rw [hk] at h1
    rw [← h1, List.getD_eq_getElem?_getD]
    conv => rhs; rw [he]
    rw [shareL_get _ _ _ hi]
    rfl
  · intro hh
    apply List.ext_getElem?
    intro i
    by_cases hi : i < rowsN n s
    · have h1 := made_part h hm hi t.1.toNat
      rw [hk] at h1
      rw [shareL_get _ _ _ hi, h1, hh i hi, List.getD_eq_getElem?_getD, List.getElem?_eq_getElem (by omega)]
      rfl
    · rw [List.getElem?_eq_none (by omega), List.getElem?_eq_none (by rw [shareL_len]; omega)]
theorem all_ofMade (h : Right n o s ls) (hm : madeB n s ls = true) : ls.all (ofMade n s ls) = !tornsL n ls (rowsN n s) := by
  rw [Bool.eq_iff_iff, List.all_eq_true, Bool.not_eq_true', tornsL, List.any_eq_false]
  constructor
  · intro hall i hi
    have hi := List.mem_range.1 hi
    unfold tornL
    rw [Bool.not_eq_true, List.any_eq_false]
    intro t ht
    have h1 := (ofMade_iff h hm (List.mem_of_mem_drop ht)).1 (hall t (List.mem_of_mem_drop ht)) i hi
    simp [h1]
  · intro hall t ht
    refine (ofMade_iff h hm ht).2 fun i hi => ?_
    obtain ⟨m, hmt⟩ := List.getElem?_of_mem ht
    by_cases hmn : m < n
    · have hl := h.len t ht
      have hti : t.2[i]? = some t.2[i] := List.getElem?_eq_getElem (by omega)
      rw [List.getD_eq_getElem?_getD, hti]
      refine atV_through (h.pts i) (m := m) ?_ ?_
      · unfold xsL
        rw [List.getElem?_map, List.getElem?_take, if_pos hmn, hmt]
        rfl
      · unfold ysL
        rw [List.getElem?_map, List.getElem?_take, if_pos hmn, hmt]
        simp [List.getD_eq_getElem?_getD, hti]
    · have hd : t ∈ ls.drop n := by
        refine List.mem_of_getElem? (i := m - n) ?_
        rw [List.getElem?_drop, show n + (m - n) = m by omega]
        exact hmt
      have h1 := hall i (List.mem_range.2 hi)
      unfold tornL at h1
      rw [Bool.not_eq_true, List.any_eq_false] at h1
      have h2 := h1 t hd
      simpa using h2
theorem joins_E (h : Right n o s ls) (hc : checksL n o s ls = 0) : joinE n o s ls = if madeB n s ls = true ∧ ls.all (ofMade n s ls) = true then 0 else 9 := by
  unfold joinE
  rw [if_neg (by simpa using hc)]
  by_cases hm : madeB n s ls = true
  · rw [all_ofMade h hm]
    have hn : hasNot ((dataL n ls (rowsN n s)).drop s) = false := by unfold madeB at hm; simpa using hm
    cases tornsL n ls (rowsN n s) <;> simp [hm, hn]
  · have hn : hasNot ((dataL n ls (rowsN n s)).drop s) = true := by unfold madeB at hm; simpa using hm
    cases tornsL n ls (rowsN n s) <;> simp [hm, hn]
theorem joins_C (h : Right n o s ls) (hc : checksL n o s ls = 0) (hm : madeB n s ls = true) (ha : ls.all (ofMade n s ls) = true) : joinE n o s ls = 0 ∧ joinC n o s ls = madeC n s ls := by
  have hE : joinE n o s ls = 0 := by rw [joins_E h hc, if_pos ⟨hm, ha⟩]
  exact ⟨hE, by rw [joinC_ok hE, madeC_ok hm]; rfl⟩
theorem joins_9 (h : Right n o s ls) (hc : checksL n o s ls = 0) (hn : ¬ (madeB n s ls = true ∧ ls.all (ofMade n s ls) = true)) : joinE n o s ls = 9 ∧ joinC n o s ls = [] := by
  have hE : joinE n o s ls = 9 := by rw [joins_E h hc, if_neg hn]
  exact ⟨hE, joinC_err (by rw [hE]; omega)⟩
theorem made_nums (_h : Right n o s ls) (hm : madeB n s ls = true) : ∀ z ∈ madeC n s ls, 0 ≤ z ∧ z < 31 := by
  intro z hz
  rw [madeC_ok hm] at hz
  have hz := List.mem_of_mem_take hz
  unfold dataL at hz
  rw [List.mem_flatten] at hz
  obtain ⟨r, hr, hz⟩ := hz
  obtain ⟨i, _, rfl⟩ := List.mem_map.1 hr
  unfold outL outK at hz
  obtain ⟨j, _, rfl⟩ := List.mem_map.1 hz
  exact atV_bd _ _ _
end
end Go.Proofs.Ytnpdojjffbhalaa
