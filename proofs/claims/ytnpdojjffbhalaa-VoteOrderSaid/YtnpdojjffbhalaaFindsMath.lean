/-
  Shares of which some are bent, whatever they are bent to; which those are.
-/
import Derived.Test.YtnpdojjffbhalaaVoteLaw
namespace Go.Proofs.Ytnpdojjffbhalaa

theorem pick_len {o many : Nat} {ps rest : List Sh} (h : ps.length + rest.length = o) (h1 : rest = [] ∨ (many : Int) ≤ ps.length) (h2 : (ps.length : Int) ≤ many ∨ ps = []) (hm : many ≤ o) (hn : 1 ≤ many) : ps.length = many := by
  rcases h1 with rfl | h1
  · rcases h2 with h2 | rfl
    · simp at h; omega
    · simp at h; omega
  · rcases h2 with h2 | rfl
    · omega
    · simp at h1; omega
/-- A number that share k gets. -/
def newV (tv : List Int) (k : Nat) (l : List Int) (i : Nat) : Int := if k * l.length + i < tv.length then modV (tv.getD (k * l.length + i) 0) 31 else l.getD i 0
def newL (tv : List Int) (k : Nat) (l : List Int) (m : Nat) : List Int := (List.range m).map (newV tv k l)
def newT (tv : List Int) (k : Nat) (t : Sh) : Sh := (t.1, newL tv k t.2 t.2.length)
theorem newL_step (tv : List Int) (k : Nat) (l : List Int) (m : Nat) : newL tv k l (m + 1) = newL tv k l m ++ [newV tv k l m] := by
  unfold newL
  rw [List.range_succ, List.map_append]
  rfl
theorem newL_len (tv : List Int) (k : Nat) (l : List Int) (m : Nat) : (newL tv k l m).length = m := by simp [newL]
def qsK (tv : List Int) (ps : List Sh) : Nat → List Sh
  | 0 => ps
  | k + 1 => (qsK tv ps k).set k (newT tv k (ps.getD k (0, [])))
def wantK (tv : List Int) (ps : List Sh) : Nat → List Int
  | 0 => []
  | k + 1 => wantK tv ps k ++ (if sameV (ps.getD k (0, [])).1 (ps.getD k (0, [])).1 (newT tv k (ps.getD k (0, []))).2 (ps.getD k (0, [])).2 then [] else [(ps.getD k (0, [])).1])
theorem qsK_len (tv : List Int) (ps : List Sh) : ∀ k, (qsK tv ps k).length = ps.length
  | 0 => rfl
  | k + 1 => by rw [qsK, List.length_set, qsK_len tv ps k]
theorem wantK_len (tv : List Int) (ps : List Sh) : ∀ k, (wantK tv ps k).length ≤ k
  | 0 => by simp [wantK]
  | k + 1 => by
    have := wantK_len tv ps k
    rw [wantK, List.length_append]
    split <;> simp <;> omega
theorem getD_of {l : List Sh} {k : Nat} {t : Sh} (h : l[k]? = some t) : l.getD k (0, []) = t := by rw [List.getD_eq_getElem?_getD, h]; rfl
theorem qsK_step {tv : List Int} {ps : List Sh} {k : Nat} {t : Sh} (h : ps[k]? = some t) : qsK tv ps (k + 1) = (qsK tv ps k).set k (newT tv k t) := by rw [qsK, getD_of h]
theorem wantK_step {tv : List Int} {ps : List Sh} {k : Nat} {t : Sh} (h : ps[k]? = some t) : wantK tv ps (k + 1) = wantK tv ps k ++ (if sameV t.1 t.1 (newT tv k t).2 t.2 then [] else [t.1]) := by rw [wantK, getD_of h]
theorem qsK_get {tv : List Int} {ps : List Sh} {j : Nat} {t : Sh} (h : ps[j]? = some t) : ∀ k, (qsK tv ps k)[j]? = some (if j < k then newT tv j t else t)
  | 0 => by simpa [qsK] using h
  | k + 1 => by
    have hj := (List.getElem?_eq_some_iff.1 h).1
    rw [qsK, List.getElem?_set]
    by_cases e : k = j
    · subst e
      rw [if_pos rfl, if_pos (by rw [qsK_len]; exact hj), getD_of h, if_pos (by omega)]
    · rw [if_neg e, qsK_get h k]
      by_cases hlt : j < k
      · rw [if_pos hlt, if_pos (by omega)]
      · rw [if_neg hlt, if_neg (by omega)]

section
variable {n o s : Nat} {data tv : List Int} {ps : List Sh}
theorem qsK_fst (tv : List Int) (ps : List Sh) (b : Nat) : (qsK tv ps b).map (·.1) = ps.map (·.1) := by
  apply List.ext_getElem?
  intro j
  rw [List.getElem?_map, List.getElem?_map]
  by_cases hj : j < ps.length
  · have h : ps[j]? = some ps[j] := List.getElem?_eq_getElem hj
    rw [qsK_get h b, h]
    simp only [Option.map_some]
    split <;> rfl
  · rw [List.getElem?_eq_none (by rw [qsK_len]; omega), List.getElem?_eq_none (by omega)]
theorem qsK_mem {b : Nat} {t : Sh} (h : t ∈ qsK tv ps b) : ∃ j u, ps[j]? = some u ∧ t = if j < b then newT tv j u else u := by
  obtain ⟨j, hj⟩ := List.getElem?_of_mem h
  have hl := (List.getElem?_eq_some_iff.1 hj).1
  rw [qsK_len] at hl
  have h2 : ps[j]? = some ps[j] := List.getElem?_eq_getElem hl
  rw [qsK_get h2 b] at hj
  exact ⟨j, _, h2, (Option.some.inj hj).symm⟩
theorem qsK_right (hR : Right n o s ps) (b : Nat) : Right n o s (qsK tv ps b) := by
  refine ⟨hR.plan, by rw [qsK_len]; exact hR.few, by rw [qsK_len]; exact hR.many, ?_, ?_, ?_, by rw [qsK_fst]; exact hR.nodup⟩
  · intro t ht
    obtain ⟨j, u, hu, rfl⟩ := qsK_mem ht
    have := hR.num u (List.mem_of_getElem? hu)
    split
    · exact this
    · exact this
  · intro t ht
    obtain ⟨j, u, hu, rfl⟩ := qsK_mem ht
    have := hR.len u (List.mem_of_getElem? hu)
    split
    · rw [newT, newL_len]; exact this
    · exact this
  · intro t ht
    obtain ⟨j, u, hu, rfl⟩ := qsK_mem ht
    have := hR.vals u (List.mem_of_getElem? hu)
    split
    · intro z hz
      obtain ⟨i, hi, rfl⟩ := List.mem_map.1 hz
      have hi := List.mem_range.1 hi
      unfold newV
      split
      · exact modV_bd _ (by omega)
      · rw [List.getD_eq_getElem?_getD, List.getElem?_eq_getElem hi]
        exact this _ (List.getElem_mem hi)
    · exact this
theorem someOf_all (h : SomeOf n data o (rowsN n s) ps) : ∀ t ∈ ps, ofD n (rowsN n s) data t = true := fun t ht => by
  obtain ⟨k, _, rfl⟩ := h.of t ht
  exact (ofD_iff (by simp [shareL])).2 (by simp [shareL])
theorem qsK_drop (tv : List Int) (ps : List Sh) (b : Nat) : (qsK tv ps b).drop b = ps.drop b := by
  apply List.ext_getElem?
  intro j
  rw [List.getElem?_drop, List.getElem?_drop]
  by_cases hj : b + j < ps.length
  · have h : ps[b + j]? = some ps[b + j] := List.getElem?_eq_getElem hj
    rw [qsK_get h b, h, if_neg (by omega)]
  · rw [List.getElem?_eq_none (by rw [qsK_len]; omega), List.getElem?_eq_none (by omega)]
theorem qsK_take (h : SomeOf n data o (rowsN n s) ps) (b : Nat) : ∀ k, k ≤ b → k ≤ ps.length → (((qsK tv ps b).take k).filter fun t => !ofD n (rowsN n s) data t).map (·.1) = wantK tv ps k
  | 0, _, _ => by simp [wantK]
  | k + 1, hk, hl => by
    have hu : ps[k]? = some ps[k] := List.getElem?_eq_getElem (by omega)
    have hq := qsK_get (tv := tv) hu b
    rw [if_pos (by omega)] at hq
    rw [take_get hq, List.filter_append, List.map_append, qsK_take h b k (by omega) (by omega), wantK_step hu]
    congr 1
    have ho := someOf_all h _ (List.mem_of_getElem? hu)
    obtain ⟨j, hj, e⟩ := h.of _ (List.mem_of_getElem? hu)
    generalize ps[k] = u at *
    have hn : 0 ≤ u.1 := by rw [e]; simp [shareL]
    have he : (shareL n data (rowsN n s) u.1.toNat).2 = u.2 := by rw [← (ofD_iff hn).1 ho]
    have hd : ofD n (rowsN n s) data (newT tv k u) = sameV u.1 u.1 (newT tv k u).2 u.2 := by
      unfold ofD
      rw [show (newT tv k u).1 = u.1 from rfl, he]
    rw [List.filter_cons, hd]
    cases sameV u.1 u.1 (newT tv k u).2 u.2 <;> simp [newT]
theorem finds (hp : planV n o s = 0) (hl : data.length = s) (hd : ∀ z ∈ data, 0 ≤ z ∧ z < 31) (h : SomeOf n data o (rowsN n s) ps) (hn : n ≤ ps.length) (b : Nat) (hb : 2 * b ≤ ps.length - n) :
    Right n o s (qsK tv ps b) ∧ mostE n o s (qsK tv ps b) = 0 ∧ mostB n o s (qsK tv ps b) = data ∧ mostW n o s (qsK tv ps b) = (wantK tv ps b).mergeSort (fun x y => decide (x ≤ y)) := by
  have h1 := (planV_bd hp).1
  have hR := qsK_right (tv := tv) (h.right hp hn) b
  have hg : ps.length - b ≤ (qsK tv ps b).countP (ofD n (rowsN n s) data) := by
    have h2 := List.Sublist.countP_le (p := ofD n (rowsN n s) data) (List.drop_sublist b (qsK tv ps b))
    rw [qsK_drop, List.countP_eq_length.2 (fun t ht => someOf_all h t (List.mem_of_mem_drop ht)), List.length_drop] at h2
    exact h2
  have hq := qsK_len tv ps b
  obtain ⟨h2, h3, h4⟩ := most_of hR (decode hR hl hd (by rw [hq]; omega)) (by omega)
  refine ⟨hR, h2, h3, ?_⟩
  rw [h4]
  congr 1
  have h5 : (((qsK tv ps b).drop b).filter fun t => !ofD n (rowsN n s) data t) = [] := by
    rw [qsK_drop, List.filter_eq_nil_iff]
    intro t ht
    simp [someOf_all h t (List.mem_of_mem_drop ht)]
  rw [← qsK_take (tv := tv) h b b (Nat.le_refl _) (by omega)]
  conv => lhs; rw [← List.take_append_drop b (qsK tv ps b), List.filter_append, h5, List.append_nil]
end
end Go.Proofs.Ytnpdojjffbhalaa
