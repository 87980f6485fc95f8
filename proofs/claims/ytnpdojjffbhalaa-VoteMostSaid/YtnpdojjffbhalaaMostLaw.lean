/-
  The plain law of the best content: who is named; what Join tells; no other content has more.
-/
import Derived.Test.YtnpdojjffbhalaaFindsMath
namespace Go.Proofs.Ytnpdojjffbhalaa
section
variable {n o s : Nat} {ls : List Sh}
theorem fst_inj (hR : Right n o s ls) {t u : Sh} (ht : t ∈ ls) (hu : u ∈ ls) (h : t.1 = u.1) : t = u := by
  obtain ⟨i, hi⟩ := List.getElem?_of_mem ht
  obtain ⟨j, hj⟩ := List.getElem?_of_mem hu
  have h1 : (ls.map (·.1))[i]? = some t.1 := by rw [List.getElem?_map, hi]; rfl
  have h2 : (ls.map (·.1))[j]? = some t.1 := by rw [List.getElem?_map, hj, h]; rfl
  obtain ⟨l1, e1⟩ := List.getElem?_eq_some_iff.1 h1
  obtain ⟨l2, e2⟩ := List.getElem?_eq_some_iff.1 h2
  have : i = j := by
    have hn := List.pairwise_iff_getElem.1 hR.nodup
    rcases Nat.lt_trichotomy i j with h3 | h3 | h3
    · exact absurd (e1.trans e2.symm) (hn i j l1 l2 h3)
    · exact h3
    · exact absurd (e2.trans e1.symm) (hn j i l2 l1 h3)
  subst this
  rw [hi] at hj
  exact Option.some.inj hj
theorem most_bad (hR : Right n o s ls) (hE : mostE n o s ls = 0) : mostW n o s ls = ((ls.filter fun t => !ofD n (rowsN n s) (mostB n o s ls) t).map (·.1)).mergeSort (fun x y => decide (x ≤ y)) := by
  obtain ⟨c, hc, hj, h1, h2⟩ := most_some hR hE
  rw [mostW_nat hE, h2, badF_idx, h1]
theorem most_mem (hR : Right n o s ls) (hE : mostE n o s ls = 0) {t : Sh} (ht : t ∈ ls) : memB t.1 (mostW n o s ls) = !ofD n (rowsN n s) (mostB n o s ls) t := by
  rw [most_bad hR hE]
  unfold memB
  rw [Bool.eq_iff_iff, decide_eq_true_eq, List.mem_mergeSort]
  constructor
  · intro h
    obtain ⟨u, hu, e⟩ := List.mem_map.1 h
    obtain ⟨h1, h2⟩ := List.mem_filter.1 hu
    rw [← fst_inj hR h1 ht e]
    exact h2
  · intro h
    exact List.mem_map.2 ⟨t, List.mem_filter.2 ⟨ht, h⟩, rfl⟩
theorem most_len (hR : Right n o s ls) (hE : mostE n o s ls = 0) : (mostW n o s ls).length + ls.countP (ofD n (rowsN n s) (mostB n o s ls)) = ls.length := by
  rw [most_bad hR hE, List.length_mergeSort, List.length_map, ← List.countP_eq_length_filter]
  have := List.length_eq_countP_add_countP (ofD n (rowsN n s) (mostB n o s ls)) (l := ls)
  have e : ls.countP (fun t => !ofD n (rowsN n s) (mostB n o s ls) t) = ls.countP (fun a => decide ¬ofD n (rowsN n s) (mostB n o s ls) a = true) := by
    congr 1
    funext t
    cases ofD n (rowsN n s) (mostB n o s ls) t <;> rfl
  rw [e]
  omega
theorem most_data (hR : Right n o s ls) (hE : mostE n o s ls = 0) : splitE n o s (mostB n o s ls) = 0 := by
  obtain ⟨c, hc, hj, h1, h2⟩ := most_some hR hE
  rw [h1]
  exact join_split (comb_right hR hc).1 hj
/-- All shares are of one content: it is the best one, and nobody is named. -/
theorem most_join (hR : Right n o s ls) (hj : joinE n o s ls = 0) : mostE n o s ls = 0 ∧ mostB n o s ls = joinC n o s ls ∧ mostW n o s ls = [] := by
  obtain ⟨h1, h2⟩ := join_data hR hj
  exact most_whole hR.plan h1 h2 (someOf_ofD hR (List.Sublist.refl _) (join_all hR hj)) hR.few
theorem join_most (hR : Right n o s ls) (hE : mostE n o s ls = 0) (hw : mostW n o s ls = []) : joinE n o s ls = 0 := by
  have h1 := most_len hR hE
  rw [hw] at h1
  simp only [List.length_nil, Nat.zero_add] at h1
  obtain ⟨_, h2, h3⟩ := splitE_ok (most_data hR hE)
  exact ((someOf_ofD hR (List.Sublist.refl _) (List.countP_eq_length.1 h1)).joins hR.plan (by omega) h3 hR.few).1
/-- No content that some of the shares make has more of them. -/
theorem most_top (hR : Right n o s ls) (hE : mostE n o s ls = 0) {ps rest : List Sh} (hp : (ps ++ rest).Perm ls) (hn : ps.length = n) (hRp : Right n o s ps) (hj : joinE n o s ps = 0) : ls.countP (ofD n (rowsN n s) (joinC n o s ps)) + (mostW n o s ls).length ≤ ls.length := by
  obtain ⟨h1, h2⟩ := join_data hRp hj
  have hall := join_all hRp hj
  have hsub : (ls.filter fun t => decide (t ∈ ps)).Sublist ls := List.filter_sublist
  have hlen : n ≤ (ls.filter fun t => decide (t ∈ ps)).length := by
    rw [← List.countP_eq_length_filter, ← hp.countP_eq, List.countP_append, List.countP_eq_length.2 (fun t ht => by simpa using ht)]
    omega
  have hpk : ((ls.filter fun t => decide (t ∈ ps)).take n).Sublist ls := (List.take_sublist _ _).trans hsub
  have hof : ∀ t ∈ (ls.filter fun t => decide (t ∈ ps)).take n, ofD n (rowsN n s) (joinC n o s ps) t = true := fun t ht => hall t (by simpa using (List.mem_filter.1 (List.mem_of_mem_take ht)).2)
  have hl : ((ls.filter fun t => decide (t ∈ ps)).take n).length = n := by rw [List.length_take]; omega
  have hJ := (someOf_ofD hR hpk hof).joins hR.plan h1 h2 (by omega)
  have hm := (fold_max (n := n) (o := o) (s := s) (ls := ls) (combL n [] ls) ([], [])).2 _ (mem_comb hR hpk hl) hJ.1
  rw [← finV_fold, hJ.2, idxF_len] at hm
  obtain ⟨c, hc, hj2, h3, h4⟩ := most_some hR hE
  rw [h4, ← h3, idxF_len] at hm
  have := most_len hR hE
  omega
theorem Right.picked (hR : Right n o s ls) {ps rest : List Sh} (hp : (ps ++ rest).Perm ls) (hn : n ≤ ps.length) : Right n o s ps := by
  have hs : ∀ t ∈ ps, t ∈ ls := fun t ht => hp.subset (List.mem_append_left _ ht)
  have hl := hp.length_eq
  rw [List.length_append] at hl
  have hm := hR.many
  refine ⟨hR.plan, hn, by omega, fun t ht => hR.num t (hs t ht), fun t ht => hR.len t (hs t ht), fun t ht => hR.vals t (hs t ht), ?_⟩
  have h2 := (hp.map (·.1)).nodup_iff.2 hR.nodup
  rw [List.map_append] at h2
  exact (List.nodup_append.1 h2).1
end
end Go.Proofs.Ytnpdojjffbhalaa
