/-
  The plain laws of what versions have in common, and of books that grow.
-/
import Derived.Test.YtpjlngkndofjfaaBookMath
namespace Go.Proofs.Ytpjlngkndofjfaa
section
variable {b : List Ver}

/-- The reference's answer: one by one, those above which there is none. -/
def topV (b : List Ver) (i j k : Int) : Bool := !((List.range b.length).any fun (o : Nat) => decide (k < (o : Int)) && (fromV b i o && fromV b j o && fromV b o k))
def commonR (b : List Ver) (i j : Int) : List Int := ((List.range b.length).map fun (k : Nat) => (k : Int)).filter fun k => fromV b i k && fromV b j k && topV b i j k
theorem common_eq (h : BookOk b) {i j : Int} (i0 : 0 ≤ i) (i1 : i < b.length) (j0 : 0 ≤ j) (j1 : j < b.length) : commonR b i j = commonL b i j := by
  have ht := h.top
  refine sorted_ext ((range_sorted _).filter _) (common_sorted _ _ _) fun k => ?_
  rw [mem_common h i0 (by omega) j0 (by omega)]
  unfold commonR
  rw [List.mem_filter]
  simp only [Bool.and_eq_true]
  constructor
  · rintro ⟨_, ⟨hi, hj⟩, htop⟩
    refine ⟨⟨hi, hj⟩, fun o oi oj ok => ?_⟩
    have ob := from_bd h i0 (by omega) oi
    have kb := from_bd h ob.1 (by omega) ok
    by_cases e : o = k
    · exact e
    · exfalso
      unfold topV at htop
      rw [Bool.not_eq_true', List.any_eq_false] at htop
      have := htop o.toNat (List.mem_range.2 (by omega))
      rw [show ((o.toNat : Nat) : Int) = o by omega] at this
      simp [oi, oj, ok] at this
      omega
  · rintro ⟨⟨hi, hj⟩, hmax⟩
    have kb := from_bd h i0 (by omega) hi
    refine ⟨List.mem_map.2 ⟨k.toNat, List.mem_range.2 (by omega), by omega⟩, ⟨hi, hj⟩, ?_⟩
    unfold topV
    rw [Bool.not_eq_true', List.any_eq_false]
    intro o ho hh
    simp only [Bool.and_eq_true, decide_eq_true_eq] at hh
    have := hmax o hh.2.1.1 hh.2.1.2 hh.2.2
    omega
theorem mem_common_left (h : BookOk b) {i j : Int} (i0 : 0 ≤ i) (i1 : i ≤ 12) (j0 : 0 ≤ j) (j1 : j ≤ 12) : i ∈ commonL b i j ↔ fromV b j i = true := by
  rw [mem_common h i0 i1 j0 j1]
  constructor
  · exact fun hh => hh.1.2
  · intro hj
    refine ⟨⟨from_self _ _, hj⟩, fun o oi _ ok => ?_⟩
    have ob := from_bd h i0 i1 oi
    have := from_bd h ob.1 (by omega) ok
    omega
theorem common_comm (h : BookOk b) {i j : Int} (i0 : 0 ≤ i) (i1 : i ≤ 12) (j0 : 0 ≤ j) (j1 : j ≤ 12) : commonL b i j = commonL b j i := by
  refine sorted_ext (common_sorted _ _ _) (common_sorted _ _ _) fun k => ?_
  rw [mem_common h i0 i1 j0 j1, mem_common h j0 j1 i0 i1]
  constructor
  · rintro ⟨⟨a, c⟩, d⟩; exact ⟨⟨c, a⟩, fun o x y => d o y x⟩
  · rintro ⟨⟨a, c⟩, d⟩; exact ⟨⟨c, a⟩, fun o x y => d o y x⟩
theorem apart_eq (h : BookOk b) {i j : Int} (i0 : 0 ≤ i) (i1 : i ≤ 12) (j0 : 0 ≤ j) (j1 : j ≤ 12) : apartV b i j = (!fromV b i j && !fromV b j i) := by
  have h1 := mem_common_left h i0 i1 j0 j1
  have h2 := mem_common_left h j0 j1 i0 i1
  rw [← common_comm h i0 i1 j0 j1] at h2
  have e1 : memB i (commonL b i j) = fromV b j i := by
    rw [Bool.eq_iff_iff]; simp [memB, h1]
  have e2 : memB j (commonL b i j) = fromV b i j := by
    rw [Bool.eq_iff_iff]; simp [memB, h2]
  unfold apartV
  rw [e1, e2, Bool.and_comm]
/-- Above all that both come from there is one of them that is in common. -/
theorem common_above (h : BookOk b) {i j : Int} (i0 : 0 ≤ i) (i1 : i ≤ 12) (j0 : 0 ≤ j) (j1 : j ≤ 12) : ∀ (n : Nat) {k : Int}, 12 - k ≤ n → fromV b i k = true → fromV b j k = true → ∃ o ∈ commonL b i j, fromV b o k = true
  | n, k, hn, hi, hj => by
    have kb := from_bd h i0 i1 hi
    by_cases hmax : ∀ o, fromV b i o = true → fromV b j o = true → fromV b o k = true → o = k
    · exact ⟨k, (mem_common h i0 i1 j0 j1).2 ⟨⟨hi, hj⟩, hmax⟩, from_self _ _⟩
    · simp only [Classical.not_forall] at hmax
      obtain ⟨o, oi, oj, ok, hne⟩ := hmax
      have ob := from_bd h i0 i1 oi
      have kb2 := from_bd h ob.1 (by omega) ok
      match n with
      | 0 => omega
      | n + 1 =>
        obtain ⟨p, hp, hpo⟩ := common_above h i0 i1 j0 j1 n (k := o) (by omega) oi oj
        have pb := (mem_common h i0 i1 j0 j1).1 hp
        have pbd := from_bd h i0 i1 pb.1.1
        exact ⟨p, hp, from_trans h pbd.1 (by omega) hpo ok⟩
/-- Of one that comes from the other it is that other one. -/
theorem common_from (h : BookOk b) {i j : Int} (i0 : 0 ≤ i) (i1 : i ≤ 12) (hij : fromV b i j = true) : commonL b i j = [j] := by
  have jb := from_bd h i0 i1 hij
  refine sorted_ext (common_sorted _ _ _) (by simp) fun k => ?_
  rw [mem_common h i0 i1 jb.1 (by omega), List.mem_singleton]
  constructor
  · rintro ⟨⟨_, hj⟩, hmax⟩
    exact (hmax j hij (from_self _ _) hj).symm
  · rintro rfl
    refine ⟨⟨hij, from_self _ _⟩, fun o _ oj ok => ?_⟩
    have a := from_bd h jb.1 (by omega) oj
    have c := from_bd h a.1 (by omega) ok
    omega

/-! ### A book that grows -/
theorem pars_old (v : Ver) {k : Nat} (hk : k < b.length) : pars (b ++ [v]) k = pars b k := by unfold pars; rw [List.getElem?_append_left hk]
theorem pars_new (v : Ver) : pars (b ++ [v]) b.length = v.1 := by simp [pars]
theorem from_old_n (h : BookOk b) (v : Ver) (o : Int) : ∀ (f : Nat) (k : Int), 0 ≤ k → k < b.length → fromF (b ++ [v]) f k o = fromF b f k o
  | 0, _, _, _ => rfl
  | f + 1, k, h0, h1 => by
    unfold fromF
    congr 1
    rw [pars_old v (by omega)]
    have hp := (h.pars k.toNat).1
    generalize pars b k.toNat = l at hp
    induction l with
    | nil => rfl
    | cons p r ih =>
      have hp0 := hp p (by simp)
      simp only [List.any_cons]
      rw [ih (fun q hq => hp q (by simp [hq])), from_old_n h v o f p hp0.1 (by omega)]
theorem from_old (h : BookOk b) (v : Ver) {k : Int} (h0 : 0 ≤ k) (h1 : k < b.length) (o : Int) : fromV (b ++ [v]) k o = fromV b k o := from_old_n h v o 12 k h0 h1
theorem behind_old (h : BookOk b) (v : Ver) {k : Int} (h0 : 0 ≤ k) (h1 : k < b.length) : behindL (b ++ [v]) k = behindL b k := by
  unfold behindL
  congr 1
  funext o
  exact from_old h v h0 h1 o
theorem from_new (h : BookOk b) {v : Ver} (hv : BookOk (b ++ [v])) (o : Int) : fromV (b ++ [v]) b.length o = true ↔ o = b.length ∨ ∃ p ∈ v.1, fromV b p o = true := by
  have ht := hv.top
  simp at ht
  rw [fromV_iff hv (by omega) (by omega)]
  rw [show ((b.length : Int)).toNat = b.length by omega, pars_new]
  have hp := (hv.par b.length v (by simp)).1
  constructor
  · rintro (e | ⟨p, hp', hf⟩)
    · exact Or.inl e.symm
    · have := hp p hp'
      exact Or.inr ⟨p, hp', by rw [← from_old h v this.1 this.2]; exact hf⟩
  · rintro (e | ⟨p, hp', hf⟩)
    · exact Or.inl e.symm
    · have := hp p hp'
      exact Or.inr ⟨p, hp', by rw [from_old h v this.1 this.2]; exact hf⟩
theorem mem_heads (k : Int) : k ∈ headsL b ↔ (0 ≤ k ∧ k < b.length) ∧ ∀ v ∈ b, k ∉ v.1 := by
  unfold headsL
  rw [List.mem_filter, List.mem_map]
  simp only [Bool.not_eq_true', List.any_eq_false, memB, decide_eq_true_eq]
  constructor
  · rintro ⟨⟨n, hn, rfl⟩, h2⟩
    have := List.mem_range.1 hn
    exact ⟨by omega, h2⟩
  · rintro ⟨h1, h2⟩
    exact ⟨⟨k.toNat, List.mem_range.2 (by omega), by omega⟩, h2⟩
theorem heads_new {v : Ver} (hv : BookOk (b ++ [v])) : (b.length : Int) ∈ headsL (b ++ [v]) := by
  rw [mem_heads]
  refine ⟨by simp; omega, fun u hu hm => ?_⟩
  obtain ⟨k, hk⟩ := List.getElem?_of_mem hu
  have hl := (List.getElem?_eq_some_iff.1 hk).1
  have := (hv.par k u hk).1 _ hm
  simp at hl
  omega
theorem heads_parent {v : Ver} {p : Int} (hp : p ∈ v.1) : p ∉ headsL (b ++ [v]) := by
  rw [mem_heads]
  rintro ⟨_, h⟩
  exact h v (by simp) hp
/-- What is behind the new one: all that is behind its parents, and itself. -/
def underL (b : List Ver) (v : Ver) : List Int := (b.length : Int) :: v.1.flatMap fun p => behindL b p
theorem mem_under (h : BookOk b) {v : Ver} (hv : BookOk (b ++ [v])) (o : Int) : o ∈ behindL (b ++ [v]) b.length ↔ o ∈ underL b v := by
  have ht := hv.top
  simp at ht
  have hp := (hv.par b.length v (by simp)).1
  rw [mem_behind hv (by omega) (by omega), from_new h hv]
  unfold underL
  rw [List.mem_cons, List.mem_flatMap]
  constructor
  · rintro (e | ⟨p, hp', hf⟩)
    · exact Or.inl e
    · have := hp p hp'
      exact Or.inr ⟨p, hp', (mem_behind h this.1 (by omega)).2 hf⟩
  · rintro (e | ⟨p, hp', hf⟩)
    · exact Or.inl e
    · have := hp p hp'
      exact Or.inr ⟨p, hp', (mem_behind h this.1 (by omega)).1 hf⟩
end
end Go.Proofs.Ytpjlngkndofjfaa
