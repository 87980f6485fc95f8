/-
  What vote.Most reckons: the shares that a content has; each set of as many as are enough is tried, in order.
-/
import Derived.Test.YtnpdojjffbhalaaJoinMath
namespace Go.Proofs.Ytnpdojjffbhalaa

/-- Is it a share of this content? -/
def ofD (n r : Nat) (data : List Int) (t : Sh) : Bool := sameV t.1 t.1 t.2 (shareL n data r t.1.toNat).2
/-- The places at which it is so. -/
def idxF {α : Type} (p : α → Bool) : Nat → List α → List Int
  | _, [] => []
  | k, x :: r => (if p x then [(k : Int)] else []) ++ idxF p (k + 1) r
theorem idxF_snoc {α : Type} (p : α → Bool) : ∀ (l : List α) (k : Nat) (x : α), idxF p k (l ++ [x]) = idxF p k l ++ (if p x then [((k + l.length : Nat) : Int)] else [])
  | [], k, x => by simp [idxF]
  | y :: l, k, x => by
    simp only [List.cons_append, idxF, idxF_snoc p l (k + 1) x, List.append_assoc, List.length_cons]
    rw [show k + 1 + l.length = k + (l.length + 1) by omega]
theorem idxF_step {α : Type} (p : α → Bool) {l : List α} {k : Nat} {x : α} (h : l[k]? = some x) : idxF p 0 (l.take (k + 1)) = idxF p 0 (l.take k) ++ (if p x then [(k : Int)] else []) := by
  have hk := (List.getElem?_eq_some_iff.1 h).1
  rw [take_get h, idxF_snoc, List.length_take, Nat.min_eq_left (by omega), Nat.zero_add]
theorem idxF_len {α : Type} (p : α → Bool) : ∀ (l : List α) (k : Nat), (idxF p k l).length = l.countP p
  | [], k => rfl
  | x :: l, k => by
    simp only [idxF, List.length_append, idxF_len p l (k + 1), List.countP_cons]
    split <;> simp_all <;> omega
theorem mem_idxF {α : Type} {p : α → Bool} : ∀ {l : List α} {k : Nat} {z : Int}, z ∈ idxF p k l ↔ ∃ (i : Nat) (x : α), z = ((k + i : Nat) : Int) ∧ l[i]? = some x ∧ p x = true
  | [], k, z => by simp [idxF]
  | y :: l, k, z => by
    simp only [idxF, List.mem_append, mem_idxF (l := l) (k := k + 1)]
    constructor
    · rintro (h | ⟨i, x, rfl, h1, h2⟩)
      · split at h
        · rename_i hp
          simp at h
          exact ⟨0, y, by simpa using h, rfl, hp⟩
        · simp at h
      · exact ⟨i + 1, x, by rw [show k + 1 + i = k + (i + 1) by omega], by simpa using h1, h2⟩
    · rintro ⟨i, x, rfl, h1, h2⟩
      match i, h1 with
      | 0, h1 => simp at h1; subst h1; left; simp [h2]
      | i + 1, h1 => right; exact ⟨i, x, by rw [show k + 1 + i = k + (i + 1) by omega], by simpa using h1, h2⟩
/-- The numbers of the shares at all other places. -/
def badF (who : List Int) : Nat → List Sh → List Int
  | _, [] => []
  | k, t :: r => (if memB (k : Int) who then [] else [t.1]) ++ badF who (k + 1) r
theorem badF_snoc (who : List Int) : ∀ (l : List Sh) (k : Nat) (t : Sh), badF who k (l ++ [t]) = badF who k l ++ (if memB ((k + l.length : Nat) : Int) who then [] else [t.1])
  | [], k, t => by simp [badF]
  | y :: l, k, t => by
    simp only [List.cons_append, badF, badF_snoc who l (k + 1) t, List.append_assoc, List.length_cons]
    rw [show k + 1 + l.length = k + (l.length + 1) by omega]
theorem badF_step (who : List Int) {l : List Sh} {k : Nat} {t : Sh} (h : l[k]? = some t) : badF who 0 (l.take (k + 1)) = badF who 0 (l.take k) ++ (if memB (k : Int) who then [] else [t.1]) := by
  have hk := (List.getElem?_eq_some_iff.1 h).1
  rw [take_get h, badF_snoc, List.length_take, Nat.min_eq_left (by omega), Nat.zero_add]
theorem badF_len (who : List Int) : ∀ (l : List Sh) (k : Nat), (badF who k l).length ≤ l.length
  | [], _ => by simp [badF]
  | t :: l, k => by
    have := badF_len who l (k + 1)
    simp only [badF, List.length_append, List.length_cons]
    split <;> simp <;> omega
theorem badF_sub (p : Sh → Bool) : ∀ (l : List Sh) (k : Nat) (who : List Int), (∀ (i : Nat) t, l[i]? = some t → (((k + i : Nat) : Int) ∈ who ↔ p t = true)) → badF who k l = (l.filter fun t => !p t).map (·.1)
  | [], _, _, _ => rfl
  | t :: l, k, who, h => by
    have h0 := h 0 t rfl
    have ih := badF_sub p l (k + 1) who (fun i u hu => by
      have := h (i + 1) u (by simpa using hu)
      rwa [show k + (i + 1) = k + 1 + i by omega] at this)
    simp only [badF, ih]
    by_cases hp : p t = true
    · have hm : memB (k : Int) who = true := by unfold memB; simpa using h0.2 hp
      simp [hm, hp]
    · have hm : memB (k : Int) who = false := by
        unfold memB
        simp only [decide_eq_false_iff_not]
        intro hh
        exact hp (h0.1 (by simpa using hh))
      simp only [Bool.not_eq_true] at hp
      simp [hm, hp]
theorem badF_idx (p : Sh → Bool) (l : List Sh) : badF (idxF p 0 l) 0 l = (l.filter fun t => !p t).map (·.1) :=
  badF_sub p l 0 _ fun i t ht => by
    rw [mem_idxF]
    constructor
    · rintro ⟨j, x, e, h1, h2⟩
      have : i = j := by omega
      subst this
      rw [ht] at h1
      cases h1
      exact h2
    · intro hp
      exact ⟨i, t, rfl, ht, hp⟩

/-- What is best so far: a content, the places of its shares. -/
abbrev Vs := List Int × List Int
/-- One set of shares is asked. -/
def castV (n o s : Nat) (ls pk : List Sh) (st : Vs) : Vs :=
  if joinE n o s pk ≠ 0 then st else if st.2.length < (idxF (ofD n (rowsN n s) (joinC n o s pk)) 0 ls).length then (joinC n o s pk, idxF (ofD n (rowsN n s) (joinC n o s pk)) 0 ls) else st
/-- Sets that begin with these, and go on with some of the others. -/
def tryL (n : Nat) (V : List Sh → Vs → Vs) : List Sh → List Sh → Vs → Vs
  | _, [], st => st
  | pk, t :: r, st => tryL n V pk r (if pk.length + 1 = n then V (pk ++ [t]) st else tryL n V (pk ++ [t]) r st)
def tryN (n : Nat) (V : List Sh → Vs → Vs) (pk r : List Sh) (st : Vs) : Vs := if pk.length = n then V pk st else tryL n V pk r st
theorem tryL_cons (n : Nat) (V : List Sh → Vs → Vs) (pk : List Sh) (t : Sh) (r : List Sh) (st : Vs) : tryL n V pk (t :: r) st = tryL n V pk r (tryN n V (pk ++ [t]) r st) := by
  unfold tryN
  rw [tryL]
  simp
theorem tryL_nil (n : Nat) (V : List Sh → Vs → Vs) (pk : List Sh) (st : Vs) : tryL n V pk [] st = st := rfl
/-- All such sets, in order. -/
def combL (n : Nat) : List Sh → List Sh → List (List Sh)
  | _, [] => []
  | pk, t :: r => (if pk.length + 1 = n then [pk ++ [t]] else combL n (pk ++ [t]) r) ++ combL n pk r
theorem tryL_fold (n : Nat) (V : List Sh → Vs → Vs) : ∀ (r pk : List Sh) (st : Vs), tryL n V pk r st = (combL n pk r).foldl (fun st c => V c st) st
  | [], _, _ => rfl
  | t :: r, pk, st => by
    rw [tryL, combL, List.foldl_append, tryL_fold n V r pk]
    congr 1
    split
    · rfl
    · exact tryL_fold n V r _ st
theorem mem_combL {n : Nat} : ∀ {r pk : List Sh} {c : List Sh}, pk.length < n → (c ∈ combL n pk r ↔ ∃ q, c = pk ++ q ∧ q.Sublist r ∧ pk.length + q.length = n)
  | [], pk, c, h => by
    simp only [combL, List.not_mem_nil, false_iff]
    rintro ⟨q, _, h2, h3⟩
    have := List.sublist_nil.1 h2
    subst this
    simp at h3
    omega
  | t :: r, pk, c, h => by
    have ih := mem_combL (r := r) (pk := pk) (c := c) h
    simp only [combL, List.mem_append, ih]
    constructor
    · rintro (h1 | ⟨q, h1, h2, h3⟩)
      · split at h1
        · simp at h1
          exact ⟨[t], h1, List.Sublist.cons_cons t (List.nil_sublist r), by simpa⟩
        · rename_i hn
          obtain ⟨q, h2, h3, h4⟩ := (mem_combL (r := r) (pk := pk ++ [t]) (c := c) (by simp; omega)).1 h1
          exact ⟨t :: q, by simp [h2], h3.cons_cons t, by simp at h4 ⊢; omega⟩
      · exact ⟨q, h1, h2.cons t, h3⟩
    · rintro ⟨q, rfl, h2, h3⟩
      cases h2 with
      | cons _ h2 => exact Or.inr ⟨q, rfl, h2, h3⟩
      | cons_cons _ h2 =>
        rename_i q
        left
        split
        · rename_i hn
          simp at h3
          have : q = [] := List.eq_nil_of_length_eq_zero (by omega)
          subst this
          simp
        · rename_i hn
          refine (mem_combL (r := r) (pk := pk ++ [t]) (by simp; omega)).2 ⟨q, by simp, h2, by simp at h3 ⊢; omega⟩

/-- What is best of all. -/
def finV (n o s : Nat) (ls : List Sh) : Vs := tryL n (castV n o s ls) [] ls ([], [])
def mostE (n o s : Int) (ls : List Sh) : Int := if checksL n o s ls ≠ 0 then checksL n o s ls else if (finV n.toNat o.toNat s.toNat ls).2 = [] then 9 else 0
def mostB (n o s : Int) (ls : List Sh) : List Int := if mostE n o s ls = 0 then (finV n.toNat o.toNat s.toNat ls).1 else []
def mostW (n o s : Int) (ls : List Sh) : List Int := if mostE n o s ls = 0 then (badF (finV n.toNat o.toNat s.toNat ls).2 0 ls).mergeSort (fun x y => decide (x ≤ y)) else []
theorem mostE_chk {n o s : Int} {ls : List Sh} (h : checksL n o s ls ≠ 0) : mostE n o s ls = checksL n o s ls := if_pos h
theorem mostE_nat {n o s : Nat} {ls : List Sh} (h : checksL n o s ls = 0) : mostE n o s ls = if (finV n o s ls).2 = [] then 9 else 0 := by unfold mostE; rw [if_neg (by simpa using h)]; simp
theorem mostB_no {n o s : Int} {ls : List Sh} (h : mostE n o s ls ≠ 0) : mostB n o s ls = [] := if_neg h
theorem mostW_no {n o s : Int} {ls : List Sh} (h : mostE n o s ls ≠ 0) : mostW n o s ls = [] := if_neg h
theorem mostB_nat {n o s : Nat} {ls : List Sh} (h : mostE n o s ls = 0) : mostB n o s ls = (finV n o s ls).1 := by unfold mostB; rw [if_pos h]; simp
theorem mostW_nat {n o s : Nat} {ls : List Sh} (h : mostE n o s ls = 0) : mostW n o s ls = (badF (finV n o s ls).2 0 ls).mergeSort (fun x y => decide (x ≤ y)) := by unfold mostW; rw [if_pos h]; simp
end Go.Proofs.Ytnpdojjffbhalaa
