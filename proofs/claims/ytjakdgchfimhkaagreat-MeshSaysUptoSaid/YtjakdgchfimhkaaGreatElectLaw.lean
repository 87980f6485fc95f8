/-
  Of all sets of places, in order, the one that fewest shares are against: it is what most shares are of.
-/
import Derived.Test.YtjakdgchfimhkaaGreatElectMath
import Derived.Test.YtjakdgchfimhkaaGreatTries
import Derived.Test.YtjakdgchfimhkaaGreatVotes
namespace Go.Proofs.YtjakdgchfimhkaaGreat

/-- One set of places is asked. -/
def electV (n s : Nat) (ls pk : List Sh) (st : Option (List Int × List Int)) : Option (List Int × List Int) :=
  if madeB n s pk = true then
    match st with
    | none => some (madeC n s pk, (ls.filter fun t => !ofMade n s pk t).map (·.1))
    | some b => if ((ls.filter fun t => !ofMade n s pk t).map (·.1)).length < b.2.length then some (madeC n s pk, (ls.filter fun t => !ofMade n s pk t).map (·.1)) else some b
  else st
def pickC (ls : List Sh) (c : List Int) : List Sh := c.map fun i => ls.getD i.toNat (0, [])
/-- What Elect has at the end. -/
def electF (n s : Nat) (ls : List Sh) : Option (List Int × List Int) := (combG n [] (placesI ls.length)).foldl (fun st c => electV n s ls (pickC ls c) st) none
/-- What is best so far, in both words. -/
def Like (ls : List Sh) (st : Vs) (b : Option (List Int × List Int)) : Prop :=
  (st.2 = [] ∧ b = none) ∨ ∃ p : Sh → Bool, st.2 = idxF p 0 ls ∧ st.2 ≠ [] ∧ b = some (st.1, (ls.filter fun t => !p t).map (·.1))
theorem made_torn {n o s : Nat} {pk : List Sh} (h : Right n o s pk) (hl : pk.length = n) (hm : madeB n s pk = true) : pk.all (ofMade n s pk) = true := by
  rw [all_ofMade h hm, Bool.not_eq_true', tornsL, List.any_eq_false]
  intro i _
  unfold tornL
  rw [List.drop_of_length_le (by omega)]
  simp
theorem like_step {n o s : Nat} {ls pk : List Sh} (hR : Right n o s ls) (hs : pk.Sublist ls) (hl : pk.length = n) (hn : 0 < n) {st : Vs} {b : Option (List Int × List Int)} (h : Like ls st b) : Like ls (castV n o s ls pk st) (electV n s ls pk b) := by
  have hp : Right n o s pk := hR.sub hs (by omega)
  have hc := hp.checks
  by_cases hm : madeB n s pk = true
  · obtain ⟨e1, e2⟩ := joins_C hp hc hm (made_torn hp hl hm)
    unfold castV electV
    rw [if_neg (by simpa using e1), if_pos hm, e2]
    have hof : ofD n (rowsN n s) (madeC n s pk) = ofMade n s pk := rfl
    rw [hof]
    obtain ⟨t, ht⟩ : ∃ t, t ∈ pk := by
      cases pk with
      | nil => simp at hl; omega
      | cons t r => exact ⟨t, by simp⟩
    have hpt : ofMade n s pk t = true := List.all_eq_true.1 (made_torn hp hl hm) t ht
    have htl := hs.subset ht
    have hpos : 0 < (idxF (ofMade n s pk) 0 ls).length := by
      rw [idxF_len]
      exact List.countP_pos_iff.2 ⟨t, htl, hpt⟩
    have hne : idxF (ofMade n s pk) 0 ls ≠ [] := fun e => by rw [e] at hpos; simp at hpos
    have hlen : ∀ p : Sh → Bool, ((ls.filter fun t => !p t).map (·.1)).length + (idxF p 0 ls).length = ls.length := fun p => by
      rw [List.length_map, idxF_len, ← List.countP_eq_length_filter]
      have := List.length_eq_countP_add_countP p (l := ls)
      have e : (ls.countP fun t => !p t) = ls.countP (fun a => decide ¬(p a = true)) := by
        congr 1
        funext a
        cases p a <;> rfl
      rw [e]
      omega
    rcases h with ⟨h1, rfl⟩ | ⟨p, h1, h2, rfl⟩
    · rw [h1, if_pos (by simpa using hpos)]
      exact Or.inr ⟨_, rfl, hne, rfl⟩
    · have l1 := hlen (ofMade n s pk)
      have l2 := hlen p
      simp only
      by_cases hlt : st.2.length < (idxF (ofMade n s pk) 0 ls).length
      · rw [if_pos hlt, if_pos (by rw [h1] at hlt; omega)]
        exact Or.inr ⟨_, rfl, hne, rfl⟩
      · rw [if_neg hlt, if_neg (by rw [h1] at hlt; omega)]
        exact Or.inr ⟨p, h1, h2, rfl⟩
  · obtain ⟨e1, _⟩ := joins_9 hp hc (fun hh => hm hh.1)
    unfold castV electV
    rw [if_pos (by rw [e1]; decide), if_neg hm]
    exact h
theorem pick_places (ls : List Sh) : pickC ls (placesI ls.length) = ls := by
  unfold pickC placesI
  rw [List.map_map]
  apply List.ext_getElem
  · simp
  · intro i h1 h2
    simp [List.getD_eq_getElem?_getD, List.getElem?_eq_getElem h2]
theorem elect_fold {n o s : Nat} {ls : List Sh} (hR : Right n o s ls) (hn : 0 < n) : Like ls (finV n o s ls) (electF n s ls) := by
  have e1 : finV n o s ls = ((combG n [] (placesI ls.length)).map (pickC ls)).foldl (fun st c => castV n o s ls c st) ([], []) := by
    unfold finV
    rw [tryL_fold, combL_eq]
    have := combG_map (fun i : Int => ls.getD i.toNat (0, [])) n (placesI ls.length) []
    rw [show (placesI ls.length).map (fun i : Int => ls.getD i.toNat (0, [])) = ls from pick_places ls] at this
    rw [List.map_nil] at this
    rw [← this]
    rfl
  rw [e1]
  unfold electF
  rw [List.foldl_map]
  have key : ∀ (cs : List (List Int)) (st : Vs) (b : Option (List Int × List Int)), (∀ c ∈ cs, (pickC ls c).Sublist ls ∧ (pickC ls c).length = n) → Like ls st b → Like ls (cs.foldl (fun st c => castV n o s ls (pickC ls c) st) st) (cs.foldl (fun st c => electV n s ls (pickC ls c) st) b) := by
    intro cs
    induction cs with
    | nil => intro st b _ h; exact h
    | cons c cs ih =>
      intro st b hc h
      obtain ⟨h1, h2⟩ := hc c (by simp)
      exact ih _ _ (fun d hd => hc d (by simp [hd])) (like_step hR h1 h2 hn h)
  refine key _ _ _ (fun c hc => ?_) (Or.inl ⟨rfl, rfl⟩)
  obtain ⟨q, rfl, h1, h2⟩ := (mem_combG (by simpa using hn)).1 hc
  refine ⟨?_, by unfold pickC; simpa using h2⟩
  have := List.Sublist.map (fun i : Int => ls.getD i.toNat (0, [])) h1
  rw [show (placesI ls.length).map (fun i : Int => ls.getD i.toNat (0, [])) = ls from pick_places ls] at this
  exact this
/-- What Elect answers is what Most answers. -/
theorem elect_most {n o s : Nat} {ls : List Sh} (hR : Right n o s ls) (hn : 0 < n) :
    (electF n s ls = none ∧ mostE n o s ls = 9 ∧ mostB n o s ls = [] ∧ mostW n o s ls = []) ∨ ∃ b, electF n s ls = some b ∧ mostE n o s ls = 0 ∧ mostB n o s ls = b.1 ∧ mostW n o s ls = b.2.mergeSort (fun x y => decide (x ≤ y)) := by
  have hc := hR.checks
  have hE := mostE_nat (n := n) (o := o) (s := s) hc
  rcases elect_fold hR hn with ⟨h1, h2⟩ | ⟨p, h1, h2, h3⟩
  · left
    rw [if_pos h1] at hE
    exact ⟨h2, hE, mostB_no (by rw [hE]; decide), mostW_no (by rw [hE]; decide)⟩
  · right
    rw [if_neg h2] at hE
    refine ⟨_, h3, hE, mostB_nat hE, ?_⟩
    rw [mostW_nat hE, h1, badF_idx]
end Go.Proofs.YtjakdgchfimhkaaGreat
