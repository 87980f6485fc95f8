/-
  Books in plain lists: what is wrong with one, what is behind a version, its heads, what two versions have in common.
  The plain laws of what versions have in common, and of books that grow.
  The walks of a book's check, and the reference's.
  The walk of the reference's check of a book.
  The walk of the closed facts' family.
  From what a book and a version read as, to this proof's words.
-/
import Derived.Test.YtnpdojjffbhalaaGreatCurves
import Derived.Test.YtnpdojjffbhalaaGreatRowAll
import Derived.Test.YtnpdojjffbhalaaGreatBase
namespace Go.Proofs.YtnpdojjffbhalaaGreat

/-- A version: its parents, its plan. -/
abbrev Ver := List Int × Int × Int × Int

/-- What is wrong with the parents of version k, the last one before them being given. -/
def parsV (k : Int) : Int → List Int → Int
  | _, [] => 0
  | last, p :: r => if p < 0 ∨ k ≤ p then 4 else if p ≤ last then 5 else parsV k p r
/-- What is wrong with one version. -/
def verV (k : Int) (v : Ver) : Int := if parsV k (-1) v.1 ≠ 0 then parsV k (-1) v.1 else planV v.2.1 v.2.2.1 v.2.2.2
def versV : Nat → List Ver → Int
  | _, [] => 0
  | k, v :: r => if verV k v ≠ 0 then verV k v else versV (k + 1) r
/-- What Check of a book answers. -/
def bookV (b : List Ver) : Int := if 12 < (b.length : Int) then 1 else versV 0 b

theorem parsV_ok (k : Int) : ∀ (l : List Int) (last : Int), -1 ≤ last → (parsV k last l = 0 ↔ (∀ p ∈ l, last < p ∧ 0 ≤ p ∧ p < k) ∧ l.Pairwise (· < ·))
  | [], last, _ => by simp [parsV]
  | p :: r, last, h => by
    unfold parsV
    by_cases h1 : p < 0 ∨ k ≤ p
    · rw [if_pos h1]
      constructor
      · intro e; simp at e
      · rintro ⟨h2, _⟩
        have := h2 p (by simp)
        omega
    · rw [if_neg h1]
      by_cases h2 : p ≤ last
      · rw [if_pos h2]
        constructor
        · intro e; simp at e
        · rintro ⟨h3, _⟩
          have := h3 p (by simp)
          omega
      · rw [if_neg h2, parsV_ok k r p (by omega), List.pairwise_cons]
        constructor
        · rintro ⟨h3, h4⟩
          refine ⟨?_, fun q hq => (h3 q hq).1, h4⟩
          intro q hq
          rcases List.mem_cons.1 hq with rfl | hq
          · omega
          · have := h3 q hq; omega
        · rintro ⟨h3, h4, h5⟩
          refine ⟨fun q hq => ?_, h5⟩
          have a := h3 q (by simp [hq])
          have b := h4 q hq
          omega

/-- What a right book is. -/
structure BookOk (b : List Ver) : Prop where
  top : b.length ≤ 12
  par : ∀ (k : Nat) v, b[k]? = some v → (∀ p ∈ v.1, 0 ≤ p ∧ p < (k : Int)) ∧ v.1.Pairwise (· < ·)
  plan : ∀ (k : Nat) v, b[k]? = some v → planV v.2.1 v.2.2.1 v.2.2.2 = 0

theorem verV_ok {k : Int} {v : Ver} : verV k v = 0 ↔ ((∀ p ∈ v.1, 0 ≤ p ∧ p < k) ∧ v.1.Pairwise (· < ·)) ∧ planV v.2.1 v.2.2.1 v.2.2.2 = 0 := by
  have h := parsV_ok k v.1 (-1) (by omega)
  unfold verV
  split
  · rename_i h1
    constructor
    · intro e; exact absurd e h1
    · rintro ⟨⟨h2, h3⟩, _⟩
      exact absurd (h.2 ⟨fun p hp => by have := h2 p hp; omega, h3⟩) h1
  · rename_i h1
    have h1 : parsV k (-1) v.1 = 0 := Classical.byContradiction h1
    have h2 := h.1 h1
    constructor
    · intro e; exact ⟨⟨fun p hp => (h2.1 p hp).2, h2.2⟩, e⟩
    · rintro ⟨_, e⟩; exact e
theorem versV_ok : ∀ (vs : List Ver) (k : Nat), versV k vs = 0 ↔ ∀ (i : Nat) v, vs[i]? = some v → verV ((k + i : Nat) : Int) v = 0
  | [], k => by simp [versV]
  | v :: r, k => by
    unfold versV
    by_cases h : verV k v = 0
    · rw [if_neg (by simpa using h), versV_ok r (k + 1)]
      constructor
      · intro hh i u hu
        match i, hu with
        | 0, hu => simp at hu; subst hu; simpa using h
        | i + 1, hu =>
          have := hh i u (by simpa using hu)
          rw [show k + (i + 1) = k + 1 + i by omega]
          exact this
      · intro hh i u hu
        have := hh (i + 1) u (by simpa using hu)
        rw [show k + (i + 1) = k + 1 + i by omega] at this
        exact this
    · rw [if_pos h]
      constructor
      · intro e; exact absurd e h
      · intro hh
        have := hh 0 v (by simp)
        simp at this
        exact absurd this h
theorem bookV_ok {b : List Ver} : bookV b = 0 ↔ BookOk b := by
  unfold bookV
  by_cases h : 12 < (b.length : Int)
  · rw [if_pos h]
    constructor
    · intro e; simp at e
    · intro hb; have := hb.top; omega
  · rw [if_neg h, versV_ok]
    constructor
    · intro hh
      refine ⟨by omega, fun k v hv => ?_, fun k v hv => ?_⟩
      · have := verV_ok.1 (hh k v hv)
        simpa using this.1
      · exact (verV_ok.1 (hh k v hv)).2
    · intro hb i v hv
      exact verV_ok.2 ⟨by simpa using hb.par i v hv, hb.plan i v hv⟩

/-- The parents of version k. -/
def pars (b : List Ver) (k : Nat) : List Int := ((b[k]?).map (·.1)).getD []
/-- Does version k come from another one? (With so many steps.) -/
def fromF (b : List Ver) : Nat → Int → Int → Bool
  | 0, k, old => decide (k = old)
  | f + 1, k, old => decide (k = old) || (pars b k.toNat).any (fun p => fromF b f p old)
def fromV (b : List Ver) (k old : Int) : Bool := fromF b 12 k old

section
variable {b : List Ver}
theorem BookOk.pars (h : BookOk b) (k : Nat) : (∀ p ∈ pars b k, 0 ≤ p ∧ p < (k : Int)) ∧ (Go.Proofs.YtnpdojjffbhalaaGreat.pars b k).Pairwise (· < ·) := by
  unfold Go.Proofs.YtnpdojjffbhalaaGreat.pars
  cases hv : b[k]? with
  | none => simp
  | some v => simpa using h.par k v hv
theorem pars_get {k : Nat} {v : Ver} (h : b[k]? = some v) : pars b k = v.1 := by simp [pars, h]
theorem pars_past {k : Nat} (h : b.length ≤ k) : pars b k = [] := by simp [pars, List.getElem?_eq_none h]

theorem fromF_stable (h : BookOk b) (old : Int) : ∀ (f g : Nat) (k : Int), 0 ≤ k → k ≤ f → k ≤ g → fromF b f k old = fromF b g k old
  | 0, 0, _, _, _, _ => rfl
  | 0, g + 1, k, h0, h1, _ => by
    have : k = 0 := by omega
    subst this
    have hp : pars b 0 = [] := by
      cases hl : pars b 0 with
      | nil => rfl
      | cons p r =>
        have := (h.pars 0).1 p (by rw [hl]; simp)
        omega
    simp [fromF, hp]
  | f + 1, 0, k, h0, _, h1 => by
    have : k = 0 := by omega
    subst this
    have hp : pars b 0 = [] := by
      cases hl : pars b 0 with
      | nil => rfl
      | cons p r =>
        have := (h.pars 0).1 p (by rw [hl]; simp)
        omega
    simp [fromF, hp]
  | f + 1, g + 1, k, h0, h1, h2 => by
    unfold fromF
    congr 1
    have hp := (h.pars k.toNat).1
    generalize pars b k.toNat = l at hp
    induction l with
    | nil => rfl
    | cons p r ih =>
      have hp0 := hp p (by simp)
      simp only [List.any_cons]
      rw [ih (fun q hq => hp q (by simp [hq])), fromF_stable h old f g p hp0.1 (by omega) (by omega)]
theorem fromV_step (h : BookOk b) {k : Int} (h0 : 0 ≤ k) (h1 : k ≤ 12) (old : Int) : fromV b k old = (decide (k = old) || (pars b k.toNat).any (fun p => fromV b p old)) := by
  unfold fromV
  rw [fromF_stable h old 12 13 k h0 (by omega) (by omega)]
  rfl
theorem fromV_iff (h : BookOk b) {k : Int} (h0 : 0 ≤ k) (h1 : k ≤ 12) {old : Int} : fromV b k old = true ↔ k = old ∨ ∃ p ∈ pars b k.toNat, fromV b p old = true := by
  rw [fromV_step h h0 h1]
  simp
theorem from_self (b : List Ver) (k : Int) : fromV b k k = true := by simp [fromV, fromF]

theorem from_le (h : BookOk b) : ∀ (n : Nat) {k old : Int}, k ≤ n → 0 ≤ k → k ≤ 12 → fromV b k old = true → 0 ≤ old ∧ old ≤ k
  | n, k, old, hn, h0, h1, hf => by
    rcases (fromV_iff h h0 h1).1 hf with rfl | ⟨p, hp, hf⟩
    · omega
    · have hb := (h.pars k.toNat).1 p hp
      match n with
      | 0 => omega
      | n + 1 =>
        have := from_le h n (k := p) (by omega) (by omega) (by omega) hf
        omega
theorem from_bd (h : BookOk b) {k old : Int} (h0 : 0 ≤ k) (h1 : k ≤ 12) (hf : fromV b k old = true) : 0 ≤ old ∧ old ≤ k := from_le h k.toNat (by omega) h0 h1 hf
theorem from_trans_n (h : BookOk b) {m o : Int} (hm : fromV b m o = true) : ∀ (n : Nat) {k : Int}, k ≤ n → 0 ≤ k → k ≤ 12 → fromV b k m = true → fromV b k o = true
  | n, k, hn, h0, h1, hf => by
    rcases (fromV_iff h h0 h1).1 hf with rfl | ⟨p, hp, hf⟩
    · exact hm
    · have hb := (h.pars k.toNat).1 p hp
      match n with
      | 0 => omega
      | n + 1 => exact (fromV_iff h h0 h1).2 (Or.inr ⟨p, hp, from_trans_n h hm n (by omega) (by omega) (by omega) hf⟩)
theorem from_trans (h : BookOk b) {k m o : Int} (h0 : 0 ≤ k) (h1 : k ≤ 12) (hk : fromV b k m = true) (hm : fromV b m o = true) : fromV b k o = true := from_trans_n h hm k.toNat (by omega) h0 h1 hk
/-- A parent of what it comes from it comes from too. -/
theorem from_par (h : BookOk b) {k m o : Int} (h0 : 0 ≤ k) (h1 : k ≤ 12) (hk : fromV b k m = true) (ho : o ∈ pars b m.toNat) : fromV b k o = true := by
  have hb := from_bd h h0 h1 hk
  exact from_trans h h0 h1 hk ((fromV_iff h hb.1 (by omega)).2 (Or.inr ⟨o, ho, from_self _ _⟩))
theorem from_last_n (h : BookOk b) {o : Int} : ∀ (n : Nat) {k : Int}, k ≤ n → 0 ≤ k → k ≤ 12 → fromV b k o = true → k ≠ o → ∃ m, fromV b k m = true ∧ o ∈ pars b m.toNat
  | n, k, hn, h0, h1, hf, hne => by
    rcases (fromV_iff h h0 h1).1 hf with rfl | ⟨p, hp, hf⟩
    · exact absurd rfl hne
    · have hb := (h.pars k.toNat).1 p hp
      by_cases hpo : p = o
      · subst hpo
        exact ⟨k, from_self _ _, hp⟩
      · match n with
        | 0 => omega
        | n + 1 =>
          obtain ⟨m, hm, ho⟩ := from_last_n h n (k := p) (by omega) (by omega) (by omega) hf hpo
          exact ⟨m, (fromV_iff h h0 h1).2 (Or.inr ⟨p, hp, hm⟩), ho⟩
theorem from_iff_last (h : BookOk b) {k o : Int} (h0 : 0 ≤ k) (h1 : k ≤ 12) : fromV b k o = true ↔ o = k ∨ ∃ m, 0 ≤ m ∧ o < m ∧ m ≤ k ∧ fromV b k m = true ∧ o ∈ pars b m.toNat := by
  constructor
  · intro hf
    by_cases e : o = k
    · exact Or.inl e
    · obtain ⟨m, hm, ho⟩ := from_last_n h k.toNat (by omega) h0 h1 hf (fun e' => e e'.symm)
      have hb := from_bd h h0 h1 hm
      have hp := (h.pars m.toNat).1 o ho
      exact Or.inr ⟨m, hb.1, by omega, hb.2, hm, ho⟩
  · rintro (rfl | ⟨m, _, _, _, hm, ho⟩)
    · exact from_self _ _
    · exact from_par h h0 h1 hm ho

/-- All that version k comes from, rising. -/
def behindL (b : List Ver) (k : Int) : List Int := ((List.range (k.toNat + 1)).map fun (j : Nat) => (j : Int)).filter fun o => fromV b k o
theorem mem_behind (h : BookOk b) {k o : Int} (h0 : 0 ≤ k) (h1 : k ≤ 12) : o ∈ behindL b k ↔ fromV b k o = true := by
  unfold behindL
  rw [List.mem_filter]
  constructor
  · rintro ⟨_, h⟩; exact h
  · intro hf
    have hb := from_bd h h0 h1 hf
    exact ⟨List.mem_map.2 ⟨o.toNat, List.mem_range.2 (by omega), by omega⟩, hf⟩
theorem range_sorted (n : Nat) : ((List.range n).map fun (j : Nat) => (j : Int)).Pairwise (· < ·) :=
  List.pairwise_map.2 (List.Pairwise.imp (fun hab => by omega) List.pairwise_lt_range)
theorem behind_sorted (b : List Ver) (k : Int) : (behindL b k).Pairwise (· < ·) := (range_sorted _).filter _
/-- Rising lists of the same numbers are one. -/
theorem sorted_ext : ∀ {l r : List Int}, l.Pairwise (· < ·) → r.Pairwise (· < ·) → (∀ x, x ∈ l ↔ x ∈ r) → l = r
  | [], [], _, _, _ => rfl
  | [], y :: r, _, _, h => by have := (h y).2 (by simp); simp at this
  | x :: l, [], _, _, h => by have := (h x).1 (by simp); simp at this
  | x :: l, y :: r, hl, hr, h => by
    have hl' := List.pairwise_cons.1 hl
    have hr' := List.pairwise_cons.1 hr
    have hxy : x = y := by
      rcases List.mem_cons.1 ((h x).1 (by simp)) with e | hx
      · exact e
      · rcases List.mem_cons.1 ((h y).2 (by simp)) with e | hy
        · exact e.symm
        · have a := hl'.1 y hy
          have c := hr'.1 x hx
          omega
    subst hxy
    congr 1
    refine sorted_ext hl'.2 hr'.2 fun z => ?_
    constructor
    · intro hz
      rcases List.mem_cons.1 ((h z).1 (by simp [hz])) with e | hz'
      · subst e; have := hl'.1 z hz; omega
      · exact hz'
    · intro hz
      rcases List.mem_cons.1 ((h z).2 (by simp [hz])) with e | hz'
      · subst e; have := hr'.1 z hz; omega
      · exact hz'

/-- Versions that are no parent, rising. -/
def headsL (b : List Ver) : List Int := ((List.range b.length).map fun (j : Nat) => (j : Int)).filter fun k => !(b.any fun v => memB k v.1)
/-- What both come from, but for what another such one comes from. -/
def bothL (b : List Ver) (i j : Int) : List Int := (behindL b i).filter fun k => memB k (behindL b j)
def commonL (b : List Ver) (i j : Int) : List Int := (bothL b i j).filter fun k => !((bothL b i j).any fun o => decide (o ≠ k) && memB k (behindL b o))
def apartV (b : List Ver) (i j : Int) : Bool := !memB i (commonL b i j) && !memB j (commonL b i j)
theorem common_sorted (b : List Ver) (i j : Int) : (commonL b i j).Pairwise (· < ·) := ((behind_sorted _ _).filter _).filter _
theorem mem_both (h : BookOk b) {i j k : Int} (i0 : 0 ≤ i) (i1 : i ≤ 12) (j0 : 0 ≤ j) (j1 : j ≤ 12) : k ∈ bothL b i j ↔ fromV b i k = true ∧ fromV b j k = true := by
  unfold bothL
  rw [List.mem_filter, mem_behind h i0 i1]
  simp [memB, mem_behind h j0 j1]
theorem mem_common (h : BookOk b) {i j k : Int} (i0 : 0 ≤ i) (i1 : i ≤ 12) (j0 : 0 ≤ j) (j1 : j ≤ 12) : k ∈ commonL b i j ↔ (fromV b i k = true ∧ fromV b j k = true) ∧ ∀ o, fromV b i o = true → fromV b j o = true → fromV b o k = true → o = k := by
  unfold commonL
  rw [List.mem_filter, mem_both h i0 i1 j0 j1]
  simp only [Bool.not_eq_true', List.any_eq_false, Bool.and_eq_true, decide_eq_true_eq, not_and, mem_both h i0 i1 j0 j1]
  constructor
  · rintro ⟨h1, h2⟩
    refine ⟨h1, fun o hi hj ho => ?_⟩
    have hb := from_bd h i0 i1 hi
    by_cases e : o = k
    · exact e
    · exact absurd (decide_eq_true ((mem_behind h hb.1 (by omega)).2 ho)) (h2 o ⟨hi, hj⟩ e)
  · rintro ⟨h1, h2⟩
    refine ⟨h1, fun o hij e hm => ?_⟩
    have hb := from_bd h i0 i1 hij.1
    exact e (h2 o hij.1 hij.2 ((mem_behind h hb.1 (by omega)).1 (of_decide_eq_true hm)))
end

/-- Behind: what is wrong, and what is behind. -/
def behindE (b : List Ver) (k : Int) : Int := if bookV b ≠ 0 then bookV b else if k < 0 ∨ (b.length : Int) ≤ k then 4 else 0
def behindC (b : List Ver) (k : Int) : List Int := if behindE b k = 0 then behindL b k else []
theorem behindE_chk {b : List Ver} (k : Int) (h : bookV b ≠ 0) : behindE b k = bookV b := by unfold behindE; rw [if_pos h]
theorem behindE_who {b : List Ver} {k : Int} (h : bookV b = 0) (hk : k < 0 ∨ (b.length : Int) ≤ k) : behindE b k = 4 := by unfold behindE; rw [if_neg (by simpa using h), if_pos hk]
theorem behindE_ok {b : List Ver} {k : Int} (h : bookV b = 0) (h0 : 0 ≤ k) (h1 : k < b.length) : behindE b k = 0 := by unfold behindE; rw [if_neg (by simpa using h), if_neg (by omega)]
theorem behindC_no {b : List Ver} {k : Int} (h : behindE b k ≠ 0) : behindC b k = [] := by unfold behindC; rw [if_neg h]
theorem behindC_ok {b : List Ver} {k : Int} (h : behindE b k = 0) : behindC b k = behindL b k := by unfold behindC; rw [if_pos h]
/-- On the way down from version k: those above i that it comes from, falling. -/
def downL (b : List Ver) (k : Int) (i : Int) : List Int := ((behindL b k).filter fun o => decide (i < o)).reverse
theorem downL_start (b : List Ver) {k : Int} (h0 : 0 ≤ k) : downL b k k = [] := by
  unfold downL
  rw [List.reverse_eq_nil_iff, List.filter_eq_nil_iff]
  intro o ho
  unfold behindL at ho
  rw [List.mem_filter, List.mem_map] at ho
  obtain ⟨⟨j, hj, rfl⟩, _⟩ := ho
  have := List.mem_range.1 hj
  simp
  omega
theorem downL_done (b : List Ver) (k : Int) : (downL b k (-1)).reverse = behindL b k := by
  unfold downL
  rw [List.reverse_reverse, List.filter_eq_self]
  intro o ho
  unfold behindL at ho
  rw [List.mem_filter, List.mem_map] at ho
  obtain ⟨⟨j, _, rfl⟩, _⟩ := ho
  simp
  omega
theorem filter_split {l : List Int} (h : l.Pairwise (· < ·)) (i : Int) : l.filter (fun o => decide (i - 1 < o)) = (if i ∈ l then [i] else []) ++ l.filter (fun o => decide (i < o)) := by
  induction l with
  | nil => simp
  | cons x l ih =>
    have h' := List.pairwise_cons.1 h
    have ih := ih h'.2
    by_cases hx : x < i
    · have e1 : decide (i - 1 < x) = false := by simp; omega
      have e2 : decide (i < x) = false := by simp; omega
      have e3 : (i ∈ x :: l) ↔ i ∈ l := by
        rw [List.mem_cons]
        constructor
        · rintro (e | h)
          · omega
          · exact h
        · exact Or.inr
      simp only [List.filter_cons, e1, e2, Bool.false_eq_true, if_false, e3, ih]
    · by_cases he : x = i
      · subst he
        have e1 : decide (x - 1 < x) = true := by simp; omega
        have e2 : decide (x < x) = false := by simp
        have hn : x ∉ l := fun hh => by have := h'.1 x hh; omega
        simp only [List.filter_cons, e1, e2, Bool.false_eq_true, if_false, if_true, ih]
        simp [hn]
      · have e1 : decide (i - 1 < x) = true := by simp; omega
        have e2 : decide (i < x) = true := by simp; omega
        have hn : i ∉ l := fun hh => by have := h'.1 i hh; omega
        have hn2 : i ∉ x :: l := by
          rw [List.mem_cons]
          rintro (e | hh)
          · exact he e.symm
          · exact hn hh
        simp only [List.filter_cons, e1, e2, if_true, ih]
        rw [if_neg hn, if_neg hn2]
        simp
theorem downL_yes {b : List Ver} (h : BookOk b) {k i : Int} (h0 : 0 ≤ k) (h1 : k ≤ 12) (hf : fromV b k i = true) : downL b k (i - 1) = downL b k i ++ [i] := by
  unfold downL
  rw [filter_split (behind_sorted b k) i, if_pos ((mem_behind h h0 h1).2 hf)]
  simp
theorem downL_no {b : List Ver} (h : BookOk b) {k i : Int} (h0 : 0 ≤ k) (h1 : k ≤ 12) (hf : fromV b k i = false) : downL b k (i - 1) = downL b k i := by
  unfold downL
  rw [filter_split (behind_sorted b k) i, if_neg (by rw [mem_behind h h0 h1, hf]; simp)]
  simp
theorem downL_len (b : List Ver) (k i : Int) : (downL b k i).length ≤ k.toNat + 1 := by
  unfold downL behindL
  rw [List.length_reverse]
  refine Nat.le_trans (List.length_filter_le _ _) (Nat.le_trans (List.length_filter_le _ _) ?_)
  simp
/-- What is known on the way down: k, and the parents of those above i that it comes from. -/
def Known (b : List Ver) (k i : Int) (l : List Int) : Prop := ∀ z, z ∈ l ↔ z = k ∨ ∃ m, i < m ∧ m ≤ k ∧ fromV b k m = true ∧ z ∈ pars b m.toNat
theorem Known.from {b : List Ver} (h : BookOk b) {k i : Int} {l : List Int} (hk : Known b k i l) (h0 : 0 ≤ k) (h1 : k ≤ 12) : decide (i ∈ l) = fromV b k i := by
  rw [Bool.eq_iff_iff, decide_eq_true_eq, hk i, from_iff_last h h0 h1]
  constructor
  · rintro (e | ⟨m, a, c, d, f⟩)
    · exact Or.inl e
    · exact Or.inr ⟨m, by have := from_bd h h0 h1 d; omega, a, c, d, f⟩
  · rintro (e | ⟨m, _, a, c, d, f⟩)
    · exact Or.inl e
    · exact Or.inr ⟨m, a, c, d, f⟩
theorem Known.start (b : List Ver) (k : Int) : Known b k k [k] := by
  intro z
  rw [List.mem_singleton]
  constructor
  · exact Or.inl
  · rintro (e | ⟨m, a, c, _⟩)
    · exact e
    · omega
theorem Known.yes {b : List Ver} {k i : Int} {l : List Int} (hk : Known b k i l) (hi : i ≤ k) (hf : fromV b k i = true) : Known b k (i - 1) (l ++ pars b i.toNat) := by
  intro z
  rw [List.mem_append, hk z]
  constructor
  · rintro ((e | ⟨m, a, c, d, f⟩) | h)
    · exact Or.inl e
    · exact Or.inr ⟨m, by omega, c, d, f⟩
    · exact Or.inr ⟨i, by omega, hi, hf, h⟩
  · rintro (e | ⟨m, a, c, d, f⟩)
    · exact Or.inl (Or.inl e)
    · by_cases e : m = i
      · subst e; exact Or.inr f
      · exact Or.inl (Or.inr ⟨m, by omega, c, d, f⟩)
theorem Known.no {b : List Ver} {k i : Int} {l : List Int} (hk : Known b k i l) (hf : fromV b k i = false) : Known b k (i - 1) l := by
  intro z
  rw [hk z]
  constructor
  · rintro (e | ⟨m, a, c, d, f⟩)
    · exact Or.inl e
    · exact Or.inr ⟨m, by omega, c, d, f⟩
  · rintro (e | ⟨m, a, c, d, f⟩)
    · exact Or.inl e
    · by_cases e : m = i
      · subst e; rw [hf] at d; cases d
      · exact Or.inr ⟨m, by omega, c, d, f⟩
/-- Common: what is wrong. -/
def commonE (b : List Ver) (i j : Int) : Int := if behindE b i ≠ 0 then behindE b i else behindE b j
def commonC (b : List Ver) (i j : Int) : List Int := if commonE b i j = 0 then commonL b i j else []
theorem commonE_i {b : List Ver} {i : Int} (j : Int) (h : behindE b i ≠ 0) : commonE b i j = behindE b i := by unfold commonE; rw [if_pos h]
theorem commonE_j {b : List Ver} {i : Int} (j : Int) (h : behindE b i = 0) : commonE b i j = behindE b j := by unfold commonE; rw [if_neg (by simpa using h)]
theorem commonC_no {b : List Ver} {i j : Int} (h : commonE b i j ≠ 0) : commonC b i j = [] := by unfold commonC; rw [if_neg h]
theorem commonC_ok {b : List Ver} {i j : Int} (h : commonE b i j = 0) : commonC b i j = commonL b i j := by unfold commonC; rw [if_pos h]
theorem behindE_zero {b : List Ver} {k : Int} (h : behindE b k = 0) : bookV b = 0 ∧ 0 ≤ k ∧ k < b.length := by
  unfold behindE at h
  split at h
  · rename_i h1; exact absurd h h1
  · rename_i h1
    split at h
    · simp at h
    · exact ⟨Classical.byContradiction h1, by omega, by omega⟩
/-- What closure and loop of Common ask of one version. -/
def lowerV (b : List Ver) (k o : Int) : Bool := decide (o ≠ k) && memB k (behindC b o)
theorem common_step {b : List Ver} {i j : Int} (hi : behindE b i = 0) : commonL b i j = (bothL b i j).filter fun k => !((bothL b i j).any fun o => lowerV b k o) := by
  unfold commonL
  apply List.filter_congr
  intro k _
  congr 1
  rw [Bool.eq_iff_iff]
  have e : ∀ o ∈ bothL b i j, behindC b o = behindL b o := by
    intro o ho
    unfold bothL behindL at ho
    rw [List.mem_filter, List.mem_filter, List.mem_map] at ho
    obtain ⟨⟨⟨n, hn, rfl⟩, _⟩, _⟩ := ho
    have := List.mem_range.1 hn
    obtain ⟨h0, h1, h2⟩ := behindE_zero hi
    exact behindC_ok (behindE_ok h0 (by omega) (by omega))
  simp only [List.any_eq_true, lowerV]
  constructor
  · rintro ⟨o, ho, h⟩; exact ⟨o, ho, by rw [e o ho]; exact h⟩
  · rintro ⟨o, ho, h⟩; exact ⟨o, ho, by rw [e o ho] at h; exact h⟩
/-- Add: what is wrong, and the book behind it. -/
def addVE (b : List Ver) (v : Ver) : Int := if bookV b ≠ 0 then bookV b else if (b.length : Int) = 12 then 1 else bookV (b ++ [v])
/-- The book behind it; none where something is wrong. -/
def addC (b : List Ver) (v : Ver) : List Ver := if addVE b v = 0 then b ++ [v] else []
theorem addC_ok {b : List Ver} {v : Ver} (h : addVE b v = 0) : addC b v = b ++ [v] := by unfold addC; rw [if_pos h]
theorem addC_no {b : List Ver} {v : Ver} (h : addVE b v ≠ 0) : addC b v = [] := by unfold addC; rw [if_neg h]
theorem addVE_ref (b : List Ver) (v : Ver) : addVE b v = if bookV b ≠ 0 then bookV b else bookV (b ++ [v]) := by
  unfold addVE
  split
  · rfl
  · split
    · rename_i h
      unfold bookV
      rw [if_pos (by simp; omega)]
    · rfl
theorem addVE_ok {b : List Ver} {v : Ver} (h : addVE b v = 0) : BookOk b ∧ BookOk (b ++ [v]) ∧ b.length < 12 := by
  rw [addVE_ref] at h
  split at h
  · rename_i h1; exact absurd h h1
  · rename_i h1
    have := bookV_ok.1 h
    have ht := this.top
    simp at ht
    exact ⟨bookV_ok.1 (Classical.byContradiction h1), this, by omega⟩

end Go.Proofs.YtnpdojjffbhalaaGreat

namespace Go.Proofs.YtnpdojjffbhalaaGreat
section
variable {b : List Ver}

/-- The reference's answer: one by one, those above which there is none. -/
def topV (b : List Ver) (i j k : Int) : Bool := !((List.range b.length).any fun (o : Nat) => decide (k < (o : Int)) && (fromV b i o && fromV b j o && fromV b o k))
def commonR (b : List Ver) (i j : Int) : List Int := ((List.range b.length).map fun (k : Nat) => (k : Int)).filter fun k => fromV b i k && fromV b j k && topV b i j k
theorem common_eq (h : BookOk b) {i j : Int} (i0 : 0 ≤ i) (i1 : i < b.length) (j0 : 0 ≤ j) (j1 : j < b.length) : commonR b i j = commonL b i j := by
  have ht := h.top
  refine sorted_ext ((range_sorted _).filter _) (common_sorted _ _ _) fun k => ?_
  rw [mem_common h i0 (by omega) j0 (by omega)]
  unfold commonR
  rw [List.mem_filter]
  simp only [Bool.and_eq_true]
  constructor
  · rintro ⟨_, ⟨hi, hj⟩, htop⟩
    refine ⟨⟨hi, hj⟩, fun o oi oj ok => ?_⟩
    have ob := from_bd h i0 (by omega) oi
    have kb := from_bd h ob.1 (by omega) ok
    by_cases e : o = k
    · exact e
    · exfalso
      unfold topV at htop
      rw [Bool.not_eq_true', List.any_eq_false] at htop
      have := htop o.toNat (List.mem_range.2 (by omega))
      rw [show ((o.toNat : Nat) : Int) = o by omega] at this
      simp [oi, oj, ok] at this
      omega
  · rintro ⟨⟨hi, hj⟩, hmax⟩
    have kb := from_bd h i0 (by omega) hi
    refine ⟨List.mem_map.2 ⟨k.toNat, List.mem_range.2 (by omega), by omega⟩, ⟨hi, hj⟩, ?_⟩
    unfold topV
    rw [Bool.not_eq_true', List.any_eq_false]
    intro o ho hh
    simp only [Bool.and_eq_true, decide_eq_true_eq] at hh
    have := hmax o hh.2.1.1 hh.2.1.2 hh.2.2
    omega
theorem mem_common_left (h : BookOk b) {i j : Int} (i0 : 0 ≤ i) (i1 : i ≤ 12) (j0 : 0 ≤ j) (j1 : j ≤ 12) : i ∈ commonL b i j ↔ fromV b j i = true := by
  rw [mem_common h i0 i1 j0 j1]
  constructor
  · exact fun hh => hh.1.2
  · intro hj
    refine ⟨⟨from_self _ _, hj⟩, fun o oi _ ok => ?_⟩
    have ob := from_bd h i0 i1 oi
    have := from_bd h ob.1 (by omega) ok
    omega
theorem common_comm (h : BookOk b) {i j : Int} (i0 : 0 ≤ i) (i1 : i ≤ 12) (j0 : 0 ≤ j) (j1 : j ≤ 12) : commonL b i j = commonL b j i := by
  refine sorted_ext (common_sorted _ _ _) (common_sorted _ _ _) fun k => ?_
  rw [mem_common h i0 i1 j0 j1, mem_common h j0 j1 i0 i1]
  constructor
  · rintro ⟨⟨a, c⟩, d⟩; exact ⟨⟨c, a⟩, fun o x y => d o y x⟩
  · rintro ⟨⟨a, c⟩, d⟩; exact ⟨⟨c, a⟩, fun o x y => d o y x⟩
theorem apart_eq (h : BookOk b) {i j : Int} (i0 : 0 ≤ i) (i1 : i ≤ 12) (j0 : 0 ≤ j) (j1 : j ≤ 12) : apartV b i j = (!fromV b i j && !fromV b j i) := by
  have h1 := mem_common_left h i0 i1 j0 j1
  have h2 := mem_common_left h j0 j1 i0 i1
  rw [← common_comm h i0 i1 j0 j1] at h2
  have e1 : memB i (commonL b i j) = fromV b j i := by
    rw [Bool.eq_iff_iff]; simp [memB, h1]
  have e2 : memB j (commonL b i j) = fromV b i j := by
    rw [Bool.eq_iff_iff]; simp [memB, h2]
  unfold apartV
  rw [e1, e2, Bool.and_comm]
/-- Above all that both come from there is one of them that is in common. -/
theorem common_above (h : BookOk b) {i j : Int} (i0 : 0 ≤ i) (i1 : i ≤ 12) (j0 : 0 ≤ j) (j1 : j ≤ 12) : ∀ (n : Nat) {k : Int}, 12 - k ≤ n → fromV b i k = true → fromV b j k = true → ∃ o ∈ commonL b i j, fromV b o k = true
  | n, k, hn, hi, hj => by
    have kb := from_bd h i0 i1 hi
    by_cases hmax : ∀ o, fromV b i o = true → fromV b j o = true → fromV b o k = true → o = k
    · exact ⟨k, (mem_common h i0 i1 j0 j1).2 ⟨⟨hi, hj⟩, hmax⟩, from_self _ _⟩
    · simp only [Classical.not_forall] at hmax
      obtain ⟨o, oi, oj, ok, hne⟩ := hmax
      have ob := from_bd h i0 i1 oi
      have kb2 := from_bd h ob.1 (by omega) ok
      match n with
      | 0 => omega
      | n + 1 =>
        obtain ⟨p, hp, hpo⟩ := common_above h i0 i1 j0 j1 n (k := o) (by omega) oi oj
        have pb := (mem_common h i0 i1 j0 j1).1 hp
        have pbd := from_bd h i0 i1 pb.1.1
        exact ⟨p, hp, from_trans h pbd.1 (by omega) hpo ok⟩
/-- Of one that comes from the other it is that other one. -/
theorem common_from (h : BookOk b) {i j : Int} (i0 : 0 ≤ i) (i1 : i ≤ 12) (hij : fromV b i j = true) : commonL b i j = [j] := by
  have jb := from_bd h i0 i1 hij
  refine sorted_ext (common_sorted _ _ _) (by simp) fun k => ?_
  rw [mem_common h i0 i1 jb.1 (by omega), List.mem_singleton]
  constructor
  · rintro ⟨⟨_, hj⟩, hmax⟩
    exact (hmax j hij (from_self _ _) hj).symm
  · rintro rfl
    refine ⟨⟨hij, from_self _ _⟩, fun o _ oj ok => ?_⟩
    have a := from_bd h jb.1 (by omega) oj
    have c := from_bd h a.1 (by omega) ok
    omega

/-! ### A book that grows -/
theorem pars_old (v : Ver) {k : Nat} (hk : k < b.length) : pars (b ++ [v]) k = pars b k := by unfold pars; rw [List.getElem?_append_left hk]
theorem pars_new (v : Ver) : pars (b ++ [v]) b.length = v.1 := by simp [pars]
theorem from_old_n (h : BookOk b) (v : Ver) (o : Int) : ∀ (f : Nat) (k : Int), 0 ≤ k → k < b.length → fromF (b ++ [v]) f k o = fromF b f k o
  | 0, _, _, _ => rfl
  | f + 1, k, h0, h1 => by
    unfold fromF
    congr 1
    rw [pars_old v (by omega)]
    have hp := (h.pars k.toNat).1
    generalize pars b k.toNat = l at hp
    induction l with
    | nil => rfl
    | cons p r ih =>
      have hp0 := hp p (by simp)
      simp only [List.any_cons]
      rw [ih (fun q hq => hp q (by simp [hq])), from_old_n h v o f p hp0.1 (by omega)]
theorem from_old (h : BookOk b) (v : Ver) {k : Int} (h0 : 0 ≤ k) (h1 : k < b.length) (o : Int) : fromV (b ++ [v]) k o = fromV b k o := from_old_n h v o 12 k h0 h1
theorem behind_old (h : BookOk b) (v : Ver) {k : Int} (h0 : 0 ≤ k) (h1 : k < b.length) : behindL (b ++ [v]) k = behindL b k := by
  unfold behindL
  congr 1
  funext o
  exact from_old h v h0 h1 o
theorem from_new (h : BookOk b) {v : Ver} (hv : BookOk (b ++ [v])) (o : Int) : fromV (b ++ [v]) b.length o = true ↔ o = b.length ∨ ∃ p ∈ v.1, fromV b p o = true := by
  have ht := hv.top
  simp at ht
  rw [fromV_iff hv (by omega) (by omega)]
  rw [show ((b.length : Int)).toNat = b.length by omega, pars_new]
  have hp := (hv.par b.length v (by simp)).1
  constructor
  · rintro (e | ⟨p, hp', hf⟩)
    · exact Or.inl e.symm
    · have := hp p hp'
      exact Or.inr ⟨p, hp', by rw [← from_old h v this.1 this.2]; exact hf⟩
  · rintro (e | ⟨p, hp', hf⟩)
    · exact Or.inl e.symm
    · have := hp p hp'
      exact Or.inr ⟨p, hp', by rw [from_old h v this.1 this.2]; exact hf⟩
theorem mem_heads (k : Int) : k ∈ headsL b ↔ (0 ≤ k ∧ k < b.length) ∧ ∀ v ∈ b, k ∉ v.1 := by
  unfold headsL
  rw [List.mem_filter, List.mem_map]
  simp only [Bool.not_eq_true', List.any_eq_false, memB, decide_eq_true_eq]
  constructor
  · rintro ⟨⟨n, hn, rfl⟩, h2⟩
    have := List.mem_range.1 hn
    exact ⟨by omega, h2⟩
  · rintro ⟨h1, h2⟩
    exact ⟨⟨k.toNat, List.mem_range.2 (by omega), by omega⟩, h2⟩
theorem heads_new {v : Ver} (hv : BookOk (b ++ [v])) : (b.length : Int) ∈ headsL (b ++ [v]) := by
  rw [mem_heads]
  refine ⟨by simp; omega, fun u hu hm => ?_⟩
  obtain ⟨k, hk⟩ := List.getElem?_of_mem hu
  have hl := (List.getElem?_eq_some_iff.1 hk).1
  have := (hv.par k u hk).1 _ hm
  simp at hl
  omega
theorem heads_parent {v : Ver} {p : Int} (hp : p ∈ v.1) : p ∉ headsL (b ++ [v]) := by
  rw [mem_heads]
  rintro ⟨_, h⟩
  exact h v (by simp) hp
/-- What is behind the new one: all that is behind its parents, and itself. -/
def underL (b : List Ver) (v : Ver) : List Int := (b.length : Int) :: v.1.flatMap fun p => behindL b p
theorem mem_under (h : BookOk b) {v : Ver} (hv : BookOk (b ++ [v])) (o : Int) : o ∈ behindL (b ++ [v]) b.length ↔ o ∈ underL b v := by
  have ht := hv.top
  simp at ht
  have hp := (hv.par b.length v (by simp)).1
  rw [mem_behind hv (by omega) (by omega), from_new h hv]
  unfold underL
  rw [List.mem_cons, List.mem_flatMap]
  constructor
  · rintro (e | ⟨p, hp', hf⟩)
    · exact Or.inl e
    · have := hp p hp'
      exact Or.inr ⟨p, hp', (mem_behind h this.1 (by omega)).2 hf⟩
  · rintro (e | ⟨p, hp', hf⟩)
    · exact Or.inl e
    · have := hp p hp'
      exact Or.inr ⟨p, hp', (mem_behind h this.1 (by omega)).1 hf⟩
end
end Go.Proofs.YtnpdojjffbhalaaGreat

namespace Go.Proofs.YtnpdojjffbhalaaGreat
open Go.RowKit

/-- A version: a slice of parents, a plan. -/
def RVer : Rd Ver := fun w cs x => ∃ v, cs = [v, .int .i64 x.2.1, .int .i64 x.2.2.1, .int .i64 x.2.2.2] ∧ IsInts w v x.1 ∧ I64 x.2.1 ∧ I64 x.2.2.1 ∧ I64 x.2.2.2
theorem RVer.stays : RVer.Stays := by
  rintro w cs x ⟨v, rfl, h, i⟩ w' hw
  exact ⟨v, rfl, h.framed (fun _ _ _ => id) hw, i⟩
/-- The value is a slice of these versions. -/
abbrev IsVers (w : World) (v : Value) (b : List Ver) : Prop := IsRow 4 RVer w v b
theorem vers_at {w : World} {a : Option Addr} {n cap : Nat} {b : List Ver} (h : IsVers w (.slice a n cap) b) {i : Nat} {x : Ver} (hx : b[i]? = some x) :
    ∃ g off u c, a = some ⟨g, off, none⟩ ∧ w.cell? ⟨g, off + i * 4, none⟩ = some (.slice u x.1.length c) ∧ w.cell? ⟨g, off + i * 4 + 1, none⟩ = some (.int .i64 x.2.1) ∧ w.cell? ⟨g, off + i * 4 + 2, none⟩ = some (.int .i64 x.2.2.1) ∧ w.cell? ⟨g, off + i * 4 + 3, none⟩ = some (.int .i64 x.2.2.2) ∧ IsInts w (.slice u x.1.length c) x.1 ∧ I64 x.2.1 ∧ I64 x.2.2.1 ∧ I64 x.2.2.2 := by
  obtain ⟨g, off, rfl, cs, hl, hc, v, rfl, hv, h1, h2, h3⟩ := h.at hx
  obtain ⟨u, c, rfl, _⟩ := hv.opened
  exact ⟨g, off, u, c, rfl, hc 0 _ rfl, hc 1 _ rfl, hc 2 _ rfl, hc 3 _ rfl, hv, h1, h2, h3⟩

/-- Of the parents from place j on the last one before them. -/
def Last (l : List Int) (j : Nat) (last : Int) : Prop := (j = 0 ∧ last = -1) ∨ (0 < j ∧ l[j - 1]? = some last)
theorem Last.step {l : List Int} {j : Nat} {z : Int} (h : l[j]? = some z) : Last l (j + 1) z := Or.inr ⟨by omega, by simpa using h⟩

set_option maxHeartbeats 1000000 in
theorem parents_any (v : Value) (l : List Int) (k : Int) (w : World) (hv : IsInts w v l) :
    Calls Tryz.prog 60 #[v, .int .i64 k] w fun e w' => e = .returned (.int .i64 (parsV k (-1) l)) ∧ w = w' := by
  obtain ⟨a, c, rfl, hc, ⟨hm, hcm, _⟩, hi⟩ := hv.opened
  clear hv
  go_enter Tryz.func60, Tryz.ntmps60
  go_wp2
  go_loop [9] (fun i => ∃ j : Nat, ∃ last : Int, j ≤ l.length ∧ i = .int .i64 j ∧ Last l j last ∧ parsV k last (l.drop j) = parsV k (-1) l) (fun i => l.length - (intOf i).toNat)
  case atStart => exact ⟨0, -1, by omega, rfl, Or.inl ⟨rfl, rfl⟩, rfl⟩
  case round =>
    obtain ⟨j, last, hj, rfl, hla, hq⟩ := hrel
    have HQ := Lib.hid hq
    have HL := Lib.hid hla
    clear hq hla
    by_cases hlt : j < l.length
    · obtain ⟨b1, o1, z1, rfl, hc1, hz1, hi1⟩ := hi j hlt
      have HZ := Lib.hid (drop_get hz1)
      have HG := Lib.hid hz1
      clear hz1
      by_cases h1 : z1 < 0 ∨ k ≤ z1
      · have HR := Lib.hid (show parsV k (-1) l = 4 by rw [← HQ.out, HZ.out]; unfold parsV; rw [if_pos h1])
        rcases h1 with h1 | h1
        · go_wp2
          go_ret
          exact ⟨ret_int HR.out.symm, rfl⟩
        · by_cases h0 : z1 < 0
          · go_wp2
            go_ret
            exact ⟨ret_int HR.out.symm, rfl⟩
          · go_wp2
            go_ret
            exact ⟨ret_int HR.out.symm, rfl⟩
      · have h0 : 0 ≤ z1 := by omega
        have h2 : z1 < k := by omega
        rcases HL.out with ⟨rfl, rfl⟩ | ⟨hp, hg⟩
        · have HR := Lib.hid (show parsV k z1 (l.drop (0 + 1)) = parsV k (-1) l by rw [← HQ.out, HZ.out]; simp only [parsV]; rw [if_neg h1, if_neg (by omega)])
          have hc0 : w.cell? ⟨b1, o1, none⟩ = some (.int .i64 z1) := hc1
          clear h1 hc1
          go_wp2
          go_round
          case rel => exact ⟨1, z1, by omega, by go_num, Last.step HG.out, HR.out⟩
          case measure => simp [intOf]; omega
        · obtain ⟨b2, o2, z2, e2, hc2, hz2, hi2⟩ := hi (j - 1) (by omega)
          cases e2
          have e3 : z2 = last := by rw [hz2] at hg; exact Option.some.inj hg
          subst e3
          clear hz2 hg HL
          have hj1 : (0 : Int) < (j : Int) := by omega
          have hc3 : w.cell? ⟨b1, o1 + (j - 1), none⟩ = some (.int .i64 z2) := hc2
          by_cases h3 : z1 ≤ z2
          · have HR := Lib.hid (show parsV k (-1) l = 5 by rw [← HQ.out, HZ.out]; simp only [parsV]; rw [if_neg h1, if_pos h3])
            clear h1
            go_wp2
            go_ret
            exact ⟨ret_int HR.out.symm, rfl⟩
          · have HR := Lib.hid (show parsV k z1 (l.drop (j + 1)) = parsV k (-1) l by rw [← HQ.out, HZ.out]; simp only [parsV]; rw [if_neg h1, if_neg h3])
            clear h1
            go_wp2
            go_round
            case rel => exact ⟨j + 1, z1, by omega, by go_num, Last.step HG.out, HR.out⟩
            case measure => simp [intOf]; omega
    · obtain rfl : l.length = j := by omega
      go_wp2
      go_ret
      refine ⟨ret_int ?_, rfl⟩
      rw [← HQ.out, List.drop_length]
      rfl

set_option maxRecDepth 100000 in
set_option maxHeartbeats 2000000 in
theorem bookCheck_any (v : Value) (b : List Ver) (W : World) (hv : IsVers W v b) :
    Calls Tryz.prog 41 #[.agg #[v]] W fun e w' => e = .returned (.int .i64 (bookV b)) ∧ Below W.heap.size W w' := by
  obtain ⟨a, c, rfl, hc, ⟨hm, hcm, _⟩, _⟩ := hv.opened
  have S0 := (Since.refl W).alloc (.cells #[.slice a b.length c] 24)
  have hv0 := hv.stays RVer.stays (below_alloc _ (.cells #[.slice a b.length c] 24))
  have c0 : (W.alloc (.cells #[.slice a b.length c] 24)).cell? ⟨W.heap.size, 0, none⟩ = some (.slice a b.length c) := by go_simp
  clear hv
  by_cases h12 : 12 < b.length
  · have H := Lib.hid (show bookV b = 1 by unfold bookV; rw [if_pos (by omega)])
    clear c0
    go_enter Tryz.func41, Tryz.ntmps41
    go_wp2_with fail
    go_ret
    exact ⟨ret_int H.out.symm, S0.below⟩
  · have H := Lib.hid (show bookV b = versV 0 b by unfold bookV; rw [if_neg (by omega)])
    have h12' : b.length ≤ 12 := by omega
    clear c0 h12
    go_enter Tryz.func41, Tryz.ntmps41
    go_wp2_with fail
    go_loopw [14] (fun i wr => ∃ k : Nat, k ≤ b.length ∧ i = .int .i64 k ∧ Since W.heap.size W wr ∧ IsVers wr (.slice a b.length c) b ∧ versV k (b.drop k) = versV 0 b) (fun i _ => b.length - (intOf i).toNat)
    case atStart => exact ⟨0, by omega, rfl, S0, hv0, rfl⟩
    case round =>
      obtain ⟨k, hk, rfl, hS, hvr, hq⟩ := hrel
      have HQ := Lib.hid hq
      clear hq
      by_cases hlt : k < b.length
      · obtain ⟨g, off, u, cu, rfl, k0, k1, k2, k3, hp, i1, i2, i3⟩ := vers_at hvr (List.getElem?_eq_getElem hlt)
        have HD := Lib.hid (List.drop_eq_getElem_cons hlt)
        generalize b[k] = x at *
        have B1 := below_alloc wr (.cells #[.slice u x.1.length cu, .int .i64 x.2.1, .int .i64 x.2.2.1, .int .i64 x.2.2.2] 66)
        have S1 := hS.alloc (.cells #[.slice u x.1.length cu, .int .i64 x.2.1, .int .i64 x.2.2.1, .int .i64 x.2.2.2] 66)
        have hp1 := hp.stays B1
        have hv1 := hvr.stays RVer.stays B1
        go_wp2_with fail
        refine (parents_any _ x.1 _ _ hp1).mono ?_
        rintro e w' ⟨rfl, rfl⟩
        by_cases hpz : parsV k (-1) x.1 = 0
        · have HP := Lib.hid hpz
          rw [hpz]
          clear hpz
          go_wp2_with fail
          refine (planCheck_any _ _ _ _).mono ?_
          rintro e w2 ⟨rfl, hb2⟩
          have S2 := S1.step hb2
          have hv2 := hv1.stays RVer.stays hb2
          by_cases hpl : planV x.2.1 x.2.2.1 x.2.2.2 = 0
          · have HV := Lib.hid (show versV (k + 1) (b.drop (k + 1)) = versV 0 b by rw [← HQ.out, HD.out]; simp only [versV]; rw [if_neg]; unfold verV; rw [if_neg (by simpa using HP.out)]; simpa using hpl)
            rw [hpl]
            clear hpl k0 k1 k2 k3 hp hp1
            go_wp2_with fail
            go_roundw
            case rel => exact ⟨k + 1, by omega, by go_num, S2, hv2, HV.out⟩
            case measure => simp [intOf]; omega
          · have HV := Lib.hid (show versV 0 b = planV x.2.1 x.2.2.1 x.2.2.2 by rw [← HQ.out, HD.out]; have hve : verV k x = planV x.2.1 x.2.2.1 x.2.2.2 := (by unfold verV; rw [if_neg (by simpa using HP.out)]); simp only [versV]; rw [if_pos (by rw [hve]; exact hpl), hve])
            have hne : (planV x.2.1 x.2.2.1 x.2.2.2 != 0) = true := by simpa using hpl
            clear hpl k0 k1 k2 k3 hp hp1
            go_wp2_with fail
            go_ret
            exact ⟨ret_int (by rw [H.out, HV.out]), S2.below⟩
        · have HV := Lib.hid (show versV 0 b = parsV k (-1) x.1 by rw [← HQ.out, HD.out]; have hve : verV k x = parsV k (-1) x.1 := (by unfold verV; rw [if_pos (by simpa using hpz)]); simp only [versV]; rw [if_pos (by rw [hve]; exact hpz), hve])
          have hne : (parsV k (-1) x.1 != 0) = true := by simpa using hpz
          clear hpz k0 k1 k2 k3 hp hp1
          go_wp2_with fail
          go_ret
          exact ⟨ret_int (by rw [H.out, HV.out]), S1.below⟩
      · obtain rfl : b.length = k := by omega
        go_wp2_with fail
        go_ret
        refine ⟨ret_int ?_, hS.below⟩
        rw [H.out, ← HQ.out, List.drop_length]
        rfl

end Go.Proofs.YtnpdojjffbhalaaGreat

namespace Go.Proofs.YtnpdojjffbhalaaGreat
open Go.RowKit

end Go.Proofs.YtnpdojjffbhalaaGreat

namespace Go.Proofs.YtnpdojjffbhalaaGreat
open Go.RowKit

theorem IsInts.one {w : World} {b : Nat} {z : Int} (h : w.cell? ⟨b, 0, none⟩ = some (.int .i64 z)) (hi : I64 z) : IsInts w (.slice (some ⟨b, 0, none⟩) 1 1) [z] := by
  refine ⟨_, 1, rfl, Nat.le_refl _, ⟨by simp, by omega, fun e => by cases e⟩, fun i hi' => ?_⟩
  have : i = 0 := by simp at hi'; exact hi'
  subst this
  exact ⟨b, 0, z, rfl, h, rfl, hi⟩
theorem IsInts.two {w : World} {b : Nat} {z y : Int} (h : w.cell? ⟨b, 0, none⟩ = some (.int .i64 z)) (hi : I64 z) (g : w.cell? ⟨b, 1, none⟩ = some (.int .i64 y)) (gi : I64 y) : IsInts w (.slice (some ⟨b, 0, none⟩) 2 2) [z, y] := by
  refine ⟨_, 2, rfl, Nat.le_refl _, ⟨by simp, by omega, fun e => by cases e⟩, fun i hi' => ?_⟩
  match i, hi' with
  | 0, _ => exact ⟨b, 0, z, rfl, h, rfl, hi⟩
  | 1, _ => exact ⟨b, 0, y, rfl, g, rfl, gi⟩
theorem elem_ver {w : World} {b o : Nat} {u : Value} {x : Ver} (h0 : w.cell? ⟨b, o, none⟩ = some u) (h1 : w.cell? ⟨b, o + 1, none⟩ = some (.int .i64 x.2.1)) (h2 : w.cell? ⟨b, o + 2, none⟩ = some (.int .i64 x.2.2.1)) (h3 : w.cell? ⟨b, o + 3, none⟩ = some (.int .i64 x.2.2.2))
    (hu : IsInts w u x.1) (i : I64 x.2.1 ∧ I64 x.2.2.1 ∧ I64 x.2.2.2) : ElemAt 4 RVer w b o x := by
  refine ⟨[u, .int .i64 x.2.1, .int .i64 x.2.2.1, .int .i64 x.2.2.2], rfl, fun j c hj => ?_, u, rfl, hu, i⟩
  match j, hj with
  | 0, hj => simp at hj; subst hj; exact h0
  | 1, hj => simp at hj; subst hj; exact h1
  | 2, hj => simp at hj; subst hj; exact h2
  | 3, hj => simp at hj; subst hj; exact h3

/-- The family of the closed facts. -/
def famL : List Ver := [([], 1, 1, 1), ([0], 1, 1, 1), ([0], 1, 1, 1), ([1, 2], 1, 1, 1), ([2], 1, 1, 1)]
theorem i64_small {z : Int} (h : 0 ≤ z ∧ z ≤ 1000) : I64 z := ⟨by omega, by omega⟩

end Go.Proofs.YtnpdojjffbhalaaGreat

namespace Go.Proofs.YtnpdojjffbhalaaGreat
open Go.ChangeShapes Go.WideShapes Go.ChangeAt Go.RowKit Go.Deep
/-- The value is this book. -/
def IsBook (w : World) (v : Value) (b : List Ver) : Prop := ∃ u, v = .agg #[u] ∧ IsVers w u b
section
variable {H : Type} {enc : TypeId × Value → H} {W : World} {base : Nat} {v : Value} {d : DataW H} {ps : List MemPlace}
theorem cells_vers : Tryz.prog.cellsOf 22 = 1 := by kernel_rfl
theorem cells_ver : Tryz.prog.cellsOf 66 = 4 := by kernel_rfl
theorem cells_book : Tryz.prog.cellsOf 24 = 1 := by kernel_rfl
set_option maxRecDepth 100000 in
theorem reads_ver : Reads enc W 66 RVer := by
  intro n cs x h hz
  obtain ⟨y0, y1, k, rfl, hl, h0, h1⟩ := trod_struct2 Tryz.underlying66 h
  rw [cells_ver] at hl
  simp only [cells_plan, cells_ints] at h0 h1
  match cs, hl with
  | [c0, c1, c2, c3], _ =>
    simp only [List.drop_zero, List.drop_succ_cons, List.take_succ_cons, List.take_zero] at h0 h1
    simp only [DataW.weights, Tryz.underlying66, List.map_cons, List.map_nil, DataW.weightsEach, List.mem_append] at hz
    obtain ⟨z0, v0, e0, i0⟩ := reads_ints k _ _ h0 (fun m hm => hz m (by simp [hm]))
    obtain ⟨z1, e1, i1⟩ := reads_plan k _ _ h1 (fun m hm => hz m (by simp [hm]))
    simp only [List.cons.injEq, and_true] at e0 e1
    obtain ⟨rfl, rfl, rfl⟩ := e1
    subst e0
    exact ⟨(z0, z1), _, rfl, i0, i1⟩
set_option maxRecDepth 100000 in
theorem reads_vers : Reads enc W 22 (fun w cs l => ∃ v, cs = [v] ∧ IsVers w v l) :=
  reads_row Tryz.underlying22 cells_ver (by omega) (by rw [show Tryz.prog.bytesOf 66 = 48 by kernel_rfl]; omega) reads_ver
def RBook : Rd (List Ver) := fun w cs b => ∃ v, cs = [v] ∧ IsVers w v b
set_option maxRecDepth 100000 in
theorem reads_book : Reads enc W 24 RBook := by
  intro n cs x h hz
  obtain ⟨y0, k, rfl, hl, h0⟩ := trod_struct1 Tryz.underlying24 h
  rw [cells_book] at hl
  simp only [cells_vers] at h0
  match cs, hl with
  | [c0], _ =>
    simp only [List.drop_zero, List.take_succ_cons, List.take_zero] at h0
    simp only [DataW.weights, Tryz.underlying24, List.map_cons, List.map_nil, DataW.weightsEach, List.mem_append] at hz
    exact reads_vers k _ _ h0 (fun m hm => hz m (by simp [hm]))
set_option maxRecDepth 100000 in
theorem read_book (hv : Value.okWide Tryz.prog W .any base 24 v) (h : DataW.Trod enc Tryz.prog W 0 (fun _ => true) true 24 v d ps) (hz : ∀ n ∈ d.weights Tryz.prog 24, n ≤ reachBytes) : ∃ b, IsBook W v b := by
  obtain ⟨cs, b, rfl, u, h1, h2⟩ := read_agg Tryz.underlying24 reads_book hv h hz
  exact ⟨b, u, by rw [agg_of_list h1], h2⟩
/-- The value is this version. -/
def IsVersion (w : World) (v : Value) (x : Ver) : Prop := ∃ u, v = .agg #[u, .int .i64 x.2.1, .int .i64 x.2.2.1, .int .i64 x.2.2.2] ∧ IsInts w u x.1 ∧ I64 x.2.1 ∧ I64 x.2.2.1 ∧ I64 x.2.2.2
set_option maxRecDepth 100000 in
theorem read_version (hv : Value.okWide Tryz.prog W .any base 66 v) (h : DataW.Trod enc Tryz.prog W 0 (fun _ => true) true 66 v d ps) (hz : ∀ n ∈ d.weights Tryz.prog 66, n ≤ reachBytes) : ∃ x, IsVersion W v x := by
  obtain ⟨cs, x, rfl, u, h1, h2⟩ := read_agg Tryz.underlying66 reads_ver hv h hz
  exact ⟨x, u, by rw [agg_of_list h1], h2⟩
end
end Go.Proofs.YtnpdojjffbhalaaGreat
