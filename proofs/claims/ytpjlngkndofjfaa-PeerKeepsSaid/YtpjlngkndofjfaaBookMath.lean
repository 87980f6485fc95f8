/-
  Books in plain lists: what is wrong with one, what is behind a version, its heads, what two versions have in common.
-/
import Derived.Test.YtpjlngkndofjfaaShare
namespace Go.Proofs.Ytpjlngkndofjfaa

/-- A version: its parents, its plan. -/
abbrev Ver := List Int × Int × Int × Int

/-- What is wrong with the parents of version k, the last one before them being given. -/
def parsV (k : Int) : Int → List Int → Int
  | _, [] => 0
  | last, p :: r => if p < 0 ∨ k ≤ p then 4 else if p ≤ last then 5 else parsV k p r
/-- What is wrong with one version. -/
def verV (k : Int) (v : Ver) : Int := if parsV k (-1) v.1 ≠ 0 then parsV k (-1) v.1 else planV v.2.1 v.2.2.1 v.2.2.2
def versV : Nat → List Ver → Int
  | _, [] => 0
  | k, v :: r => if verV k v ≠ 0 then verV k v else versV (k + 1) r
/-- What Check of a book answers. -/
def bookV (b : List Ver) : Int := if 12 < (b.length : Int) then 1 else versV 0 b

theorem parsV_ok (k : Int) : ∀ (l : List Int) (last : Int), -1 ≤ last → (parsV k last l = 0 ↔ (∀ p ∈ l, last < p ∧ 0 ≤ p ∧ p < k) ∧ l.Pairwise (· < ·))
  | [], last, _ => by simp [parsV]
  | p :: r, last, h => by
    unfold parsV
    by_cases h1 : p < 0 ∨ k ≤ p
    · rw [if_pos h1]
      constructor
      · intro e; simp at e
      · rintro ⟨h2, _⟩
        have := h2 p (by simp)
        omega
    · rw [if_neg h1]
      by_cases h2 : p ≤ last
      · rw [if_pos h2]
        constructor
        · intro e; simp at e
        · rintro ⟨h3, _⟩
          have := h3 p (by simp)
          omega
      · rw [if_neg h2, parsV_ok k r p (by omega), List.pairwise_cons]
        constructor
        · rintro ⟨h3, h4⟩
          refine ⟨?_, fun q hq => (h3 q hq).1, h4⟩
          intro q hq
          rcases List.mem_cons.1 hq with rfl | hq
          · omega
          · have := h3 q hq; omega
        · rintro ⟨h3, h4, h5⟩
          refine ⟨fun q hq => ?_, h5⟩
          have a := h3 q (by simp [hq])
          have b := h4 q hq
          omega

/-- What a right book is. -/
structure BookOk (b : List Ver) : Prop where
  top : b.length ≤ 12
  par : ∀ (k : Nat) v, b[k]? = some v → (∀ p ∈ v.1, 0 ≤ p ∧ p < (k : Int)) ∧ v.1.Pairwise (· < ·)
  plan : ∀ (k : Nat) v, b[k]? = some v → planV v.2.1 v.2.2.1 v.2.2.2 = 0

theorem verV_ok {k : Int} {v : Ver} : verV k v = 0 ↔ ((∀ p ∈ v.1, 0 ≤ p ∧ p < k) ∧ v.1.Pairwise (· < ·)) ∧ planV v.2.1 v.2.2.1 v.2.2.2 = 0 := by
  have h := parsV_ok k v.1 (-1) (by omega)
  unfold verV
  split
  · rename_i h1
    constructor
    · intro e; exact absurd e h1
    · rintro ⟨⟨h2, h3⟩, _⟩
      exact absurd (h.2 ⟨fun p hp => by have := h2 p hp; omega, h3⟩) h1
  · rename_i h1
    have h1 : parsV k (-1) v.1 = 0 := Classical.byContradiction h1
    have h2 := h.1 h1
    constructor
    · intro e; exact ⟨⟨fun p hp => (h2.1 p hp).2, h2.2⟩, e⟩
    · rintro ⟨_, e⟩; exact e
theorem versV_ok : ∀ (vs : List Ver) (k : Nat), versV k vs = 0 ↔ ∀ (i : Nat) v, vs[i]? = some v → verV ((k + i : Nat) : Int) v = 0
  | [], k => by simp [versV]
  | v :: r, k => by
    unfold versV
    by_cases h : verV k v = 0
    · rw [if_neg (by simpa using h), versV_ok r (k + 1)]
      constructor
      · intro hh i u hu
        match i, hu with
        | 0, hu => simp at hu; subst hu; simpa using h
        | i + 1, hu =>
          have := hh i u (by simpa using hu)
          rw [show k + (i + 1) = k + 1 + i by omega]
          exact this
      · intro hh i u hu
        have := hh (i + 1) u (by simpa using hu)
        rw [show k + (i + 1) = k + 1 + i by omega] at this
        exact this
    · rw [if_pos h]
      constructor
      · intro e; exact absurd e h
      · intro hh
        have := hh 0 v (by simp)
        simp at this
        exact absurd this h
theorem bookV_ok {b : List Ver} : bookV b = 0 ↔ BookOk b := by
  unfold bookV
  by_cases h : 12 < (b.length : Int)
  · rw [if_pos h]
    constructor
    · intro e; simp at e
    · intro hb; have := hb.top; omega
  · rw [if_neg h, versV_ok]
    constructor
    · intro hh
      refine ⟨by omega, fun k v hv => ?_, fun k v hv => ?_⟩
      · have := verV_ok.1 (hh k v hv)
        simpa using this.1
      · exact (verV_ok.1 (hh k v hv)).2
    · intro hb i v hv
      exact verV_ok.2 ⟨by simpa using hb.par i v hv, hb.plan i v hv⟩

/-- The parents of version k. -/
def pars (b : List Ver) (k : Nat) : List Int := ((b[k]?).map (·.1)).getD []
/-- Does version k come from another one? (With so many steps.) -/
def fromF (b : List Ver) : Nat → Int → Int → Bool
  | 0, k, old => decide (k = old)
  | f + 1, k, old => decide (k = old) || (pars b k.toNat).any (fun p => fromF b f p old)
def fromV (b : List Ver) (k old : Int) : Bool := fromF b 12 k old

section
variable {b : List Ver}
theorem BookOk.pars (h : BookOk b) (k : Nat) : (∀ p ∈ pars b k, 0 ≤ p ∧ p < (k : Int)) ∧ (Go.Proofs.Ytpjlngkndofjfaa.pars b k).Pairwise (· < ·) := by
  unfold Go.Proofs.Ytpjlngkndofjfaa.pars
  cases hv : b[k]? with
  | none => simp
  | some v => simpa using h.par k v hv
theorem pars_get {k : Nat} {v : Ver} (h : b[k]? = some v) : pars b k = v.1 := by simp [pars, h]
theorem pars_past {k : Nat} (h : b.length ≤ k) : pars b k = [] := by simp [pars, List.getElem?_eq_none h]

theorem fromF_stable (h : BookOk b) (old : Int) : ∀ (f g : Nat) (k : Int), 0 ≤ k → k ≤ f → k ≤ g → fromF b f k old = fromF b g k old
  | 0, 0, _, _, _, _ => rfl
  | 0, g + 1, k, h0, h1, _ => by
    have : k = 0 := by omega
    subst this
    have hp : pars b 0 = [] := by
      cases hl : pars b 0 with
      | nil => rfl
      | cons p r =>
        have := (h.pars 0).1 p (by rw [hl]; simp)
        omega
    simp [fromF, hp]
  | f + 1, 0, k, h0, _, h1 => by
    have : k = 0 := by omega
    subst this
    have hp : pars b 0 = [] := by
      cases hl : pars b 0 with
      | nil => rfl
      | cons p r =>
        have := (h.pars 0).1 p (by rw [hl]; simp)
        omega
    simp [fromF, hp]
  | f + 1, g + 1, k, h0, h1, h2 => by
    unfold fromF
    congr 1
    have hp := (h.pars k.toNat).1
    generalize pars b k.toNat = l at hp
    induction l with
    | nil => rfl
    | cons p r ih =>
      have hp0 := hp p (by simp)
      simp only [List.any_cons]
      rw [ih (fun q hq => hp q (by simp [hq])), fromF_stable h old f g p hp0.1 (by omega) (by omega)]
theorem fromV_step (h : BookOk b) {k : Int} (h0 : 0 ≤ k) (h1 : k ≤ 12) (old : Int) : fromV b k old = (decide (k = old) || (pars b k.toNat).any (fun p => fromV b p old)) := by
  unfold fromV
  rw [fromF_stable h old 12 13 k h0 (by omega) (by omega)]
  rfl
theorem fromV_iff (h : BookOk b) {k : Int} (h0 : 0 ≤ k) (h1 : k ≤ 12) {old : Int} : fromV b k old = true ↔ k = old ∨ ∃ p ∈ pars b k.toNat, fromV b p old = true := by
  rw [fromV_step h h0 h1]
  simp
theorem from_self (b : List Ver) (k : Int) : fromV b k k = true := by simp [fromV, fromF]

theorem from_le (h : BookOk b) : ∀ (n : Nat) {k old : Int}, k ≤ n → 0 ≤ k → k ≤ 12 → fromV b k old = true → 0 ≤ old ∧ old ≤ k
  | n, k, old, hn, h0, h1, hf => by
    rcases (fromV_iff h h0 h1).1 hf with rfl | ⟨p, hp, hf⟩
    · omega
    · have hb := (h.pars k.toNat).1 p hp
      match n with
      | 0 => omega
      | n + 1 =>
        have := from_le h n (k := p) (by omega) (by omega) (by omega) hf
        omega
theorem from_bd (h : BookOk b) {k old : Int} (h0 : 0 ≤ k) (h1 : k ≤ 12) (hf : fromV b k old = true) : 0 ≤ old ∧ old ≤ k := from_le h k.toNat (by omega) h0 h1 hf
theorem from_trans_n (h : BookOk b) {m o : Int} (hm : fromV b m o = true) : ∀ (n : Nat) {k : Int}, k ≤ n → 0 ≤ k → k ≤ 12 → fromV b k m = true → fromV b k o = true
  | n, k, hn, h0, h1, hf => by
    rcases (fromV_iff h h0 h1).1 hf with rfl | ⟨p, hp, hf⟩
    · exact hm
    · have hb := (h.pars k.toNat).1 p hp
      match n with
      | 0 => omega
      | n + 1 => exact (fromV_iff h h0 h1).2 (Or.inr ⟨p, hp, from_trans_n h hm n (by omega) (by omega) (by omega) hf⟩)
theorem from_trans (h : BookOk b) {k m o : Int} (h0 : 0 ≤ k) (h1 : k ≤ 12) (hk : fromV b k m = true) (hm : fromV b m o = true) : fromV b k o = true := from_trans_n h hm k.toNat (by omega) h0 h1 hk
/-- A parent of what it comes from it comes from too. -/
theorem from_par (h : BookOk b) {k m o : Int} (h0 : 0 ≤ k) (h1 : k ≤ 12) (hk : fromV b k m = true) (ho : o ∈ pars b m.toNat) : fromV b k o = true := by
  have hb := from_bd h h0 h1 hk
  exact from_trans h h0 h1 hk ((fromV_iff h hb.1 (by omega)).2 (Or.inr ⟨o, ho, from_self _ _⟩))
theorem from_last_n (h : BookOk b) {o : Int} : ∀ (n : Nat) {k : Int}, k ≤ n → 0 ≤ k → k ≤ 12 → fromV b k o = true → k ≠ o → ∃ m, fromV b k m = true ∧ o ∈ pars b m.toNat
  | n, k, hn, h0, h1, hf, hne => by
    rcases (fromV_iff h h0 h1).1 hf with rfl | ⟨p, hp, hf⟩
    · exact absurd rfl hne
    · have hb := (h.pars k.toNat).1 p hp
      by_cases hpo : p = o
      · subst hpo
        exact ⟨k, from_self _ _, hp⟩
      · match n with
        | 0 => omega
        | n + 1 =>
          obtain ⟨m, hm, ho⟩ := from_last_n h n (k := p) (by omega) (by omega) (by omega) hf hpo
          exact ⟨m, (fromV_iff h h0 h1).2 (Or.inr ⟨p, hp, hm⟩), ho⟩
theorem from_iff_last (h : BookOk b) {k o : Int} (h0 : 0 ≤ k) (h1 : k ≤ 12) : fromV b k o = true ↔ o = k ∨ ∃ m, 0 ≤ m ∧ o < m ∧ m ≤ k ∧ fromV b k m = true ∧ o ∈ pars b m.toNat := by
  constructor
  · intro hf
    by_cases e : o = k
    · exact Or.inl e
    · obtain ⟨m, hm, ho⟩ := from_last_n h k.toNat (by omega) h0 h1 hf (fun e' => e e'.symm)
      have hb := from_bd h h0 h1 hm
      have hp := (h.pars m.toNat).1 o ho
      exact Or.inr ⟨m, hb.1, by omega, hb.2, hm, ho⟩
  · rintro (rfl | ⟨m, _, _, _, hm, ho⟩)
    · exact from_self _ _
    · exact from_par h h0 h1 hm ho

/-- All that version k comes from, rising. -/
def behindL (b : List Ver) (k : Int) : List Int := ((List.range (k.toNat + 1)).map fun (j : Nat) => (j : Int)).filter fun o => fromV b k o
theorem mem_behind (h : BookOk b) {k o : Int} (h0 : 0 ≤ k) (h1 : k ≤ 12) : o ∈ behindL b k ↔ fromV b k o = true := by
  unfold behindL
  rw [List.mem_filter]
  constructor
  · rintro ⟨_, h⟩; exact h
  · intro hf
    have hb := from_bd h h0 h1 hf
    exact ⟨List.mem_map.2 ⟨o.toNat, List.mem_range.2 (by omega), by omega⟩, hf⟩
theorem range_sorted (n : Nat) : ((List.range n).map fun (j : Nat) => (j : Int)).Pairwise (· < ·) :=
  List.pairwise_map.2 (List.Pairwise.imp (fun hab => by omega) List.pairwise_lt_range)
theorem behind_sorted (b : List Ver) (k : Int) : (behindL b k).Pairwise (· < ·) := (range_sorted _).filter _
/-- Rising lists of the same numbers are one. -/
theorem sorted_ext : ∀ {l r : List Int}, l.Pairwise (· < ·) → r.Pairwise (· < ·) → (∀ x, x ∈ l ↔ x ∈ r) → l = r
  | [], [], _, _, _ => rfl
  | [], y :: r, _, _, h => by have := (h y).2 (by simp); simp at this
  | x :: l, [], _, _, h => by have := (h x).1 (by simp); simp at this
  | x :: l, y :: r, hl, hr, h => by
    have hl' := List.pairwise_cons.1 hl
    have hr' := List.pairwise_cons.1 hr
    have hxy : x = y := by
      rcases List.mem_cons.1 ((h x).1 (by simp)) with e | hx
      · exact e
      · rcases List.mem_cons.1 ((h y).2 (by simp)) with e | hy
        · exact e.symm
        · have a := hl'.1 y hy
          have c := hr'.1 x hx
          omega
    subst hxy
    congr 1
    refine sorted_ext hl'.2 hr'.2 fun z => ?_
    constructor
    · intro hz
      rcases List.mem_cons.1 ((h z).1 (by simp [hz])) with e | hz'
      · subst e; have := hl'.1 z hz; omega
      · exact hz'
    · intro hz
      rcases List.mem_cons.1 ((h z).2 (by simp [hz])) with e | hz'
      · subst e; have := hr'.1 z hz; omega
      · exact hz'

/-- Versions that are no parent, rising. -/
def headsL (b : List Ver) : List Int := ((List.range b.length).map fun (j : Nat) => (j : Int)).filter fun k => !(b.any fun v => memB k v.1)
/-- What both come from, but for what another such one comes from. -/
def bothL (b : List Ver) (i j : Int) : List Int := (behindL b i).filter fun k => memB k (behindL b j)
def commonL (b : List Ver) (i j : Int) : List Int := (bothL b i j).filter fun k => !((bothL b i j).any fun o => decide (o ≠ k) && memB k (behindL b o))
def apartV (b : List Ver) (i j : Int) : Bool := !memB i (commonL b i j) && !memB j (commonL b i j)
theorem common_sorted (b : List Ver) (i j : Int) : (commonL b i j).Pairwise (· < ·) := ((behind_sorted _ _).filter _).filter _
theorem mem_both (h : BookOk b) {i j k : Int} (i0 : 0 ≤ i) (i1 : i ≤ 12) (j0 : 0 ≤ j) (j1 : j ≤ 12) : k ∈ bothL b i j ↔ fromV b i k = true ∧ fromV b j k = true := by
  unfold bothL
  rw [List.mem_filter, mem_behind h i0 i1]
  simp [memB, mem_behind h j0 j1]
theorem mem_common (h : BookOk b) {i j k : Int} (i0 : 0 ≤ i) (i1 : i ≤ 12) (j0 : 0 ≤ j) (j1 : j ≤ 12) : k ∈ commonL b i j ↔ (fromV b i k = true ∧ fromV b j k = true) ∧ ∀ o, fromV b i o = true → fromV b j o = true → fromV b o k = true → o = k := by
  unfold commonL
  rw [List.mem_filter, mem_both h i0 i1 j0 j1]
  simp only [Bool.not_eq_true', List.any_eq_false, Bool.and_eq_true, decide_eq_true_eq, not_and, mem_both h i0 i1 j0 j1]
  constructor
  · rintro ⟨h1, h2⟩
    refine ⟨h1, fun o hi hj ho => ?_⟩
    have hb := from_bd h i0 i1 hi
    by_cases e : o = k
    · exact e
    · exact absurd (decide_eq_true ((mem_behind h hb.1 (by omega)).2 ho)) (h2 o ⟨hi, hj⟩ e)
  · rintro ⟨h1, h2⟩
    refine ⟨h1, fun o hij e hm => ?_⟩
    have hb := from_bd h i0 i1 hij.1
    exact e (h2 o hij.1 hij.2 ((mem_behind h hb.1 (by omega)).1 (of_decide_eq_true hm)))
end

/-- Behind: what is wrong, and what is behind. -/
def behindE (b : List Ver) (k : Int) : Int := if bookV b ≠ 0 then bookV b else if k < 0 ∨ (b.length : Int) ≤ k then 4 else 0
def behindC (b : List Ver) (k : Int) : List Int := if behindE b k = 0 then behindL b k else []
theorem behindE_chk {b : List Ver} (k : Int) (h : bookV b ≠ 0) : behindE b k = bookV b := by unfold behindE; rw [if_pos h]
theorem behindE_who {b : List Ver} {k : Int} (h : bookV b = 0) (hk : k < 0 ∨ (b.length : Int) ≤ k) : behindE b k = 4 := by unfold behindE; rw [if_neg (by simpa using h), if_pos hk]
theorem behindE_ok {b : List Ver} {k : Int} (h : bookV b = 0) (h0 : 0 ≤ k) (h1 : k < b.length) : behindE b k = 0 := by unfold behindE; rw [if_neg (by simpa using h), if_neg (by omega)]
theorem behindC_no {b : List Ver} {k : Int} (h : behindE b k ≠ 0) : behindC b k = [] := by unfold behindC; rw [if_neg h]
theorem behindC_ok {b : List Ver} {k : Int} (h : behindE b k = 0) : behindC b k = behindL b k := by unfold behindC; rw [if_pos h]
/-- On the way down from version k: those above i that it comes from, falling. -/
def downL (b : List Ver) (k : Int) (i : Int) : List Int := ((behindL b k).filter fun o => decide (i < o)).reverse
theorem downL_start (b : List Ver) {k : Int} (h0 : 0 ≤ k) : downL b k k = [] := by
  unfold downL
  rw [List.reverse_eq_nil_iff, List.filter_eq_nil_iff]
  intro o ho
  unfold behindL at ho
  rw [List.mem_filter, List.mem_map] at ho
  obtain ⟨⟨j, hj, rfl⟩, _⟩ := ho
  have := List.mem_range.1 hj
  simp
  omega
theorem downL_done (b : List Ver) (k : Int) : (downL b k (-1)).reverse = behindL b k := by
  unfold downL
  rw [List.reverse_reverse, List.filter_eq_self]
  intro o ho
  unfold behindL at ho
  rw [List.mem_filter, List.mem_map] at ho
  obtain ⟨⟨j, _, rfl⟩, _⟩ := ho
  simp
  omega
theorem filter_split {l : List Int} (h : l.Pairwise (· < ·)) (i : Int) : l.filter (fun o => decide (i - 1 < o)) = (if i ∈ l then [i] else []) ++ l.filter (fun o => decide (i < o)) := by
  induction l with
  | nil => simp
  | cons x l ih =>
    have h' := List.pairwise_cons.1 h
    have ih := ih h'.2
    by_cases hx : x < i
    · have e1 : decide (i - 1 < x) = false := by simp; omega
      have e2 : decide (i < x) = false := by simp; omega
      have e3 : (i ∈ x :: l) ↔ i ∈ l := by
        rw [List.mem_cons]
        constructor
        · rintro (e | h)
          · omega
          · exact h
        · exact Or.inr
      simp only [List.filter_cons, e1, e2, Bool.false_eq_true, if_false, e3, ih]
    · by_cases he : x = i
      · subst he
        have e1 : decide (x - 1 < x) = true := by simp; omega
        have e2 : decide (x < x) = false := by simp
        have hn : x ∉ l := fun hh => by have := h'.1 x hh; omega
        simp only [List.filter_cons, e1, e2, Bool.false_eq_true, if_false, if_true, ih]
        simp [hn]
      · have e1 : decide (i - 1 < x) = true := by simp; omega
        have e2 : decide (i < x) = true := by simp; omega
        have hn : i ∉ l := fun hh => by have := h'.1 i hh; omega
        have hn2 : i ∉ x :: l := by
          rw [List.mem_cons]
          rintro (e | hh)
          · exact he e.symm
          · exact hn hh
        simp only [List.filter_cons, e1, e2, if_true, ih]
        rw [if_neg hn, if_neg hn2]
        simp
theorem downL_yes {b : List Ver} (h : BookOk b) {k i : Int} (h0 : 0 ≤ k) (h1 : k ≤ 12) (hf : fromV b k i = true) : downL b k (i - 1) = downL b k i ++ [i] := by
  unfold downL
  rw [filter_split (behind_sorted b k) i, if_pos ((mem_behind h h0 h1).2 hf)]
  simp
theorem downL_no {b : List Ver} (h : BookOk b) {k i : Int} (h0 : 0 ≤ k) (h1 : k ≤ 12) (hf : fromV b k i = false) : downL b k (i - 1) = downL b k i := by
  unfold downL
  rw [filter_split (behind_sorted b k) i, if_neg (by rw [mem_behind h h0 h1, hf]; simp)]
  simp
theorem downL_len (b : List Ver) (k i : Int) : (downL b k i).length ≤ k.toNat + 1 := by
  unfold downL behindL
  rw [List.length_reverse]
  refine Nat.le_trans (List.length_filter_le _ _) (Nat.le_trans (List.length_filter_le _ _) ?_)
  simp
/-- What is known on the way down: k, and the parents of those above i that it comes from. -/
def Known (b : List Ver) (k i : Int) (l : List Int) : Prop := ∀ z, z ∈ l ↔ z = k ∨ ∃ m, i < m ∧ m ≤ k ∧ fromV b k m = true ∧ z ∈ pars b m.toNat
theorem Known.from {b : List Ver} (h : BookOk b) {k i : Int} {l : List Int} (hk : Known b k i l) (h0 : 0 ≤ k) (h1 : k ≤ 12) : decide (i ∈ l) = fromV b k i := by
  rw [Bool.eq_iff_iff, decide_eq_true_eq, hk i, from_iff_last h h0 h1]
  constructor
  · rintro (e | ⟨m, a, c, d, f⟩)
    · exact Or.inl e
    · exact Or.inr ⟨m, by have := from_bd h h0 h1 d; omega, a, c, d, f⟩
  · rintro (e | ⟨m, _, a, c, d, f⟩)
    · exact Or.inl e
    · exact Or.inr ⟨m, a, c, d, f⟩
theorem Known.start (b : List Ver) (k : Int) : Known b k k [k] := by
  intro z
  rw [List.mem_singleton]
  constructor
  · exact Or.inl
  · rintro (e | ⟨m, a, c, _⟩)
    · exact e
    · omega
theorem Known.yes {b : List Ver} {k i : Int} {l : List Int} (hk : Known b k i l) (hi : i ≤ k) (hf : fromV b k i = true) : Known b k (i - 1) (l ++ pars b i.toNat) := by
  intro z
  rw [List.mem_append, hk z]
  constructor
  · rintro ((e | ⟨m, a, c, d, f⟩) | h)
    · exact Or.inl e
    · exact Or.inr ⟨m, by omega, c, d, f⟩
    · exact Or.inr ⟨i, by omega, hi, hf, h⟩
  · rintro (e | ⟨m, a, c, d, f⟩)
    · exact Or.inl (Or.inl e)
    · by_cases e : m = i
      · subst e; exact Or.inr f
      · exact Or.inl (Or.inr ⟨m, by omega, c, d, f⟩)
theorem Known.no {b : List Ver} {k i : Int} {l : List Int} (hk : Known b k i l) (hf : fromV b k i = false) : Known b k (i - 1) l := by
  intro z
  rw [hk z]
  constructor
  · rintro (e | ⟨m, a, c, d, f⟩)
    · exact Or.inl e
    · exact Or.inr ⟨m, by omega, c, d, f⟩
  · rintro (e | ⟨m, a, c, d, f⟩)
    · exact Or.inl e
    · by_cases e : m = i
      · subst e; rw [hf] at d; cases d
      · exact Or.inr ⟨m, by omega, c, d, f⟩
/-- Common: what is wrong. -/
def commonE (b : List Ver) (i j : Int) : Int := if behindE b i ≠ 0 then behindE b i else behindE b j
def commonC (b : List Ver) (i j : Int) : List Int := if commonE b i j = 0 then commonL b i j else []
theorem commonE_i {b : List Ver} {i : Int} (j : Int) (h : behindE b i ≠ 0) : commonE b i j = behindE b i := by unfold commonE; rw [if_pos h]
theorem commonE_j {b : List Ver} {i : Int} (j : Int) (h : behindE b i = 0) : commonE b i j = behindE b j := by unfold commonE; rw [if_neg (by simpa using h)]
theorem commonC_no {b : List Ver} {i j : Int} (h : commonE b i j ≠ 0) : commonC b i j = [] := by unfold commonC; rw [if_neg h]
theorem commonC_ok {b : List Ver} {i j : Int} (h : commonE b i j = 0) : commonC b i j = commonL b i j := by unfold commonC; rw [if_pos h]
theorem behindE_zero {b : List Ver} {k : Int} (h : behindE b k = 0) : bookV b = 0 ∧ 0 ≤ k ∧ k < b.length := by
  unfold behindE at h
  split at h
  · rename_i h1; exact absurd h h1
  · rename_i h1
    split at h
    · simp at h
    · exact ⟨Classical.byContradiction h1, by omega, by omega⟩
/-- What closure and loop of Common ask of one version. -/
def lowerV (b : List Ver) (k o : Int) : Bool := decide (o ≠ k) && memB k (behindC b o)
theorem common_step {b : List Ver} {i j : Int} (hi : behindE b i = 0) : commonL b i j = (bothL b i j).filter fun k => !((bothL b i j).any fun o => lowerV b k o) := by
  unfold commonL
  apply List.filter_congr
  intro k _
  congr 1
  rw [Bool.eq_iff_iff]
  have e : ∀ o ∈ bothL b i j, behindC b o = behindL b o := by
    intro o ho
    unfold bothL behindL at ho
    rw [List.mem_filter, List.mem_filter, List.mem_map] at ho
    obtain ⟨⟨⟨n, hn, rfl⟩, _⟩, _⟩ := ho
    have := List.mem_range.1 hn
    obtain ⟨h0, h1, h2⟩ := behindE_zero hi
    exact behindC_ok (behindE_ok h0 (by omega) (by omega))
  simp only [List.any_eq_true, lowerV]
  constructor
  · rintro ⟨o, ho, h⟩; exact ⟨o, ho, by rw [e o ho]; exact h⟩
  · rintro ⟨o, ho, h⟩; exact ⟨o, ho, by rw [e o ho] at h; exact h⟩
/-- Add: what is wrong, and the book behind it. -/
def addVE (b : List Ver) (v : Ver) : Int := if bookV b ≠ 0 then bookV b else if (b.length : Int) = 12 then 1 else bookV (b ++ [v])
/-- The book behind it; none where something is wrong. -/
def addC (b : List Ver) (v : Ver) : List Ver := if addVE b v = 0 then b ++ [v] else []
theorem addC_ok {b : List Ver} {v : Ver} (h : addVE b v = 0) : addC b v = b ++ [v] := by unfold addC; rw [if_pos h]
theorem addC_no {b : List Ver} {v : Ver} (h : addVE b v ≠ 0) : addC b v = [] := by unfold addC; rw [if_neg h]
theorem addVE_ref (b : List Ver) (v : Ver) : addVE b v = if bookV b ≠ 0 then bookV b else bookV (b ++ [v]) := by
  unfold addVE
  split
  · rfl
  · split
    · rename_i h
      unfold bookV
      rw [if_pos (by simp; omega)]
    · rfl
theorem addVE_ok {b : List Ver} {v : Ver} (h : addVE b v = 0) : BookOk b ∧ BookOk (b ++ [v]) ∧ b.length < 12 := by
  rw [addVE_ref] at h
  split at h
  · rename_i h1; exact absurd h h1
  · rename_i h1
    have := bookV_ok.1 h
    have ht := this.top
    simp at ht
    exact ⟨bookV_ok.1 (Classical.byContradiction h1), this, by omega⟩

end Go.Proofs.Ytpjlngkndofjfaa
