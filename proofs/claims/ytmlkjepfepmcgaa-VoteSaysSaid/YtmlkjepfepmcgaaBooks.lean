/-
  Books in plain lists: what is wrong with one, what is behind a version, its heads, what two versions have in common.
  The plain laws of what versions have in common, and of books that grow.
  The walks of a book's check, and the reference's.
  The walk of the reference's check of a book.
  The walk of the closed facts' family.
  From what a book and a version read as, to this proof's words.
-/
import Derived.Test.YtmlkjepfepmcgaaCurves
import Derived.Test.YtmlkjepfepmcgaaRowAll
import Derived.Test.YtmlkjepfepmcgaaBase
namespace Go.Proofs.Ytmlkjepfepmcgaa

/-- A version: its parents, its plan. -/
abbrev Ver := List Int × Int × Int × Int

/-- What a right book is. -/
structure BookOk (b : List Ver) : Prop where
  top : b.length ≤ 12
  par : ∀ (k : Nat) v, b[k]? = some v → (∀ p ∈ v.1, 0 ≤ p ∧ p < (k : Int)) ∧ v.1.Pairwise (· < ·)
  plan : ∀ (k : Nat) v, b[k]? = some v → planV v.2.1 v.2.2.1 v.2.2.2 = 0

/-- The parents of version k. -/
def pars (b : List Ver) (k : Nat) : List Int := ((b[k]?).map (·.1)).getD []
/-- Does version k come from another one? (With so many steps.) -/
def fromF (b : List Ver) : Nat → Int → Int → Bool
  | 0, k, old => decide (k = old)
  | f + 1, k, old => decide (k = old) || (pars b k.toNat).any (fun p => fromF b f p old)
def fromV (b : List Ver) (k old : Int) : Bool := fromF b 12 k old

section
variable {b : List Ver}
theorem BookOk.pars (h : BookOk b) (k : Nat) : (∀ p ∈ pars b k, 0 ≤ p ∧ p < (k : Int)) ∧ (Go.Proofs.Ytmlkjepfepmcgaa.pars b k).Pairwise (· < ·) := by
  unfold Go.Proofs.Ytmlkjepfepmcgaa.pars
  cases hv : b[k]? with
  | none => simp
  | some v => simpa using h.par k v hv
theorem fromF_stable (h : BookOk b) (old : Int) : ∀ (f g : Nat) (k : Int), 0 ≤ k → k ≤ f → k ≤ g → fromF b f k old = fromF b g k old
  | 0, 0, _, _, _, _ => rfl
  | 0, g + 1, k, h0, h1, _ => by
    have : k = 0 := by omega
    subst this
    have hp : pars b 0 = [] := by
      cases hl : pars b 0 with
      | nil => rfl
      | cons p r =>
        have := (h.pars 0).1 p (by rw [hl]; simp)
        omega
    simp [fromF, hp]
  | f + 1, 0, k, h0, _, h1 => by
    have : k = 0 := by omega
    subst this
    have hp : pars b 0 = [] := by
      cases hl : pars b 0 with
      | nil => rfl
      | cons p r =>
        have := (h.pars 0).1 p (by rw [hl]; simp)
        omega
    simp [fromF, hp]
  | f + 1, g + 1, k, h0, h1, h2 => by
    unfold fromF
    congr 1
    have hp := (h.pars k.toNat).1
    generalize pars b k.toNat = l at hp
    induction l with
    | nil => rfl
    | cons p r ih =>
      have hp0 := hp p (by simp)
      simp only [List.any_cons]
      rw [ih (fun q hq => hp q (by simp [hq])), fromF_stable h old f g p hp0.1 (by omega) (by omega)]
theorem fromV_step (h : BookOk b) {k : Int} (h0 : 0 ≤ k) (h1 : k ≤ 12) (old : Int) : fromV b k old = (decide (k = old) || (pars b k.toNat).any (fun p => fromV b p old)) := by
  unfold fromV
  rw [fromF_stable h old 12 13 k h0 (by omega) (by omega)]
  rfl
theorem fromV_iff (h : BookOk b) {k : Int} (h0 : 0 ≤ k) (h1 : k ≤ 12) {old : Int} : fromV b k old = true ↔ k = old ∨ ∃ p ∈ pars b k.toNat, fromV b p old = true := by
  rw [fromV_step h h0 h1]
  simp
theorem from_self (b : List Ver) (k : Int) : fromV b k k = true := by simp [fromV, fromF]

theorem from_le (h : BookOk b) : ∀ (n : Nat) {k old : Int}, k ≤ n → 0 ≤ k → k ≤ 12 → fromV b k old = true → 0 ≤ old ∧ old ≤ k
  | n, k, old, hn, h0, h1, hf => by
    rcases (fromV_iff h h0 h1).1 hf with rfl | ⟨p, hp, hf⟩
    · omega
    · have hb := (h.pars k.toNat).1 p hp
      match n with
      | 0 => omega
      | n + 1 =>
        have := from_le h n (k := p) (by omega) (by omega) (by omega) hf
        omega
theorem from_bd (h : BookOk b) {k old : Int} (h0 : 0 ≤ k) (h1 : k ≤ 12) (hf : fromV b k old = true) : 0 ≤ old ∧ old ≤ k := from_le h k.toNat (by omega) h0 h1 hf
theorem from_trans_n (h : BookOk b) {m o : Int} (hm : fromV b m o = true) : ∀ (n : Nat) {k : Int}, k ≤ n → 0 ≤ k → k ≤ 12 → fromV b k m = true → fromV b k o = true
  | n, k, hn, h0, h1, hf => by
    rcases (fromV_iff h h0 h1).1 hf with rfl | ⟨p, hp, hf⟩
    · exact hm
    · have hb := (h.pars k.toNat).1 p hp
      match n with
      | 0 => omega
      | n + 1 => exact (fromV_iff h h0 h1).2 (Or.inr ⟨p, hp, from_trans_n h hm n (by omega) (by omega) (by omega) hf⟩)
theorem from_trans (h : BookOk b) {k m o : Int} (h0 : 0 ≤ k) (h1 : k ≤ 12) (hk : fromV b k m = true) (hm : fromV b m o = true) : fromV b k o = true := from_trans_n h hm k.toNat (by omega) h0 h1 hk
/-- A parent of what it comes from it comes from too. -/
theorem from_par (h : BookOk b) {k m o : Int} (h0 : 0 ≤ k) (h1 : k ≤ 12) (hk : fromV b k m = true) (ho : o ∈ pars b m.toNat) : fromV b k o = true := by
  have hb := from_bd h h0 h1 hk
  exact from_trans h h0 h1 hk ((fromV_iff h hb.1 (by omega)).2 (Or.inr ⟨o, ho, from_self _ _⟩))
theorem from_last_n (h : BookOk b) {o : Int} : ∀ (n : Nat) {k : Int}, k ≤ n → 0 ≤ k → k ≤ 12 → fromV b k o = true → k ≠ o → ∃ m, fromV b k m = true ∧ o ∈ pars b m.toNat
  | n, k, hn, h0, h1, hf, hne => by
    rcases (fromV_iff h h0 h1).1 hf with rfl | ⟨p, hp, hf⟩
    · exact absurd rfl hne
    · have hb := (h.pars k.toNat).1 p hp
      by_cases hpo : p = o
      · subst hpo
        exact ⟨k, from_self _ _, hp⟩
      · match n with
        | 0 => omega
        | n + 1 =>
          obtain ⟨m, hm, ho⟩ := from_last_n h n (k := p) (by omega) (by omega) (by omega) hf hpo
          exact ⟨m, (fromV_iff h h0 h1).2 (Or.inr ⟨p, hp, hm⟩), ho⟩
theorem from_iff_last (h : BookOk b) {k o : Int} (h0 : 0 ≤ k) (h1 : k ≤ 12) : fromV b k o = true ↔ o = k ∨ ∃ m, 0 ≤ m ∧ o < m ∧ m ≤ k ∧ fromV b k m = true ∧ o ∈ pars b m.toNat := by
  constructor
  · intro hf
    by_cases e : o = k
    · exact Or.inl e
    · obtain ⟨m, hm, ho⟩ := from_last_n h k.toNat (by omega) h0 h1 hf (fun e' => e e'.symm)
      have hb := from_bd h h0 h1 hm
      have hp := (h.pars m.toNat).1 o ho
      exact Or.inr ⟨m, hb.1, by omega, hb.2, hm, ho⟩
  · rintro (rfl | ⟨m, _, _, _, hm, ho⟩)
    · exact from_self _ _
    · exact from_par h h0 h1 hm ho

end

/-- What is known on the way down: k, and the parents of those above i that it comes from. -/
def Known (b : List Ver) (k i : Int) (l : List Int) : Prop := ∀ z, z ∈ l ↔ z = k ∨ ∃ m, i < m ∧ m ≤ k ∧ fromV b k m = true ∧ z ∈ pars b m.toNat
theorem Known.from {b : List Ver} (h : BookOk b) {k i : Int} {l : List Int} (hk : Known b k i l) (h0 : 0 ≤ k) (h1 : k ≤ 12) : decide (i ∈ l) = fromV b k i := by
  rw [Bool.eq_iff_iff, decide_eq_true_eq, hk i, from_iff_last h h0 h1]
  constructor
  · rintro (e | ⟨m, a, c, d, f⟩)
    · exact Or.inl e
    · exact Or.inr ⟨m, by have := from_bd h h0 h1 d; omega, a, c, d, f⟩
  · rintro (e | ⟨m, _, a, c, d, f⟩)
    · exact Or.inl e
    · exact Or.inr ⟨m, a, c, d, f⟩
end Go.Proofs.Ytmlkjepfepmcgaa

namespace Go.Proofs.Ytmlkjepfepmcgaa
section
variable {b : List Ver}

/-! ### A book that grows -/
end
end Go.Proofs.Ytmlkjepfepmcgaa

namespace Go.Proofs.Ytmlkjepfepmcgaa
open Go.RowKit

/-- A version: a slice of parents, a plan. -/
def RVer : Rd Ver := fun w cs x => ∃ v, cs = [v, .int .i64 x.2.1, .int .i64 x.2.2.1, .int .i64 x.2.2.2] ∧ IsInts w v x.1 ∧ I64 x.2.1 ∧ I64 x.2.2.1 ∧ I64 x.2.2.2
theorem RVer.stays : RVer.Stays := by
  rintro w cs x ⟨v, rfl, h, i⟩ w' hw
  exact ⟨v, rfl, h.framed (fun _ _ _ => id) hw, i⟩
/-- The value is a slice of these versions. -/
abbrev IsVers (w : World) (v : Value) (b : List Ver) : Prop := IsRow 4 RVer w v b
/-- Of the parents from place j on the last one before them. -/
def Last (l : List Int) (j : Nat) (last : Int) : Prop := (j = 0 ∧ last = -1) ∨ (0 < j ∧ l[j - 1]? = some last)
theorem Last.step {l : List Int} {j : Nat} {z : Int} (h : l[j]? = some z) : Last l (j + 1) z := Or.inr ⟨by omega, by simpa using h⟩

end Go.Proofs.Ytmlkjepfepmcgaa

namespace Go.Proofs.Ytmlkjepfepmcgaa
open Go.RowKit

end Go.Proofs.Ytmlkjepfepmcgaa

namespace Go.Proofs.Ytmlkjepfepmcgaa
open Go.RowKit

theorem IsInts.one {w : World} {b : Nat} {z : Int} (h : w.cell? ⟨b, 0, none⟩ = some (.int .i64 z)) (hi : I64 z) : IsInts w (.slice (some ⟨b, 0, none⟩) 1 1) [z] := by
  refine ⟨_, 1, rfl, Nat.le_refl _, ⟨by simp, by omega, fun e => by cases e⟩, fun i hi' => ?_⟩
  have : i = 0 := by simp at hi'; exact hi'
  subst this
  exact ⟨b, 0, z, rfl, h, rfl, hi⟩
end Go.Proofs.Ytmlkjepfepmcgaa

namespace Go.Proofs.Ytmlkjepfepmcgaa
open Go.ChangeShapes Go.WideShapes Go.ChangeAt Go.RowKit Go.Deep
section
variable {H : Type} {enc : TypeId × Value → H} {W : World} {base : Nat} {v : Value} {d : DataW H} {ps : List MemPlace}
end
end Go.Proofs.Ytmlkjepfepmcgaa
