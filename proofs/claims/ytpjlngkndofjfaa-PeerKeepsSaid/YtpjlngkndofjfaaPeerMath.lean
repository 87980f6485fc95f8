/-
  Peers in plain lists: what is wrong with one; what is found, kept, dropped.
-/
import Derived.Test.YtpjlngkndofjfaaBookMath
import Derived.Test.YtpjlngkndofjfaaPeer0
namespace Go.Proofs.Ytpjlngkndofjfaa

/-- The plan of a version; one that is none where there is no such version. -/
def planAt (b : List Ver) (k : Int) : Int × Int × Int := ((b[k.toNat]?).map (·.2)).getD (0, 0, 0)
def shareV (b : List Ver) (x : Kp) : Int := oneV (planAt b x.1).1 (planAt b x.1).2.1 (planAt b x.1).2.2 x.2.1 x.2.2
/-- What is wrong with what is kept, the last version before it being given. -/
def keptsV (b : List Ver) : Int → List Kp → Int
  | _, [] => 0
  | last, x :: r => if x.1 < 0 ∨ (b.length : Int) ≤ x.1 then 4 else if x.1 ≤ last then 5 else if shareV b x ≠ 0 then shareV b x else keptsV b x.1 r
/-- What Check of a peer answers. -/
def peerV (b : List Ver) (p : Pr) : Int := if bookV b ≠ 0 then bookV b else if p.2.1 < 0 ∨ 20 < p.2.1 then 2 else if p.2.1 < (p.2.2.length : Int) then 8 else keptsV b (-1) p.2.2
theorem keptsV_ok (b : List Ver) : ∀ (l : List Kp) (last : Int), keptsV b last l = 0 ↔ (∀ x ∈ l, last < x.1 ∧ 0 ≤ x.1 ∧ x.1 < b.length ∧ shareV b x = 0) ∧ l.Pairwise (fun x y => x.1 < y.1)
  | [], last => by simp [keptsV]
  | x :: r, last => by
    unfold keptsV
    by_cases h1 : x.1 < 0 ∨ (b.length : Int) ≤ x.1
    · rw [if_pos h1]
      constructor
      · intro e; simp at e
      · rintro ⟨h2, _⟩
        have := h2 x (by simp)
        omega
    · rw [if_neg h1]
      by_cases h2 : x.1 ≤ last
      · rw [if_pos h2]
        constructor
        · intro e; simp at e
        · rintro ⟨h3, _⟩
          have := h3 x (by simp)
          omega
      · rw [if_neg h2]
        by_cases h3 : shareV b x = 0
        · rw [if_neg (by simpa using h3), keptsV_ok b r x.1, List.pairwise_cons]
          constructor
          · rintro ⟨h4, h5⟩
            refine ⟨fun y hy => ?_, fun y hy => (h4 y hy).1, h5⟩
            rcases List.mem_cons.1 hy with rfl | hy
            · exact ⟨by omega, by omega, by omega, h3⟩
            · have := h4 y hy
              exact ⟨by omega, this.2⟩
          · rintro ⟨h4, h5, h6⟩
            exact ⟨fun y hy => ⟨h5 y hy, (h4 y (by simp [hy])).2⟩, h6⟩
        · rw [if_pos h3]
          constructor
          · intro e; exact absurd e h3
          · rintro ⟨h4, _⟩
            exact absurd (h4 x (by simp)).2.2.2 h3
/-- What a right peer is. -/
structure PeerOk (b : List Ver) (p : Pr) : Prop where
  book : bookV b = 0
  room : 0 ≤ p.2.1 ∧ p.2.1 ≤ 20
  few : (p.2.2.length : Int) ≤ p.2.1
  each : ∀ x ∈ p.2.2, 0 ≤ x.1 ∧ x.1 < b.length ∧ shareV b x = 0
  rise : p.2.2.Pairwise (fun x y => x.1 < y.1)
theorem peerV_ok {b : List Ver} {p : Pr} : peerV b p = 0 ↔ PeerOk b p := by
  unfold peerV
  by_cases h1 : bookV b = 0
  · rw [if_neg (by simpa using h1)]
    by_cases h2 : p.2.1 < 0 ∨ 20 < p.2.1
    · rw [if_pos h2]
      exact ⟨fun e => by simp at e, fun h => by have := h.room; omega⟩
    · rw [if_neg h2]
      by_cases h3 : p.2.1 < (p.2.2.length : Int)
      · rw [if_pos h3]
        exact ⟨fun e => by simp at e, fun h => by have := h.few; omega⟩
      · rw [if_neg h3, keptsV_ok]
        exact ⟨fun h => ⟨h1, by omega, by omega, fun x hx => ⟨(h.1 x hx).2.1, (h.1 x hx).2.2⟩, h.2⟩, fun h => ⟨fun x hx => ⟨by have := h.each x hx; omega, h.each x hx⟩, h.rise⟩⟩
  · rw [if_pos h1]
    exact ⟨fun e => absurd e h1, fun h => absurd h.book h1⟩

/-- The place at which something of a version is kept; -1: nowhere. -/
def findV (v : Int) : List Kp → Nat → Int
  | [], _ => -1
  | x :: r, k => if x.1 = v then (k : Int) else findV v r (k + 1)
theorem findV_none (v : Int) : ∀ (l : List Kp) (k : Nat), (∀ x ∈ l, x.1 ≠ v) → findV v l k = -1
  | [], _, _ => rfl
  | x :: r, k, h => by unfold findV; rw [if_neg (h x (by simp))]; exact findV_none v r (k + 1) (fun y hy => h y (by simp [hy]))
theorem findV_some (v : Int) : ∀ (l : List Kp) (k m : Nat) (x : Kp), l[m]? = some x → x.1 = v → (∀ j y, j < m → l[j]? = some y → y.1 ≠ v) → findV v l k = ((k + m : Nat) : Int)
  | [], _, _, _, h, _, _ => by simp at h
  | y :: r, k, 0, x, h, hx, _ => by simp at h; subst h; unfold findV; rw [if_pos hx]; simp
  | y :: r, k, m + 1, x, h, hx, hn => by
    unfold findV
    rw [if_neg (hn 0 y (by omega) rfl), findV_some v r (k + 1) m x (by simpa using h) hx (fun j z hj hz => hn (j + 1) z (by omega) (by simpa using hz))]
    omega
theorem findV_neg {v : Int} : ∀ {l : List Kp} {k : Nat}, findV v l k < 0 ↔ ∀ x ∈ l, x.1 ≠ v
  | [], _ => by simp [findV]
  | x :: r, k => by
    unfold findV
    by_cases h : x.1 = v
    · rw [if_pos h]
      exact ⟨fun h2 => by omega, fun h2 => absurd h (h2 x (by simp))⟩
    · rw [if_neg h, findV_neg (l := r) (k := k + 1)]
      exact ⟨fun h2 y hy => by rcases List.mem_cons.1 hy with rfl | hy; exact h; exact h2 y hy, fun h2 y hy => h2 y (by simp [hy])⟩
/-- What is left without a version. -/
def dropK (v : Int) (l : List Kp) : List Kp := l.filter fun x => decide (x.1 ≠ v)
/-- One more, in its place. -/
def keepK (x : Kp) : List Kp → List Kp
  | [] => [x]
  | y :: r => if y.1 < x.1 then y :: keepK x r else x :: y :: r
theorem mem_keepK {x y : Kp} : ∀ {l : List Kp}, y ∈ keepK x l ↔ y = x ∨ y ∈ l
  | [] => by simp [keepK]
  | z :: r => by
    unfold keepK
    by_cases h : z.1 < x.1
    · rw [if_pos h, List.mem_cons, mem_keepK (l := r), List.mem_cons]
      constructor
      · rintro (h | h | h)
        · exact Or.inr (Or.inl h)
        · exact Or.inl h
        · exact Or.inr (Or.inr h)
      · rintro (h | h | h)
        · exact Or.inr (Or.inl h)
        · exact Or.inl h
        · exact Or.inr (Or.inr h)
    · rw [if_neg h, List.mem_cons]
theorem keepK_len (x : Kp) : ∀ l : List Kp, (keepK x l).length = l.length + 1
  | [] => rfl
  | y :: r => by unfold keepK; split <;> simp [keepK_len x r]
theorem keepK_rise {x : Kp} : ∀ {l : List Kp}, l.Pairwise (fun a c => a.1 < c.1) → (∀ y ∈ l, y.1 ≠ x.1) → (keepK x l).Pairwise (fun a c => a.1 < c.1)
  | [], _, _ => by simp [keepK]
  | z :: r, hp, hn => by
    have hp' := List.pairwise_cons.1 hp
    unfold keepK
    by_cases h : z.1 < x.1
    · rw [if_pos h, List.pairwise_cons]
      refine ⟨fun y hy => ?_, keepK_rise hp'.2 (fun y hy => hn y (by simp [hy]))⟩
      rcases mem_keepK.1 hy with rfl | hy
      · exact h
      · exact hp'.1 y hy
    · have hzx : x.1 < z.1 := by have := hn z (by simp); omega
      rw [if_neg h, List.pairwise_cons]
      refine ⟨fun y hy => ?_, hp⟩
      rcases List.mem_cons.1 hy with rfl | hy
      · exact hzx
      · have := hp'.1 y hy; omega
/-- Dropped again it is as it was. -/
theorem dropK_keepK {x : Kp} : ∀ {l : List Kp}, (∀ y ∈ l, y.1 ≠ x.1) → dropK x.1 (keepK x l) = l
  | [], _ => by simp [keepK, dropK]
  | z :: r, hn => by
    have hz := hn z (by simp)
    have hr : dropK x.1 r = r := by unfold dropK; rw [List.filter_eq_self]; intro y hy; simpa using hn y (by simp [hy])
    unfold keepK
    by_cases h : z.1 < x.1
    · rw [if_pos h]
      have ih := dropK_keepK (x := x) (l := r) (fun y hy => hn y (by simp [hy]))
      unfold dropK at ih ⊢
      rw [List.filter_cons, if_pos (by simpa using hz), ih]
    · rw [if_neg h]
      unfold dropK at hr ⊢
      rw [List.filter_cons, if_neg (by simp), List.filter_cons, if_pos (by simpa using hz), hr]
theorem dropK_none {v : Int} {l : List Kp} (h : ∀ y ∈ l, y.1 ≠ v) : dropK v l = l := by unfold dropK; rw [List.filter_eq_self]; intro y hy; simpa using h y hy

end Go.Proofs.Ytpjlngkndofjfaa
