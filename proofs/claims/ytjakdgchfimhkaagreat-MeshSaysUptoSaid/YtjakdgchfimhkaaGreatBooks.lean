/-
  Books in plain lists: what is wrong with one, what is behind a version, its heads, what two versions have in common.
  The plain laws of what versions have in common, and of books that grow.
  The walks of a book's check, and the reference's.
  The walk of the reference's check of a book.
  The walk of the closed facts' family.
  From what a book and a version read as, to this proof's words.
-/
import Derived.Test.YtjakdgchfimhkaaGreatCurves
import Derived.Test.YtjakdgchfimhkaaGreatRowAll
import Derived.Test.YtjakdgchfimhkaaGreatBase
namespace Go.Proofs.YtjakdgchfimhkaaGreat

/-- A version: its parents, its plan. -/
abbrev Ver := List Int × Int × Int × Int

/-- What is wrong with the parents of version k, the last one before them being given. -/
def parsV (k : Int) : Int → List Int → Int
  | _, [] => 0
  | last, p :: r => if p < 0 ∨ k ≤ p then 4 else if p ≤ last then 5 else parsV k p r
/-- What is wrong with one version. -/
def verV (k : Int) (v : Ver) : Int := if parsV k (-1) v.1 ≠ 0 then parsV k (-1) v.1 else planV v.2.1 v.2.2.1 v.2.2.2
def versV : Nat → List Ver → Int
  | _, [] => 0
  | k, v :: r => if verV k v ≠ 0 then verV k v else versV (k + 1) r
/-- What Check of a book answers. -/
def bookV (b : List Ver) : Int := if 12 < (b.length : Int) then 1 else versV 0 b

theorem parsV_ok (k : Int) : ∀ (l : List Int) (last : Int), -1 ≤ last → (parsV k last l = 0 ↔ (∀ p ∈ l, last < p ∧ 0 ≤ p ∧ p < k) ∧ l.Pairwise (· < ·))
  | [], last, _ => by simp [parsV]
  | p :: r, last, h => by
    unfold parsV
    by_cases h1 : p < 0 ∨ k ≤ p
    · rw [if_pos h1]
      constructor
      · intro e; simp at e
      · rintro ⟨h2, _⟩
        have := h2 p (by simp)
        omega
    · rw [if_neg h1]
      by_cases h2 : p ≤ last
      · rw [if_pos h2]
        constructor
        · intro e; simp at e
        · rintro ⟨h3, _⟩
          have := h3 p (by simp)
          omega
      · rw [if_neg h2, parsV_ok k r p (by omega), List.pairwise_cons]
        constructor
        · rintro ⟨h3, h4⟩
          refine ⟨?_, fun q hq => (h3 q hq).1, h4⟩
          intro q hq
          rcases List.mem_cons.1 hq with rfl | hq
          · omega
          · have := h3 q hq; omega
        · rintro ⟨h3, h4, h5⟩
          refine ⟨fun q hq => ?_, h5⟩
          have a := h3 q (by simp [hq])
          have b := h4 q hq
          omega

/-- What a right book is. -/
structure BookOk (b : List Ver) : Prop where
  top : b.length ≤ 12
  par : ∀ (k : Nat) v, b[k]? = some v → (∀ p ∈ v.1, 0 ≤ p ∧ p < (k : Int)) ∧ v.1.Pairwise (· < ·)
  plan : ∀ (k : Nat) v, b[k]? = some v → planV v.2.1 v.2.2.1 v.2.2.2 = 0

theorem verV_ok {k : Int} {v : Ver} : verV k v = 0 ↔ ((∀ p ∈ v.1, 0 ≤ p ∧ p < k) ∧ v.1.Pairwise (· < ·)) ∧ planV v.2.1 v.2.2.1 v.2.2.2 = 0 := by
  have h := parsV_ok k v.1 (-1) (by omega)
  unfold verV
  split
  · rename_i h1
    constructor
    · intro e; exact absurd e h1
    · rintro ⟨⟨h2, h3⟩, _⟩
      exact absurd (h.2 ⟨fun p hp => by have := h2 p hp; omega, h3⟩) h1
  · rename_i h1
    have h1 : parsV k (-1) v.1 = 0 := Classical.byContradiction h1
    have h2 := h.1 h1
    constructor
    · intro e; exact ⟨⟨fun p hp => (h2.1 p hp).2, h2.2⟩, e⟩
    · rintro ⟨_, e⟩; exact e
theorem versV_ok : ∀ (vs : List Ver) (k : Nat), versV k vs = 0 ↔ ∀ (i : Nat) v, vs[i]? = some v → verV ((k + i : Nat) : Int) v = 0
  | [], k => by simp [versV]
  | v :: r, k => by
    unfold versV
    by_cases h : verV k v = 0
    · rw [if_neg (by simpa using h), versV_ok r (k + 1)]
      constructor
      · intro hh i u hu
        match i, hu with
        | 0, hu => simp at hu; subst hu; simpa using h
        | i + 1, hu =>
          have := hh i u (by simpa using hu)
          rw [show k + (i + 1) = k + 1 + i by omega]
          exact this
      · intro hh i u hu
        have := hh (i + 1) u (by simpa using hu)
        rw [show k + (i + 1) = k + 1 + i by omega] at this
        exact this
    · rw [if_pos h]
      constructor
      · intro e; exact absurd e h
      · intro hh
        have := hh 0 v (by simp)
        simp at this
        exact absurd this h
theorem bookV_ok {b : List Ver} : bookV b = 0 ↔ BookOk b := by
  unfold bookV
  by_cases h : 12 < (b.length : Int)
  · rw [if_pos h]
    constructor
    · intro e; simp at e
    · intro hb; have := hb.top; omega
  · rw [if_neg h, versV_ok]
    constructor
    · intro hh
      refine ⟨by omega, fun k v hv => ?_, fun k v hv => ?_⟩
      · have := verV_ok.1 (hh k v hv)
        simpa using this.1
      · exact (verV_ok.1 (hh k v hv)).2
    · intro hb i v hv
      exact verV_ok.2 ⟨by simpa using hb.par i v hv, hb.plan i v hv⟩

/-- The parents of version k. -/
def pars (b : List Ver) (k : Nat) : List Int := ((b[k]?).map (·.1)).getD []
/-- Does version k come from another one? (With so many steps.) -/
def fromF (b : List Ver) : Nat → Int → Int → Bool
  | 0, k, old => decide (k = old)
  | f + 1, k, old => decide (k = old) || (pars b k.toNat).any (fun p => fromF b f p old)
def fromV (b : List Ver) (k old : Int) : Bool := fromF b 12 k old

section
variable {b : List Ver}
theorem BookOk.pars (h : BookOk b) (k : Nat) : (∀ p ∈ pars b k, 0 ≤ p ∧ p < (k : Int)) ∧ (Go.Proofs.YtjakdgchfimhkaaGreat.pars b k).Pairwise (· < ·) := by
  unfold Go.Proofs.YtjakdgchfimhkaaGreat.pars
  cases hv : b[k]? with
  | none => simp
  | some v => simpa using h.par k v hv
theorem fromF_stable (h : BookOk b) (old : Int) : ∀ (f g : Nat) (k : Int), 0 ≤ k → k ≤ f → k ≤ g → fromF b f k old = fromF b g k old
  | 0, 0, _, _, _, _ => rfl
  | 0, g + 1, k, h0, h1, _ => by
    have : k = 0 := by omega
    subst this
    have hp : pars b 0 = [] := by
      cases hl : pars b 0 with
      | nil => rfl
      | cons p r =>
        have := (h.pars 0).1 p (by rw [hl]; simp)
        omega
    simp [fromF, hp]
  | f + 1, 0, k, h0, _, h1 => by
    have : k = 0 := by omega
    subst this
    have hp : pars b 0 = [] := by
      cases hl : pars b 0 with
      | nil => rfl
      | cons p r =>
        have := (h.pars 0).1 p (by rw [hl]; simp)
        omega
    simp [fromF, hp]
  | f + 1, g + 1, k, h0, h1, h2 => by
    unfold fromF
    congr 1
    have hp := (h.pars k.toNat).1
    generalize pars b k.toNat = l at hp
    induction l with
    | nil => rfl
    | cons p r ih =>
      have hp0 := hp p (by simp)
      simp only [List.any_cons]
      rw [ih (fun q hq => hp q (by simp [hq])), fromF_stable h old f g p hp0.1 (by omega) (by omega)]
theorem fromV_step (h : BookOk b) {k : Int} (h0 : 0 ≤ k) (h1 : k ≤ 12) (old : Int) : fromV b k old = (decide (k = old) || (pars b k.toNat).any (fun p => fromV b p old)) := by
  unfold fromV
  rw [fromF_stable h old 12 13 k h0 (by omega) (by omega)]
  rfl
theorem fromV_iff (h : BookOk b) {k : Int} (h0 : 0 ≤ k) (h1 : k ≤ 12) {old : Int} : fromV b k old = true ↔ k = old ∨ ∃ p ∈ pars b k.toNat, fromV b p old = true := by
  rw [fromV_step h h0 h1]
  simp
theorem from_self (b : List Ver) (k : Int) : fromV b k k = true := by simp [fromV, fromF]

theorem from_le (h : BookOk b) : ∀ (n : Nat) {k old : Int}, k ≤ n → 0 ≤ k → k ≤ 12 → fromV b k old = true → 0 ≤ old ∧ old ≤ k
  | n, k, old, hn, h0, h1, hf => by
    rcases (fromV_iff h h0 h1).1 hf with rfl | ⟨p, hp, hf⟩
    · omega
    · have hb := (h.pars k.toNat).1 p hp
      match n with
      | 0 => omega
      | n + 1 =>
        have := from_le h n (k := p) (by omega) (by omega) (by omega) hf
        omega
theorem from_bd (h : BookOk b) {k old : Int} (h0 : 0 ≤ k) (h1 : k ≤ 12) (hf : fromV b k old = true) : 0 ≤ old ∧ old ≤ k := from_le h k.toNat (by omega) h0 h1 hf
theorem from_trans_n (h : BookOk b) {m o : Int} (hm : fromV b m o = true) : ∀ (n : Nat) {k : Int}, k ≤ n → 0 ≤ k → k ≤ 12 → fromV b k m = true → fromV b k o = true
  | n, k, hn, h0, h1, hf => by
    rcases (fromV_iff h h0 h1).1 hf with rfl | ⟨p, hp, hf⟩
    · exact hm
    · have hb := (h.pars k.toNat).1 p hp
      match n with
      | 0 => omega
      | n + 1 => exact (fromV_iff h h0 h1).2 (Or.inr ⟨p, hp, from_trans_n h hm n (by omega) (by omega) (by omega) hf⟩)
theorem from_trans (h : BookOk b) {k m o : Int} (h0 : 0 ≤ k) (h1 : k ≤ 12) (hk : fromV b k m = true) (hm : fromV b m o = true) : fromV b k o = true := from_trans_n h hm k.toNat (by omega) h0 h1 hk
/-- A parent of what it comes from it comes from too. -/
theorem from_par (h : BookOk b) {k m o : Int} (h0 : 0 ≤ k) (h1 : k ≤ 12) (hk : fromV b k m = true) (ho : o ∈ pars b m.toNat) : fromV b k o = true := by
  have hb := from_bd h h0 h1 hk
  exact from_trans h h0 h1 hk ((fromV_iff h hb.1 (by omega)).2 (Or.inr ⟨o, ho, from_self _ _⟩))
theorem from_last_n (h : BookOk b) {o : Int} : ∀ (n : Nat) {k : Int}, k ≤ n → 0 ≤ k → k ≤ 12 → fromV b k o = true → k ≠ o → ∃ m, fromV b k m = true ∧ o ∈ pars b m.toNat
  | n, k, hn, h0, h1, hf, hne => by
    rcases (fromV_iff h h0 h1).1 hf with rfl | ⟨p, hp, hf⟩
    · exact absurd rfl hne
    · have hb := (h.pars k.toNat).1 p hp
      by_cases hpo : p = o
      · subst hpo
        exact ⟨k, from_self _ _, hp⟩
      · match n with
        | 0 => omega
        | n + 1 =>
          obtain ⟨m, hm, ho⟩ := from_last_n h n (k := p) (by omega) (by omega) (by omega) hf hpo
          exact ⟨m, (fromV_iff h h0 h1).2 (Or.inr ⟨p, hp, hm⟩), ho⟩
theorem from_iff_last (h : BookOk b) {k o : Int} (h0 : 0 ≤ k) (h1 : k ≤ 12) : fromV b k o = true ↔ o = k ∨ ∃ m, 0 ≤ m ∧ o < m ∧ m ≤ k ∧ fromV b k m = true ∧ o ∈ pars b m.toNat := by
  constructor
  · intro hf
    by_cases e : o = k
    · exact Or.inl e
    · obtain ⟨m, hm, ho⟩ := from_last_n h k.toNat (by omega) h0 h1 hf (fun e' => e e'.symm)
      have hb := from_bd h h0 h1 hm
      have hp := (h.pars m.toNat).1 o ho
      exact Or.inr ⟨m, hb.1, by omega, hb.2, hm, ho⟩
  · rintro (rfl | ⟨m, _, _, _, hm, ho⟩)
    · exact from_self _ _
    · exact from_par h h0 h1 hm ho

theorem range_sorted (n : Nat) : ((List.range n).map fun (j : Nat) => (j : Int)).Pairwise (· < ·) :=
  List.pairwise_map.2 (List.Pairwise.imp (fun hab => by omega) List.pairwise_lt_range)
end

/-- What is known on the way down: k, and the parents of those above i that it comes from. -/
def Known (b : List Ver) (k i : Int) (l : List Int) : Prop := ∀ z, z ∈ l ↔ z = k ∨ ∃ m, i < m ∧ m ≤ k ∧ fromV b k m = true ∧ z ∈ pars b m.toNat
theorem Known.from {b : List Ver} (h : BookOk b) {k i : Int} {l : List Int} (hk : Known b k i l) (h0 : 0 ≤ k) (h1 : k ≤ 12) : decide (i ∈ l) = fromV b k i := by
  rw [Bool.eq_iff_iff, decide_eq_true_eq, hk i, from_iff_last h h0 h1]
  constructor
  · rintro (e | ⟨m, a, c, d, f⟩)
    · exact Or.inl e
    · exact Or.inr ⟨m, by have := from_bd h h0 h1 d; omega, a, c, d, f⟩
  · rintro (e | ⟨m, _, a, c, d, f⟩)
    · exact Or.inl e
    · exact Or.inr ⟨m, a, c, d, f⟩
/-- Add: what is wrong, and the book behind it. -/
def addVE (b : List Ver) (v : Ver) : Int := if bookV b ≠ 0 then bookV b else if (b.length : Int) = 12 then 1 else bookV (b ++ [v])
/-- The book behind it; none where something is wrong. -/
def addC (b : List Ver) (v : Ver) : List Ver := if addVE b v = 0 then b ++ [v] else []
theorem addC_ok {b : List Ver} {v : Ver} (h : addVE b v = 0) : addC b v = b ++ [v] := by unfold addC; rw [if_pos h]
theorem addC_no {b : List Ver} {v : Ver} (h : addVE b v ≠ 0) : addC b v = [] := by unfold addC; rw [if_neg h]
theorem addVE_ref (b : List Ver) (v : Ver) : addVE b v = if bookV b ≠ 0 then bookV b else bookV (b ++ [v]) := by
  unfold addVE
  split
  · rfl
  · split
    · rename_i h
      unfold bookV
      rw [if_pos (by simp; omega)]
    · rfl
end Go.Proofs.YtjakdgchfimhkaaGreat

namespace Go.Proofs.YtjakdgchfimhkaaGreat
section
variable {b : List Ver}

/-! ### A book that grows -/
end
end Go.Proofs.YtjakdgchfimhkaaGreat

namespace Go.Proofs.YtjakdgchfimhkaaGreat
open Go.RowKit

/-- A version: a slice of parents, a plan. -/
def RVer : Rd Ver := fun w cs x => ∃ v, cs = [v, .int .i64 x.2.1, .int .i64 x.2.2.1, .int .i64 x.2.2.2] ∧ IsInts w v x.1 ∧ I64 x.2.1 ∧ I64 x.2.2.1 ∧ I64 x.2.2.2
theorem RVer.stays : RVer.Stays := by
  rintro w cs x ⟨v, rfl, h, i⟩ w' hw
  exact ⟨v, rfl, h.framed (fun _ _ _ => id) hw, i⟩
/-- The value is a slice of these versions. -/
abbrev IsVers (w : World) (v : Value) (b : List Ver) : Prop := IsRow 4 RVer w v b
theorem vers_at {w : World} {a : Option Addr} {n cap : Nat} {b : List Ver} (h : IsVers w (.slice a n cap) b) {i : Nat} {x : Ver} (hx : b[i]? = some x) :
    ∃ g off u c, a = some ⟨g, off, none⟩ ∧ w.cell? ⟨g, off + i * 4, none⟩ = some (.slice u x.1.length c) ∧ w.cell? ⟨g, off + i * 4 + 1, none⟩ = some (.int .i64 x.2.1) ∧ w.cell? ⟨g, off + i * 4 + 2, none⟩ = some (.int .i64 x.2.2.1) ∧ w.cell? ⟨g, off + i * 4 + 3, none⟩ = some (.int .i64 x.2.2.2) ∧ IsInts w (.slice u x.1.length c) x.1 ∧ I64 x.2.1 ∧ I64 x.2.2.1 ∧ I64 x.2.2.2 := by
  obtain ⟨g, off, rfl, cs, hl, hc, v, rfl, hv, h1, h2, h3⟩ := h.at hx
  obtain ⟨u, c, rfl, _⟩ := hv.opened
  exact ⟨g, off, u, c, rfl, hc 0 _ rfl, hc 1 _ rfl, hc 2 _ rfl, hc 3 _ rfl, hv, h1, h2, h3⟩

/-- Of the parents from place j on the last one before them. -/
def Last (l : List Int) (j : Nat) (last : Int) : Prop := (j = 0 ∧ last = -1) ∨ (0 < j ∧ l[j - 1]? = some last)
theorem Last.step {l : List Int} {j : Nat} {z : Int} (h : l[j]? = some z) : Last l (j + 1) z := Or.inr ⟨by omega, by simpa using h⟩

set_option maxHeartbeats 1000000 in
theorem parents_any (v : Value) (l : List Int) (k : Int) (w : World) (hv : IsInts w v l) :
    Calls Tryz.prog 103 #[v, .int .i64 k] w fun e w' => e = .returned (.int .i64 (parsV k (-1) l)) ∧ w = w' := by
  obtain ⟨a, c, rfl, hc, ⟨hm, hcm, _⟩, hi⟩ := hv.opened
  clear hv
  go_enter Tryz.func103, Tryz.ntmps103
  go_wp2
  go_loop [9] (fun i => ∃ j : Nat, ∃ last : Int, j ≤ l.length ∧ i = .int .i64 j ∧ Last l j last ∧ parsV k last (l.drop j) = parsV k (-1) l) (fun i => l.length - (intOf i).toNat)
  case atStart => exact ⟨0, -1, by omega, rfl, Or.inl ⟨rfl, rfl⟩, rfl⟩
  case round =>
    obtain ⟨j, last, hj, rfl, hla, hq⟩ := hrel
    have HQ := Lib.hid hq
    have HL := Lib.hid hla
    clear hq hla
    by_cases hlt : j < l.length
    · obtain ⟨b1, o1, z1, rfl, hc1, hz1, hi1⟩ := hi j hlt
      have HZ := Lib.hid (drop_get hz1)
      have HG := Lib.hid hz1
      clear hz1
      by_cases h1 : z1 < 0 ∨ k ≤ z1
      · have HR := Lib.hid (show parsV k (-1) l = 4 by rw [← HQ.out, HZ.out]; unfold parsV; rw [if_pos h1])
        rcases h1 with h1 | h1
        · go_wp2
          go_ret
          exact ⟨ret_int HR.out.symm, rfl⟩
        · by_cases h0 : z1 < 0
          · go_wp2
            go_ret
            exact ⟨ret_int HR.out.symm, rfl⟩
          · go_wp2
            go_ret
            exact ⟨ret_int HR.out.symm, rfl⟩
      · have h0 : 0 ≤ z1 := by omega
        have h2 : z1 < k := by omega
        rcases HL.out with ⟨rfl, rfl⟩ | ⟨hp, hg⟩
        · have HR := Lib.hid (show parsV k z1 (l.drop (0 + 1)) = parsV k (-1) l by rw [← HQ.out, HZ.out]; simp only [parsV]; rw [if_neg h1, if_neg (by omega)])
          have hc0 : w.cell? ⟨b1, o1, none⟩ = some (.int .i64 z1) := hc1
          clear h1 hc1
          go_wp2
          go_round
          case rel => exact ⟨1, z1, by omega, by go_num, Last.step HG.out, HR.out⟩
          case measure => simp [intOf]; omega
        · obtain ⟨b2, o2, z2, e2, hc2, hz2, hi2⟩ := hi (j - 1) (by omega)
          cases e2
          have e3 : z2 = last := by rw [hz2] at hg; exact Option.some.inj hg
          subst e3
          clear hz2 hg HL
          have hj1 : (0 : Int) < (j : Int) := by omega
          have hc3 : w.cell? ⟨b1, o1 + (j - 1), none⟩ = some (.int .i64 z2) := hc2
          by_cases h3 : z1 ≤ z2
          · have HR := Lib.hid (show parsV k (-1) l = 5 by rw [← HQ.out, HZ.out]; simp only [parsV]; rw [if_neg h1, if_pos h3])
            clear h1
            go_wp2
            go_ret
            exact ⟨ret_int HR.out.symm, rfl⟩
          · have HR := Lib.hid (show parsV k z1 (l.drop (j + 1)) = parsV k (-1) l by rw [← HQ.out, HZ.out]; simp only [parsV]; rw [if_neg h1, if_neg h3])
            clear h1
            go_wp2
            go_round
            case rel => exact ⟨j + 1, z1, by omega, by go_num, Last.step HG.out, HR.out⟩
            case measure => simp [intOf]; omega
    · obtain rfl : l.length = j := by omega
      go_wp2
      go_ret
      refine ⟨ret_int ?_, rfl⟩
      rw [← HQ.out, List.drop_length]
      rfl

set_option maxRecDepth 100000 in
set_option maxHeartbeats 2000000 in
theorem bookCheck_any (v : Value) (b : List Ver) (W : World) (hv : IsVers W v b) :
    Calls Tryz.prog 64 #[.agg #[v]] W fun e w' => e = .returned (.int .i64 (bookV b)) ∧ Below W.heap.size W w' := by
  obtain ⟨a, c, rfl, hc, ⟨hm, hcm, _⟩, _⟩ := hv.opened
  have S0 := (Since.refl W).alloc (.cells #[.slice a b.length c] 24)
  have hv0 := hv.stays RVer.stays (below_alloc _ (.cells #[.slice a b.length c] 24))
  have c0 : (W.alloc (.cells #[.slice a b.length c] 24)).cell? ⟨W.heap.size, 0, none⟩ = some (.slice a b.length c) := by go_simp
  clear hv
  by_cases h12 : 12 < b.length
  · have H := Lib.hid (show bookV b = 1 by unfold bookV; rw [if_pos (by omega)])
    clear c0
    go_enter Tryz.func64, Tryz.ntmps64
    go_wp2_with fail
    go_ret
    exact ⟨ret_int H.out.symm, S0.below⟩
  · have H := Lib.hid (show bookV b = versV 0 b by unfold bookV; rw [if_neg (by omega)])
    have h12' : b.length ≤ 12 := by omega
    clear c0 h12
    go_enter Tryz.func64, Tryz.ntmps64
    go_wp2_with fail
    go_loopw [14] (fun i wr => ∃ k : Nat, k ≤ b.length ∧ i = .int .i64 k ∧ Since W.heap.size W wr ∧ IsVers wr (.slice a b.length c) b ∧ versV k (b.drop k) = versV 0 b) (fun i _ => b.length - (intOf i).toNat)
    case atStart => exact ⟨0, by omega, rfl, S0, hv0, rfl⟩
    case round =>
      obtain ⟨k, hk, rfl, hS, hvr, hq⟩ := hrel
      have HQ := Lib.hid hq
      clear hq
      by_cases hlt : k < b.length
      · obtain ⟨g, off, u, cu, rfl, k0, k1, k2, k3, hp, i1, i2, i3⟩ := vers_at hvr (List.getElem?_eq_getElem hlt)
        have HD := Lib.hid (List.drop_eq_getElem_cons hlt)
        generalize b[k] = x at *
        have B1 := below_alloc wr (.cells #[.slice u x.1.length cu, .int .i64 x.2.1, .int .i64 x.2.2.1, .int .i64 x.2.2.2] 49)
        have S1 := hS.alloc (.cells #[.slice u x.1.length cu, .int .i64 x.2.1, .int .i64 x.2.2.1, .int .i64 x.2.2.2] 49)
        have hp1 := hp.stays B1
        have hv1 := hvr.stays RVer.stays B1
        go_wp2_with fail
        refine (parents_any _ x.1 _ _ hp1).mono ?_
        rintro e w' ⟨rfl, rfl⟩
        by_cases hpz : parsV k (-1) x.1 = 0
        · have HP := Lib.hid hpz
          rw [hpz]
          clear hpz
          go_wp2_with fail
          refine (planCheck_any _ _ _ _).mono ?_
          rintro e w2 ⟨rfl, hb2⟩
          have S2 := S1.step hb2
          have hv2 := hv1.stays RVer.stays hb2
          by_cases hpl : planV x.2.1 x.2.2.1 x.2.2.2 = 0
          · have HV := Lib.hid (show versV (k + 1) (b.drop (k + 1)) = versV 0 b by rw [← HQ.out, HD.out]; simp only [versV]; rw [if_neg]; unfold verV; rw [if_neg (by simpa using HP.out)]; simpa using hpl)
            rw [hpl]
            clear hpl k0 k1 k2 k3 hp hp1
            go_wp2_with fail
            go_roundw
            case rel => exact ⟨k + 1, by omega, by go_num, S2, hv2, HV.out⟩
            case measure => simp [intOf]; omega
          · have HV := Lib.hid (show versV 0 b = planV x.2.1 x.2.2.1 x.2.2.2 by rw [← HQ.out, HD.out]; have hve : verV k x = planV x.2.1 x.2.2.1 x.2.2.2 := (by unfold verV; rw [if_neg (by simpa using HP.out)]); simp only [versV]; rw [if_pos (by rw [hve]; exact hpl), hve])
            have hne : (planV x.2.1 x.2.2.1 x.2.2.2 != 0) = true := by simpa using hpl
            clear hpl k0 k1 k2 k3 hp hp1
            go_wp2_with fail
            go_ret
            exact ⟨ret_int (by rw [H.out, HV.out]), S2.below⟩
        · have HV := Lib.hid (show versV 0 b = parsV k (-1) x.1 by rw [← HQ.out, HD.out]; have hve : verV k x = parsV k (-1) x.1 := (by unfold verV; rw [if_pos (by simpa using hpz)]); simp only [versV]; rw [if_pos (by rw [hve]; exact hpz), hve])
          have hne : (parsV k (-1) x.1 != 0) = true := by simpa using hpz
          clear hpz k0 k1 k2 k3 hp hp1
          go_wp2_with fail
          go_ret
          exact ⟨ret_int (by rw [H.out, HV.out]), S1.below⟩
      · obtain rfl : b.length = k := by omega
        go_wp2_with fail
        go_ret
        refine ⟨ret_int ?_, hS.below⟩
        rw [H.out, ← HQ.out, List.drop_length]
        rfl

end Go.Proofs.YtjakdgchfimhkaaGreat

namespace Go.Proofs.YtjakdgchfimhkaaGreat
open Go.RowKit

set_option maxRecDepth 100000 in
set_option maxHeartbeats 2000000 in
theorem CheckBook_any (v : Value) (b : List Ver) (W : World) (hv : IsVers W v b) :
    Calls Tryz.prog 77 #[.agg #[v]] W fun e w' => e = .returned (.int .i64 (bookV b)) ∧ Below W.heap.size W w' := by
  obtain ⟨a, c, rfl, hc, ⟨hm, hcm, _⟩, _⟩ := hv.opened
  have S0 := (Since.refl W).alloc (.cells #[.slice a b.length c] 24)
  have hv0 := hv.stays RVer.stays (below_alloc _ (.cells #[.slice a b.length c] 24))
  have c0 : (W.alloc (.cells #[.slice a b.length c] 24)).cell? ⟨W.heap.size, 0, none⟩ = some (.slice a b.length c) := by go_simp
  clear hv
  by_cases h12 : 12 < b.length
  · have H := Lib.hid (show bookV b = 1 by unfold bookV; rw [if_pos (by omega)])
    clear c0
    go_enter Tryz.func77, Tryz.ntmps77
    go_wp2_with fail
    go_ret
    exact ⟨ret_int H.out.symm, S0.below⟩
  · have H := Lib.hid (show bookV b = versV 0 b by unfold bookV; rw [if_neg (by omega)])
    have h12' : b.length ≤ 12 := by omega
    clear c0 h12
    go_enter Tryz.func77, Tryz.ntmps77
    go_wp2_with fail
    go_loopw [16] (fun i wr => ∃ k : Nat, k ≤ b.length ∧ i = .int .i64 k ∧ Since W.heap.size W wr ∧ IsVers wr (.slice a b.length c) b ∧ versV k (b.drop k) = versV 0 b) (fun i _ => b.length - (intOf i).toNat)
    case atStart => exact ⟨0, by omega, rfl, S0, hv0, rfl⟩
    case round =>
      obtain ⟨k, hk, rfl, hS, hvr, hq⟩ := hrel
      obtain ⟨wo, hwo⟩ : ∃ wo : World, wo = wr := ⟨_, rfl⟩
      rw [← hwo] at hS hvr ⊢
      clear hwo
      have HQ := Lib.hid hq
      clear hq
      by_cases hlt : k < b.length
      · obtain ⟨g, off, u, cu, rfl, k0, k1, k2, k3, hp, i1, i2, i3⟩ := vers_at hvr (List.getElem?_eq_getElem hlt)
        have HD := Lib.hid (List.drop_eq_getElem_cons hlt)
        generalize b[k] = x at *
        have B1 := below_alloc wo (.cells #[.slice u x.1.length cu, .int .i64 x.2.1, .int .i64 x.2.2.1, .int .i64 x.2.2.2] 49)
        have S1 := hS.alloc (.cells #[.slice u x.1.length cu, .int .i64 x.2.1, .int .i64 x.2.2.1, .int .i64 x.2.2.2] 49)
        have hp1 := hp.stays B1
        have hv1 := hvr.stays RVer.stays B1
        obtain ⟨_, _, e5, _, ⟨hpm, hpcm, _⟩, hpi⟩ := hp1.opened
        simp only [Value.slice.injEq, true_and] at e5
        obtain ⟨rfl, rfl⟩ := e5
        go_wp2_with fail
        go_loop [24, 5] (fun i z => ∃ j : Nat, ∃ last : Int, j ≤ x.1.length ∧ i = .int .i64 j ∧ z = .int .i64 last ∧ I64 last ∧ parsV k last (x.1.drop j) = parsV k (-1) x.1) (fun i _ => x.1.length - (intOf i).toNat)
        case atStart => exact ⟨0, -1, by omega, rfl, rfl, ⟨by omega, by omega⟩, rfl⟩
        case round =>
          obtain ⟨j, last, hj, rfl, rfl, ⟨il0, il1⟩, hq2⟩ := hrel
          have HR := Lib.hid hq2
          clear hq2
          by_cases hlt2 : j < x.1.length
          · obtain ⟨b1, o1, z1, rfl, hc1, hz1, hi1⟩ := hpi j hlt2
            have HZ := Lib.hid (drop_get hz1)
            clear hz1
            by_cases h1 : z1 < 0 ∨ k ≤ z1
            · have HV := Lib.hid (show versV 0 b = 4 by
                have e1 : parsV k (-1) x.1 = 4 := by rw [← HR.out, HZ.out]; unfold parsV; rw [if_pos h1]
                have e2 : verV k x = 4 := by unfold verV; rw [e1, if_pos (by omega)]
                rw [← HQ.out, HD.out]; simp only [versV]; rw [e2, if_pos (by omega)])
              rcases h1 with h1 | h1
              · go_wp2_with fail
                go_ret
                exact ⟨ret_int (by rw [H.out, HV.out]), S1.below⟩
              · by_cases h0 : z1 < 0
                · go_wp2_with fail
                  go_ret
                  exact ⟨ret_int (by rw [H.out, HV.out]), S1.below⟩
                · go_wp2_with fail
                  go_ret
                  exact ⟨ret_int (by rw [H.out, HV.out]), S1.below⟩
            · have h0 : 0 ≤ z1 := by omega
              have h2 : z1 < k := by omega
              by_cases h3 : z1 ≤ last
              · have HV := Lib.hid (show versV 0 b = 5 by
                  have e1 : parsV k (-1) x.1 = 5 := by rw [← HR.out, HZ.out]; simp only [parsV]; rw [if_neg h1, if_pos h3]
                  have e2 : verV k x = 5 := by unfold verV; rw [e1, if_pos (by omega)]
                  rw [← HQ.out, HD.out]; simp only [versV]; rw [e2, if_pos (by omega)])
                clear h1
                go_wp2_with fail
                go_ret
                exact ⟨ret_int (by rw [H.out, HV.out]), S1.below⟩
              · have HE := Lib.hid (show parsV k z1 (x.1.drop (j + 1)) = parsV k (-1) x.1 by rw [← HR.out, HZ.out]; simp only [parsV]; rw [if_neg h1, if_neg h3])
                clear h1
                go_wp2_with fail
                go_round
                case rel => exact ⟨j + 1, z1, by omega, by go_num, rfl, hi1, HE.out⟩
                case measure => simp [intOf]; omega
          · obtain rfl : x.1.length = j := by omega
            have HP := Lib.hid (show parsV k (-1) x.1 = 0 by rw [← HR.out, List.drop_length]; rfl)
            clear hpi
            go_wp2_with fail
            refine (CheckPlan_any _ _ _ _).mono ?_
            rintro e w2 ⟨rfl, hb2⟩
            have S2 := S1.step hb2
            have hv2 := hv1.stays RVer.stays hb2
            by_cases hpl : planV x.2.1 x.2.2.1 x.2.2.2 = 0
            · have HV := Lib.hid (show versV (k + 1) (b.drop (k + 1)) = versV 0 b by rw [← HQ.out, HD.out]; simp only [versV]; rw [if_neg]; unfold verV; rw [if_neg (by simpa using HP.out)]; simpa using hpl)
              rw [hpl]
              clear hpl k0 k1 k2 k3 hp hp1
              go_wp2_with fail
              go_roundw
              case rel => exact ⟨k + 1, by omega, by go_num, S2, hv2, HV.out⟩
              case measure => simp [intOf]; omega
            · have HV := Lib.hid (show versV 0 b = planV x.2.1 x.2.2.1 x.2.2.2 by rw [← HQ.out, HD.out]; have hve : verV k x = planV x.2.1 x.2.2.1 x.2.2.2 := (by unfold verV; rw [if_neg (by simpa using HP.out)]); simp only [versV]; rw [if_pos (by rw [hve]; exact hpl), hve])
              have hne : (planV x.2.1 x.2.2.1 x.2.2.2 != 0) = true := by simpa using hpl
              clear hpl k0 k1 k2 k3 hp hp1
              go_wp2_with fail
              go_ret
              exact ⟨ret_int (by rw [H.out, HV.out]), S2.below⟩
      · obtain rfl : b.length = k := by omega
        go_wp2_with fail
        go_ret
        refine ⟨ret_int ?_, hS.below⟩
        rw [H.out, ← HQ.out, List.drop_length]
        rfl

end Go.Proofs.YtjakdgchfimhkaaGreat

namespace Go.Proofs.YtjakdgchfimhkaaGreat
open Go.RowKit

theorem IsInts.one {w : World} {b : Nat} {z : Int} (h : w.cell? ⟨b, 0, none⟩ = some (.int .i64 z)) (hi : I64 z) : IsInts w (.slice (some ⟨b, 0, none⟩) 1 1) [z] := by
  refine ⟨_, 1, rfl, Nat.le_refl _, ⟨by simp, by omega, fun e => by cases e⟩, fun i hi' => ?_⟩
  have : i = 0 := by simp at hi'; exact hi'
  subst this
  exact ⟨b, 0, z, rfl, h, rfl, hi⟩
end Go.Proofs.YtjakdgchfimhkaaGreat

namespace Go.Proofs.YtjakdgchfimhkaaGreat
open Go.ChangeShapes Go.WideShapes Go.ChangeAt Go.RowKit Go.Deep
section
variable {H : Type} {enc : TypeId × Value → H} {W : World} {base : Nat} {v : Value} {d : DataW H} {ps : List MemPlace}
theorem cells_vers : Tryz.prog.cellsOf 22 = 1 := by kernel_rfl
theorem cells_ver : Tryz.prog.cellsOf 49 = 4 := by kernel_rfl
theorem cells_book : Tryz.prog.cellsOf 24 = 1 := by kernel_rfl
set_option maxRecDepth 100000 in
theorem reads_ver : Reads enc W 49 RVer := by
  intro n cs x h hz
  obtain ⟨y0, y1, k, rfl, hl, h0, h1⟩ := trod_struct2 Tryz.underlying49 h
  rw [cells_ver] at hl
  simp only [cells_plan, cells_ints] at h0 h1
  match cs, hl with
  | [c0, c1, c2, c3], _ =>
    simp only [List.drop_zero, List.drop_succ_cons, List.take_succ_cons, List.take_zero] at h0 h1
    simp only [DataW.weights, Tryz.underlying49, List.map_cons, List.map_nil, DataW.weightsEach, List.mem_append] at hz
    obtain ⟨z0, v0, e0, i0⟩ := reads_ints k _ _ h0 (fun m hm => hz m (by simp [hm]))
    obtain ⟨z1, e1, i1⟩ := reads_plan k _ _ h1 (fun m hm => hz m (by simp [hm]))
    simp only [List.cons.injEq, and_true] at e0 e1
    obtain ⟨rfl, rfl, rfl⟩ := e1
    subst e0
    exact ⟨(z0, z1), _, rfl, i0, i1⟩
set_option maxRecDepth 100000 in
theorem reads_vers : Reads enc W 22 (fun w cs l => ∃ v, cs = [v] ∧ IsVers w v l) :=
  reads_row Tryz.underlying22 cells_ver (by omega) (by rw [show Tryz.prog.bytesOf 49 = 48 by kernel_rfl]; omega) reads_ver
def RBook : Rd (List Ver) := fun w cs b => ∃ v, cs = [v] ∧ IsVers w v b
set_option maxRecDepth 100000 in
theorem reads_book : Reads enc W 24 RBook := by
  intro n cs x h hz
  obtain ⟨y0, k, rfl, hl, h0⟩ := trod_struct1 Tryz.underlying24 h
  rw [cells_book] at hl
  simp only [cells_vers] at h0
  match cs, hl with
  | [c0], _ =>
    simp only [List.drop_zero, List.take_succ_cons, List.take_zero] at h0
    simp only [DataW.weights, Tryz.underlying24, List.map_cons, List.map_nil, DataW.weightsEach, List.mem_append] at hz
    exact reads_vers k _ _ h0 (fun m hm => hz m (by simp [hm]))
end
end Go.Proofs.YtjakdgchfimhkaaGreat
