/-
  All sets of places, as bits, and sorted, in plain Lean.
-/
import Derived.Test.YtjakdgchfimhkaaGreatShares
namespace Go.Proofs.YtjakdgchfimhkaaGreat

/-- As Go's slices.Compare. -/
def cmpL : List Int → List Int → Int
  | [], [] => 0
  | [], _ :: _ => -1
  | _ :: _, [] => 1
  | a :: x, b :: y => if a < b then -1 else if b < a then 1 else cmpL x y
theorem cmpL_append : ∀ (p x y : List Int), cmpL (p ++ x) (p ++ y) = cmpL x y
  | [], _, _ => rfl
  | a :: p, x, y => by
    rw [List.cons_append, List.cons_append, cmpL, if_neg (by omega), if_neg (by omega), cmpL_append p x y]
theorem cmpL_swap : ∀ (x y : List Int), cmpL y x = -cmpL x y
  | [], [] => rfl
  | [], _ :: _ => rfl
  | _ :: _, [] => rfl
  | a :: x, b :: y => by
    rw [cmpL, cmpL]
    by_cases h1 : a < b
    · rw [if_pos h1, if_neg (by omega), if_pos h1]; rfl
    · by_cases h2 : b < a
      · rw [if_pos h2, if_neg h1, if_pos h2]
      · rw [if_neg h2, if_neg h1, if_neg h1, if_neg h2, cmpL_swap x y]
/-- All such sets of any places, in order. -/
def combG {α : Type} (n : Nat) : List α → List α → List (List α)
  | _, [] => []
  | pk, t :: r => (if pk.length + 1 = n then [pk ++ [t]] else combG n (pk ++ [t]) r) ++ combG n pk r
theorem combL_eq (n : Nat) : ∀ (r pk : List Sh), combL n pk r = combG n pk r
  | [], _ => rfl
  | t :: r, pk => by rw [combL, combG, combL_eq n r pk, combL_eq n r (pk ++ [t])]
theorem combG_map {α β : Type} (f : α → β) (n : Nat) : ∀ (r pk : List α), (combG n pk r).map (List.map f) = combG n (pk.map f) (r.map f)
  | [], _ => rfl
  | t :: r, pk => by
    rw [List.map_cons, combG, combG, List.map_append, combG_map f n r pk, List.length_map]
    congr 1
    split
    · simp
    · rw [combG_map f n r (pk ++ [t]), List.map_append]
      rfl
theorem mem_combG {α : Type} {n : Nat} : ∀ {r pk : List α} {c : List α}, pk.length < n → (c ∈ combG n pk r ↔ ∃ q, c = pk ++ q ∧ q.Sublist r ∧ pk.length + q.length = n)
  | [], pk, c, h => by
    simp only [combG, List.not_mem_nil, false_iff]
    rintro ⟨q, _, h2, h3⟩
    have := List.sublist_nil.1 h2
    subst this
    simp at h3
    omega
  | t :: r, pk, c, h => by
    have ih := mem_combG (r := r) (pk := pk) (c := c) h
    simp only [combG, List.mem_append, ih]
    constructor
    · rintro (h1 | ⟨q, h1, h2, h3⟩)
      · split at h1
        · simp at h1
          exact ⟨[t], h1, List.Sublist.cons_cons t (List.nil_sublist r), by simpa⟩
        · rename_i hn
          obtain ⟨q, h2, h3, h4⟩ := (mem_combG (r := r) (pk := pk ++ [t]) (c := c) (by simp; omega)).1 h1
          exact ⟨t :: q, by simp [h2], h3.cons_cons t, by simp at h4 ⊢; omega⟩
      · exact ⟨q, h1, h2.cons t, h3⟩
    · rintro ⟨q, rfl, h2, h3⟩
      cases h2 with
      | cons _ h2 => exact Or.inr ⟨q, rfl, h2, h3⟩
      | cons_cons _ h2 =>
        rename_i q
        left
        split
        · rename_i hn
          simp at h3
          have : q = [] := List.eq_nil_of_length_eq_zero (by omega)
          subst this
          simp
        · rename_i hn
          refine (mem_combG (r := r) (pk := pk ++ [t]) (by simp; omega)).2 ⟨q, by simp, h2, by simp at h3 ⊢; omega⟩
/-- They come in order. -/
theorem combG_sorted {n : Nat} : ∀ {r pk : List Int}, pk.length < n → r.Pairwise (· < ·) → (combG n pk r).Pairwise (fun c d => cmpL c d < 0)
  | [], _, _, _ => List.Pairwise.nil
  | t :: r, pk, h, hr => by
    obtain ⟨h1, h2⟩ := List.pairwise_cons.1 hr
    rw [combG, List.pairwise_append]
    refine ⟨?_, combG_sorted h h2, fun c hc d hd => ?_⟩
    · split
      · simp
      · exact combG_sorted (by simp; omega) h2
    · obtain ⟨q, rfl, hq, hl⟩ := (mem_combG h).1 hd
      have hc' : ∃ q1, c = pk ++ t :: q1 := by
        split at hc
        · simp at hc; exact ⟨[], hc⟩
        · obtain ⟨q1, rfl, _, _⟩ := (mem_combG (by simp; omega)).1 hc
          exact ⟨q1, by simp⟩
      obtain ⟨q1, rfl⟩ := hc'
      rw [cmpL_append]
      cases q with
      | nil => simp at hl; omega
      | cons z q =>
        have := h1 z (hq.subset (by simp))
        rw [cmpL, if_pos this]
        omega
theorem combG_nodup {n : Nat} {r pk : List Int} (h : pk.length < n) (hr : r.Pairwise (· < ·)) : (combG n pk r).Nodup :=
  (combG_sorted h hr).imp (fun {c d} hcd e => by
    subst e
    have := cmpL_swap c c
    omega)
/-- The places of a set of bits. -/
def bitsI (len set : Nat) : List Int := ((List.range len).filter fun i => set.testBit i).map fun (i : Nat) => (i : Int)
def picksL (n len : Nat) : List (List Int) := ((List.range (2 ^ len)).map (bitsI len)).filter fun c => decide (c.length = n)
def placesI (len : Nat) : List Int := (List.range len).map fun (i : Nat) => (i : Int)
theorem placesI_rise (len : Nat) : (placesI len).Pairwise (· < ·) := by
  unfold placesI
  rw [List.pairwise_map]
  exact List.pairwise_lt_range.imp (fun h => by omega)
theorem bits_all : ∀ (len : Nat) (c : List Nat), c.Sublist (List.range len) → ∃ set, set < 2 ^ len ∧ ((List.range len).filter fun i => set.testBit i) = c
  | 0, c, h => ⟨0, by simp, by simp at h; simp [h]⟩
  | len + 1, c, h => by
    rw [List.range_succ] at h
    obtain ⟨c1, c2, rfl, h1, h2⟩ := List.sublist_append_iff.1 h
    obtain ⟨set, hs, hf⟩ := bits_all len c1 h1
    have hlt : ∀ i ∈ List.range len, (set + 2 ^ len).testBit i = set.testBit i := fun i hi => by
      rw [Nat.add_comm]
      exact Nat.testBit_two_pow_add_gt (by simpa using hi) set
    have h2' : c2 = [] ∨ c2 = [len] := by
      cases h2 with
      | cons _ h2 => left; exact List.sublist_nil.1 h2
      | cons_cons _ h2 => right; rw [List.sublist_nil.1 h2]
    rcases h2' with rfl | rfl
    · refine ⟨set, by rw [Nat.pow_succ]; omega, ?_⟩
      rw [List.range_succ, List.filter_append, hf]
      simp [Nat.testBit_lt_two_pow hs]
    · refine ⟨set + 2 ^ len, by rw [Nat.pow_succ]; omega, ?_⟩
      rw [List.range_succ, List.filter_append, List.filter_congr hlt, hf]
      have : (set + 2 ^ len).testBit len = true := by
        rw [Nat.add_comm, Nat.testBit_two_pow_add_eq, Nat.testBit_lt_two_pow hs]; rfl
      simp [this]
theorem bits_inj {len a b : Nat} (ha : a < 2 ^ len) (hb : b < 2 ^ len) (h : bitsI len a = bitsI len b) : a = b := by
  apply Nat.eq_of_testBit_eq
  intro i
  by_cases hi : i < len
  · have key : ∀ s, ((i : Int) ∈ bitsI len s ↔ s.testBit i = true) := fun s => by
      unfold bitsI
      simp only [List.mem_map, List.mem_filter, List.mem_range]
      constructor
      · rintro ⟨j, ⟨_, h2⟩, e⟩
        have : j = i := by omega
        rw [← this]; exact h2
      · exact fun h => ⟨i, ⟨hi, h⟩, rfl⟩
    have h1 := key a
    have h2 := key b
    rw [h] at h1
    have := h1.symm.trans h2
    cases hx : a.testBit i <;> cases hy : b.testBit i <;> simp [hx, hy] at this ⊢
  · have hp : 2 ^ len ≤ 2 ^ i := Nat.pow_le_pow_right (by omega) (by omega)
    rw [Nat.testBit_lt_two_pow (by omega), Nat.testBit_lt_two_pow (by omega)]
theorem picks_nodup (n len : Nat) : (picksL n len).Nodup := by
  unfold picksL
  refine List.Pairwise.filter _ ?_
  refine List.pairwise_map.2 ?_
  refine List.Pairwise.imp_of_mem ?_ (List.nodup_range (n := 2 ^ len))
  intro a b ha hb hne e
  exact hne (bits_inj (by simpa using ha) (by simpa using hb) e)
theorem mem_picks {n len : Nat} {c : List Int} : c ∈ picksL n len ↔ c.Sublist (placesI len) ∧ c.length = n := by
  unfold picksL
  rw [List.mem_filter, List.mem_map]
  constructor
  · rintro ⟨⟨s, _, rfl⟩, h⟩
    refine ⟨?_, by simpa using h⟩
    unfold bitsI placesI
    exact List.Sublist.map _ List.filter_sublist
  · rintro ⟨h1, h2⟩
    unfold placesI at h1
    obtain ⟨c', hc', rfl⟩ := List.sublist_map_iff.1 h1
    obtain ⟨s, hs, hf⟩ := bits_all len c' hc'
    exact ⟨⟨s, by simpa using hs, by unfold bitsI; rw [hf]⟩, by simpa using h2⟩
theorem picks_perm {n len : Nat} (hn : 0 < n) : (picksL n len).Perm (combG n [] (placesI len)) := by
  refine (List.perm_ext_iff_of_nodup (picks_nodup n len) (combG_nodup (by simpa using hn) (placesI_rise len))).2 (fun c => ?_)
  rw [mem_picks, mem_combG (by simpa using hn)]
  constructor
  · rintro ⟨h1, h2⟩
    exact ⟨c, by simp, h1, by simpa using h2⟩
  · rintro ⟨q, rfl, h1, h2⟩
    exact ⟨by simpa using h1, by simpa using h2⟩
/-- Two lists of the same, both in order, are one. -/
theorem sorted_one : ∀ {a b : List (List Int)}, a.Perm b → a.Pairwise (fun c d => cmpL c d ≤ 0) → b.Pairwise (fun c d => cmpL c d < 0) → a = b
  | [], b, hp, _, _ => (List.nil_perm.1 hp).symm
  | x :: a, [], hp, _, _ => by simpa using hp.length_eq
  | x :: a, y :: b, hp, ha, hb => by
    obtain ⟨ha1, ha2⟩ := List.pairwise_cons.1 ha
    obtain ⟨hb1, hb2⟩ := List.pairwise_cons.1 hb
    have hxy : x = y := by
      have hx : x ∈ y :: b := hp.subset (by simp)
      have hy : y ∈ x :: a := hp.symm.subset (by simp)
      rcases List.mem_cons.1 hx with e | hx
      · exact e
      · rcases List.mem_cons.1 hy with e | hy
        · exact e.symm
        · have h1 := ha1 y hy
          have h2 := hb1 x hx
          have h3 := cmpL_swap x y
          omega
    subst hxy
    rw [sorted_one (List.perm_cons x |>.1 hp) ha2 hb2]
theorem picks_sorted {n len : Nat} (hn : 0 < n) {s : List (List Int)} (hp : s.Perm (picksL n len)) (hs : s.Pairwise (fun c d => cmpL c d ≤ 0)) : s = combG n [] (placesI len) :=
  sorted_one (hp.trans (picks_perm hn)) hs (combG_sorted (by simpa using hn) (placesI_rise len))
end Go.Proofs.YtjakdgchfimhkaaGreat
