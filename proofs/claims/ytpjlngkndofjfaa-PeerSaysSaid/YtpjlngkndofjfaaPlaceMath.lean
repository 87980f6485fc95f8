/-
  Who gets a share, in plain lists: sorted, and as the reference gathers them.
-/
import Derived.Test.YtpjlngkndofjfaaPlace1
import Derived.Test.YtpjlngkndofjfaaBase
namespace Go.Proofs.Ytpjlngkndofjfaa

/-- How much room a peer has left; one's at a place. -/
def leftV (p : Pr) : Int := p.2.1 - (p.2.2.length : Int)
def leftAt (l : List Pr) (k : Int) : Int := ((l[k.toNat]?).map leftV).getD 0
theorem leftAt_get {l : List Pr} {k : Nat} {p : Pr} (h : l[k]? = some p) : leftAt l (k : Int) = leftV p := by simp [leftAt, h]
/-- Is it there, has it room, and nothing of the version? -/
def canV (v : Int) (p : Pr) : Bool := p.1 && (decide ((p.2.2.length : Int) < p.2.1) && decide (findV v p.2.2 0 < 0))
def canAt (v : Int) (l : List Pr) (k : Int) : Bool := ((l[k.toNat]?).map (canV v)).getD false
theorem canAt_get {v : Int} {l : List Pr} {k : Nat} {p : Pr} (h : l[k]? = some p) : canAt v l (k : Int) = canV v p := by simp [canAt, h]
def numsL (n : Nat) : List Int := (List.range n).map fun (j : Nat) => (j : Int)
theorem numsL_step (n : Nat) : numsL (n + 1) = numsL n ++ [(n : Int)] := by simp [numsL, List.range_succ]
theorem mem_numsL {n : Nat} {z : Int} : z ∈ numsL n ↔ 0 ≤ z ∧ z < n := by
  simp only [numsL, List.mem_map, List.mem_range]
  exact ⟨fun ⟨a, h1, h2⟩ => by omega, fun h => ⟨z.toNat, by omega, by omega⟩⟩
theorem numsL_sorted (n : Nat) : (numsL n).Pairwise (· < ·) := range_sorted n
/-- Those who can have it, by number. -/
def candL (v : Int) (l : List Pr) (n : Nat) : List Int := (numsL n).filter (canAt v l)
theorem candL_step (v : Int) (l : List Pr) {k : Nat} {p : Pr} (h : l[k]? = some p) : candL v l (k + 1) = candL v l k ++ (if canV v p = true then [(k : Int)] else []) := by
  unfold candL
  rw [numsL_step, List.filter_append]
  congr 1
  rw [← canAt_get h]
  by_cases hc : canAt v l (k : Int) = true <;> simp [hc]
theorem candL_len (v : Int) (l : List Pr) (n : Nat) : (candL v l n).length ≤ n := Nat.le_trans (List.length_filter_le _ _) (by simp [numsL])
theorem mem_candL {v : Int} {l : List Pr} {n : Nat} {z : Int} : z ∈ candL v l n ↔ (0 ≤ z ∧ z < n) ∧ canAt v l z = true := by unfold candL; rw [List.mem_filter, mem_numsL]
theorem candL_sorted (v : Int) (l : List Pr) (n : Nat) : (candL v l n).Pairwise (· < ·) := (numsL_sorted n).filter _
def cfP (l : List Pr) (i j : Int) : Int := leftAt l j - leftAt l i
/-- Who gets it, those with the most room left first. -/
def placesL (v : Int) (l : List Pr) : List Int := srtL (fun i j => decide (cfP l i j < 0)) (candL v l l.length)
/-- x comes ahead of y. -/
def ahead (l : List Pr) (x y : Int) : Prop := leftAt l y < leftAt l x ∨ (leftAt l x = leftAt l y ∧ x < y)
theorem insA_ahead (l : List Pr) {x : Int} : ∀ {r : List Int}, r.Pairwise (fun a b => ahead l b a) → (∀ y ∈ r, y < x) → (insA (fun i j => decide (cfP l i j < 0)) x r).Pairwise (fun a b => ahead l b a)
  | [], _, _ => by simp [insA]
  | y :: r, hp, hx => by
    have hp' := List.pairwise_cons.1 hp
    unfold insA
    by_cases h : cfP l x y < 0
    · rw [if_pos (by simpa using h), List.pairwise_cons]
      refine ⟨fun z hz => ?_, insA_ahead l hp'.2 (fun z hz => hx z (by simp [hz]))⟩
      rcases List.mem_cons.1 ((insA_perm x r).mem_iff.1 hz) with rfl | hz
      · unfold cfP at h; exact Or.inl (by omega)
      · exact hp'.1 z hz
    · rw [if_neg (by simpa using h), List.pairwise_cons]
      refine ⟨fun z hz => ?_, hp⟩
      have hy := hx y (by simp)
      have hzx := hx z hz
      unfold cfP at h
      rcases List.mem_cons.1 hz with rfl | hz
      · unfold ahead; omega
      · have := hp'.1 z hz
        unfold ahead at this ⊢
        omega
theorem foldA_ahead (l : List Pr) : ∀ (c acc : List Int), acc.Pairwise (fun a b => ahead l b a) → c.Pairwise (· < ·) → (∀ a ∈ acc, ∀ b ∈ c, a < b) → (c.foldl (fun acc x => insA (fun i j => decide (cfP l i j < 0)) x acc) acc).Pairwise (fun a b => ahead l b a)
  | [], acc, h, _, _ => h
  | x :: c, acc, h, hc, hb => by
    have hc' := List.pairwise_cons.1 hc
    rw [List.foldl_cons]
    refine foldA_ahead l c _ (insA_ahead l h (fun y hy => hb y hy x (by simp))) hc'.2 ?_
    intro a ha b hbb
    rcases List.mem_cons.1 ((insA_perm x acc).mem_iff.1 ha) with rfl | ha
    · exact hc'.1 b hbb
    · exact hb a ha b (by simp [hbb])
theorem places_ahead (v : Int) (l : List Pr) : (placesL v l).Pairwise (ahead l) := by
  unfold placesL srtL srtR
  rw [List.pairwise_reverse]
  exact foldA_ahead l _ [] List.Pairwise.nil (candL_sorted v l _) (by simp)
theorem places_perm (v : Int) (l : List Pr) : (placesL v l).Perm (candL v l l.length) := srtL_perm _
theorem places_len (v : Int) (l : List Pr) : (placesL v l).length = (candL v l l.length).length := srtL_len _
theorem ahead_ext {l : List Pr} : ∀ {c r : List Int}, c.Pairwise (ahead l) → r.Pairwise (ahead l) → (∀ x, x ∈ c ↔ x ∈ r) → c = r
  | [], [], _, _, _ => rfl
  | [], y :: r, _, _, h => by have := (h y).2 (by simp); simp at this
  | x :: c, [], _, _, h => by have := (h x).1 (by simp); simp at this
  | x :: c, y :: r, hc, hr, h => by
    have hc' := List.pairwise_cons.1 hc
    have hr' := List.pairwise_cons.1 hr
    have hxy : x = y := by
      have h1 : x = y ∨ x ∈ r := by simpa using (h x).1 (by simp)
      have h2 : y = x ∨ y ∈ c := by simpa using (h y).2 (by simp)
      rcases h1 with h1 | h1
      · exact h1
      · rcases h2 with h2 | h2
        · exact h2.symm
        · have a1 := hr'.1 x h1
          have a2 := hc'.1 y h2
          unfold ahead at a1 a2
          omega
    subst hxy
    rw [ahead_ext hc'.2 hr'.2 (fun z => ?_)]
    have hz := h z
    simp only [List.mem_cons] at hz
    constructor
    · intro hzc
      rcases hz.1 (Or.inr hzc) with rfl | hh
      · have := hc'.1 z hzc; unfold ahead at this; omega
      · exact hh
    · intro hzr
      rcases hz.2 (Or.inr hzr) with rfl | hh
      · have := hr'.1 z hzr; unfold ahead at this; omega
      · exact hh

/-- Those of the first n who can have it, and have just so much room left. -/
def roomL (v : Int) (l : List Pr) (left : Int) (n : Nat) : List Int := (numsL n).filter fun k => canAt v l k && decide (leftAt l k = left)
theorem roomL_step (v : Int) (l : List Pr) (left : Int) {k : Nat} {p : Pr} (h : l[k]? = some p) : roomL v l left (k + 1) = roomL v l left k ++ (if canV v p = true ∧ leftV p = left then [(k : Int)] else []) := by
  unfold roomL
  rw [numsL_step, List.filter_append]
  congr 1
  rw [← canAt_get h, ← leftAt_get h]
  by_cases hc : canAt v l (k : Int) = true <;> by_cases hl : leftAt l (k : Int) = left <;> simp [hc, hl]
/-- Gathered from 20 down to the room that is left to be asked for (not itself). -/
def gathL (v : Int) (l : List Pr) : Nat → List Int
  | 0 => []
  | n + 1 => gathL v l n ++ roomL v l (20 - (n : Int)) l.length
theorem mem_roomL {v : Int} {l : List Pr} {left : Int} {n : Nat} {z : Int} : z ∈ roomL v l left n ↔ ((0 ≤ z ∧ z < n) ∧ canAt v l z = true) ∧ leftAt l z = left := by
  unfold roomL
  rw [List.mem_filter, mem_numsL]
  simp [and_assoc]
theorem mem_gathL {v : Int} {l : List Pr} {z : Int} : ∀ {n : Nat}, z ∈ gathL v l n ↔ z ∈ candL v l l.length ∧ 20 - (n : Int) < leftAt l z ∧ leftAt l z ≤ 20
  | 0 => by simp [gathL]
  | n + 1 => by
    unfold gathL
    rw [List.mem_append, mem_gathL (n := n), mem_roomL, mem_candL]
    constructor
    · rintro (⟨h1, h2, h3⟩ | ⟨h1, h2⟩)
      · exact ⟨h1, by omega, h3⟩
      · exact ⟨h1, by omega, by omega⟩
    · rintro ⟨h1, h2, h3⟩
      by_cases h : leftAt l z = 20 - (n : Int)
      · exact Or.inr ⟨h1, h⟩
      · exact Or.inl ⟨h1, by omega, h3⟩
theorem roomL_ahead (v : Int) (l : List Pr) (left : Int) (n : Nat) : (roomL v l left n).Pairwise (ahead l) := by
  have h := (numsL_sorted n).filter (fun k => canAt v l k && decide (leftAt l k = left))
  refine List.Pairwise.imp_of_mem (fun {a b} ha hb hab => ?_) h
  have h1 := (mem_roomL (v := v) (l := l) (left := left) (n := n)).1 ha
  have h2 := (mem_roomL (v := v) (l := l) (left := left) (n := n)).1 hb
  exact Or.inr ⟨by rw [h1.2, h2.2], hab⟩
theorem gathL_ahead (v : Int) (l : List Pr) : ∀ n, (gathL v l n).Pairwise (ahead l)
  | 0 => List.Pairwise.nil
  | n + 1 => by
    unfold gathL
    rw [List.pairwise_append]
    refine ⟨gathL_ahead v l n, roomL_ahead v l _ _, fun a ha b hb => ?_⟩
    have h1 := mem_gathL.1 ha
    have h2 := mem_roomL.1 hb
    exact Or.inl (by omega)
theorem canV_left {v : Int} {p : Pr} (h : canV v p = true) : 1 ≤ leftV p := by
  simp [canV] at h
  unfold leftV
  omega
theorem gath_places {v : Int} {l : List Pr} (h : ∀ p ∈ l, leftV p ≤ 20) : gathL v l 20 = placesL v l := by
  refine ahead_ext (gathL_ahead v l 20) (places_ahead v l) (fun z => ?_)
  rw [mem_gathL, (places_perm v l).mem_iff]
  constructor
  · exact fun h => h.1
  · intro hz
    have hz' := mem_candL.1 hz
    obtain ⟨k, rfl⟩ := Int.eq_ofNat_of_zero_le hz'.1.1
    have hk : k < l.length := by omega
    have hg : l[k]? = some l[k] := List.getElem?_eq_getElem hk
    have hc := hz'.2
    rw [canAt_get hg] at hc
    have h1 := canV_left hc
    have h2 := h _ (List.getElem_mem hk)
    rw [leftAt_get hg]
    exact ⟨hz, by omega, by omega⟩
theorem peer_left {b : List Ver} {p : Pr} (h : PeerOk b p) : 0 ≤ leftV p ∧ leftV p ≤ 20 := by
  have h1 := h.room
  have h2 := h.few
  unfold leftV
  omega

/-- What For answers: errors, and who. -/
def forE (b : List Ver) (l : List Pr) (v many : Int) : Int := if placeV b l ≠ 0 then placeV b l else if many < 0 ∨ 8 < many then 2 else if ((candL v l l.length).length : Int) < many then 7 else 0
def forC (b : List Ver) (l : List Pr) (v many : Int) : List Int := if forE b l v many = 0 then (placesL v l).take many.toNat else []
theorem forE_chk {b : List Ver} {l : List Pr} (v many : Int) (h : placeV b l ≠ 0) : forE b l v many = placeV b l := by unfold forE; rw [if_pos h]
theorem forE_range {b : List Ver} {l : List Pr} {v many : Int} (h : placeV b l = 0) (hm : many < 0 ∨ 8 < many) : forE b l v many = 2 := by unfold forE; rw [if_neg (by simpa using h), if_pos hm]
theorem forE_short {b : List Ver} {l : List Pr} {v many : Int} (h : placeV b l = 0) (hm : ¬ (many < 0 ∨ 8 < many)) (hs : ((candL v l l.length).length : Int) < many) : forE b l v many = 7 := by unfold forE; rw [if_neg (by simpa using h), if_neg hm, if_pos hs]
theorem forE_ok {b : List Ver} {l : List Pr} {v many : Int} (h : placeV b l = 0) (hm : ¬ (many < 0 ∨ 8 < many)) (hs : ¬ ((candL v l l.length).length : Int) < many) : forE b l v many = 0 := by unfold forE; rw [if_neg (by simpa using h), if_neg hm, if_neg hs]
theorem forC_no {b : List Ver} {l : List Pr} {v many : Int} (h : forE b l v many ≠ 0) : forC b l v many = [] := by unfold forC; rw [if_neg h]
theorem forC_ok {b : List Ver} {l : List Pr} {v many : Int} (h : forE b l v many = 0) : forC b l v many = (placesL v l).take many.toNat := by unfold forC; rw [if_pos h]

end Go.Proofs.Ytpjlngkndofjfaa
