/-
  What happens to a mesh, in plain Lean.
-/
import Derived.Test.YtnidbghgadnjeaaGreatBendLaw
import Derived.Test.YtnidbghgadnjeaaGreatSames
namespace Go.Proofs.YtnidbghgadnjeaaGreat

/-- A happening: its kind, whom, what place; data, parents; need, of. -/
abbrev Hp := Int × Int × Int × List Int × List Int × Int × Int
def bendAt (q : Nat) (l : List Kp) : List Kp := match l[q]? with
  | none => l
  | some y => l.set q (bendK 1 y)
theorem bendAt_get {l : List Kp} {q : Nat} {y : Kp} (h : l[q]? = some y) : bendAt q l = l.set q (bendK 1 y) := by unfold bendAt; rw [h]
def bendE (l : List Kp) (k : Int) : Int := if k < 0 ∨ (l.length : Int) ≤ k then 4 else 0
theorem bendE_no {l : List Kp} {k : Int} (h : k < 0 ∨ (l.length : Int) ≤ k) : bendE l k = 4 := if_pos h
theorem bendE_ok {l : List Kp} {k : Int} (h : ¬ (k < 0 ∨ (l.length : Int) ≤ k)) : bendE l k = 0 := if_neg h
def atP (n : Int) (ps : List Pr) : Pr := ps.getD n.toNat (false, 0, [])
theorem atP_get {n : Nat} {ps : List Pr} {p : Pr} (h : ps[n]? = some p) : atP (n : Int) ps = p := by unfold atP; rw [Int.toNat_natCast, List.getD_eq_getElem?_getD, h]; rfl
def setP (n : Int) (ps : List Pr) (f : Pr → Pr) : List Pr := ps.set n.toNat (f (atP n ps))
theorem setP_get {n : Nat} {ps : List Pr} {p : Pr} (h : ps[n]? = some p) (f : Pr → Pr) : setP (n : Int) ps f = ps.set n (f p) := by unfold setP; rw [atP_get h, Int.toNat_natCast]
def forgetE (m : Me) (n : Int) : Int := if n < 0 ∨ (m.1.length : Int) ≤ n then 4 else if n ∈ headsL m.1 then 0 else 6
def forgetP (v : Int) (p : Pr) : Pr := if p.1 then (p.1, p.2.1, dropK v p.2.2) else p
/-- What Do answers. -/
def doE (m : Me) (x : Hp) : Int :=
  if meshV m ≠ 0 then meshV m
  else if x.1 = 1 then saveE m x.2.2.2.1 x.2.2.2.2.1 x.2.2.2.2.2.1 x.2.2.2.2.2.2
  else if x.1 = 6 then repairE m x.2.1
  else if x.1 = 7 then forgetE m x.2.1
  else if x.1 < 2 ∨ 5 < x.1 then 3
  else if x.2.1 < 0 ∨ (m.2.length : Int) ≤ x.2.1 then 4
  else if x.1 = 5 then bendE (atP x.2.1 m.2).2.2 x.2.2.1
  else if x.1 = 4 then 0
  else if (atP x.2.1 m.2).1 = decide (x.1 = 3) then 6 else 0
def doC (m : Me) (x : Hp) : Me :=
  if meshV m ≠ 0 then ([], [])
  else if x.1 = 1 then saveC m x.2.2.2.1 x.2.2.2.2.1 x.2.2.2.2.2.1 x.2.2.2.2.2.2
  else if x.1 = 6 then repairC m x.2.1
  else if doE m x ≠ 0 then ([], [])
  else if x.1 = 7 then (m.1, m.2.map (forgetP x.2.1))
  else if x.1 = 5 then (m.1, setP x.2.1 m.2 fun p => (p.1, p.2.1, bendAt x.2.2.1.toNat p.2.2))
  else if x.1 = 4 then (m.1, setP x.2.1 m.2 fun p => (p.1, p.2.1, []))
  else (m.1, setP x.2.1 m.2 fun p => (decide (x.1 = 3), p.2))
/-- What is kept has numbers, small ones. -/
theorem peer_vals {b : List Ver} {p : Pr} (h : PeerOk b p) {x : Kp} (hx : x ∈ p.2.2) : ∃ z, x.2.2[0]? = some z ∧ 0 ≤ z ∧ z < 31 := by
  obtain ⟨_, _, h3⟩ := h.each x hx
  unfold shareV at h3
  obtain ⟨_, _, h4, h5⟩ := oneV_ok h3
  have hp : planV (planAt b x.1).1 (planAt b x.1).2.1 (planAt b x.1).2.2 = 0 := by
    unfold oneV at h3
    split at h3
    · rename_i h6; exact absurd h3 h6
    · rename_i h6; simpa using h6
  have hb := planV_bd hp
  have hl : 0 < x.2.2.length := by
    obtain ⟨n', o', s', e1, e2, e3⟩ := plan_nat hp
    rw [e1, e2, e3] at h4 hp hb
    rw [longV_nat hp] at h4
    have : rowsN n' s' ≠ 0 := by
      unfold rowsN
      rcases (by omega : n' = 1 ∨ n' = 2 ∨ n' = 3 ∨ n' = 4) with rfl | rfl | rfl | rfl <;> omega
    omega
  refine ⟨x.2.2[0], List.getElem?_eq_getElem hl, h5 _ (List.getElem_mem hl)⟩
end Go.Proofs.YtnidbghgadnjeaaGreat
