/-
  Who goes and comes again, who is bent as often as there are numbers: what Do answers, in plain Lean.
-/
import Derived.Test.YtnpdojjffbhalaaGreatBackLaw
import Derived.Test.YtnpdojjffbhalaaGreatKeepLaw
namespace Go.Proofs.YtnpdojjffbhalaaGreat

theorem place_set {b : List Ver} {ps : List Pr} {nn : Nat} {p' : Pr} (hm : placeV b ps = 0) (hp' : PeerOk b p') : placeV b (ps.set nn p') = 0 := by
  obtain ⟨g1, g2, g3⟩ := placeV_ok.1 hm
  refine placeV_ok.2 ⟨g1, by simpa using g2, fun q hq => ?_⟩
  rcases List.mem_or_eq_of_mem_set hq with hq | rfl
  · exact g3 q hq
  · exact hp'
theorem set_sameB {α : Type} {l : List α} {k : Nat} {x : α} (h : l[k]? = some x) : l.set k x = l := by
  apply List.ext_getElem?
  intro i
  rw [List.getElem?_set]
  split
  · rename_i hi
    subst hi
    rw [h]
    split
    · rfl
    · rename_i hl
      exact absurd (List.getElem?_eq_some_iff.1 h).1 hl
  · rfl
theorem set_get {α : Type} {l : List α} {k : Nat} {x y : α} (h : l[k]? = some x) : (l.set k y)[k]? = some y := by
  have := (List.getElem?_eq_some_iff.1 h).1
  rw [List.getElem?_set, if_pos rfl, if_pos this]
def curT (t : Bool) (j : Nat) : Bool := if j % 2 = 0 then t else !t
theorem curT_succ (t : Bool) (j : Nat) : curT t (j + 1) = !curT t j := by
  unfold curT
  rcases Nat.mod_two_eq_zero_or_one j with h | h
  · rw [if_pos h, if_neg (show ¬ (j + 1) % 2 = 0 by omega)]
  · rw [if_neg (show ¬ j % 2 = 0 by omega), if_pos (show (j + 1) % 2 = 0 by omega), Bool.not_not]
def turnM (b : List Ver) (ps : List Pr) (kk : Nat) (p : Pr) (j : Nat) : Me := (b, ps.set kk (curT p.1 j, p.2))
def turnK (t : Bool) (j : Nat) : Int := if curT t j then 2 else 3
theorem turn_do {b : List Ver} {ps : List Pr} {kk : Nat} {p : Pr} (hm : placeV b ps = 0) (hp : ps[kk]? = some p) (j : Nat) :
    doE (turnM b ps kk p j) (turnK p.1 j, (kk : Int), 0, [], [], 0, 0) = 0 ∧ doC (turnM b ps kk p j) (turnK p.1 j, (kk : Int), 0, [], [], 0, 0) = turnM b ps kk p (j + 1) ∧ turnM b ps kk p j ≠ turnM b ps kk p (j + 1) := by
  have hkl := (List.getElem?_eq_some_iff.1 hp).1
  have hpo : PeerOk b p := (placeV_ok.1 hm).2.2 p (List.mem_of_getElem? hp)
  have hne : turnM b ps kk p j ≠ turnM b ps kk p (j + 1) := by
    intro e
    have h2 := congrArg (fun m : Me => m.2[kk]?) e
    simp only [turnM, set_get hp, curT_succ] at h2
    have := congrArg Prod.fst (Option.some.inj h2)
    simp at this
  unfold turnM turnK at *
  rw [curT_succ] at *
  generalize curT p.1 j = cur at *
  have hm2 : meshV (b, ps.set kk (cur, p.2)) = 0 := place_set hm (set_ok hpo cur)
  have hg : (ps.set kk (cur, p.2))[kk]? = some (cur, p.2) := set_get hp
  have ha := atP_get hg
  have hs := setP_get hg
  have hl : ¬ ((kk : Int) < 0 ∨ (((b, ps.set kk (cur, p.2)) : Me).2.length : Int) ≤ (kk : Int)) := by simp; omega
  have hE : doE (b, ps.set kk (cur, p.2)) ((if cur = true then 2 else 3), (kk : Int), 0, [], [], 0, 0) = 0 := by
    unfold doE
    rw [if_neg (by simpa using hm2)]
    cases cur <;> simp at hl ⊢ <;> (try rw [if_neg (by omega)]) <;> rw [ha] <;> simp
  refine ⟨hE, ?_, hne⟩
  unfold doC
  rw [hE]
  rw [if_neg (by simpa using hm2)]
  cases cur <;> simp [hs]
def bentM (b : List Ver) (ps : List Pr) (kk : Nat) (p : Pr) (q j : Nat) : Me := (b, ps.set kk (p.1, p.2.1, bendJ q j p.2.2))
theorem bentJ_ok {b : List Ver} {p : Pr} (h : PeerOk b p) (q j : Nat) : PeerOk b (p.1, p.2.1, bendJ q j p.2.2) := by
  unfold bendJ
  cases hq : p.2.2[q]? with
  | none => exact h
  | some y =>
    simp only
    rw [bend_at h.rise hq rfl]
    exact bend_peer h
theorem bendJ_len (q j : Nat) (l : List Kp) : (bendJ q j l).length = l.length := by
  unfold bendJ
  split <;> simp
theorem bent_do {b : List Ver} {ps : List Pr} {kk : Nat} {p : Pr} (hm : placeV b ps = 0) (hp : ps[kk]? = some p) {q : Nat} (hq : q < p.2.2.length) (j : Nat) :
    doE (bentM b ps kk p q j) (5, (kk : Int), (q : Int), [], [], 0, 0) = 0 ∧ doC (bentM b ps kk p q j) (5, (kk : Int), (q : Int), [], [], 0, 0) = bentM b ps kk p q (j + 1) ∧ bentM b ps kk p q j ≠ bentM b ps kk p q (j + 1) := by
  have hkl := (List.getElem?_eq_some_iff.1 hp).1
  have hpo : PeerOk b p := (placeV_ok.1 hm).2.2 p (List.mem_of_getElem? hp)
  have hy := List.getElem?_eq_getElem hq
  obtain ⟨z, hz, _, _⟩ := peer_vals hpo (List.getElem_mem hq)
  have hne : bentM b ps kk p q j ≠ bentM b ps kk p q (j + 1) := by
    intro e
    have h2 := congrArg (fun m : Me => m.2[kk]?) e
    simp only [bentM, set_get hp] at h2
    have := congrArg (fun x : Pr => x.2.2) (Option.some.inj h2)
    exact bendJ_ne hy hz this.symm
  have hst := bendJ_step (q := q) (j := j) hy hz
  have hbl := bendJ_len q j p.2.2
  unfold bentM at *
  have hm2 : meshV (b, ps.set kk (p.1, p.2.1, bendJ q j p.2.2)) = 0 := place_set hm (bentJ_ok hpo q j)
  rw [← hst] at hne ⊢
  generalize bendJ q j p.2.2 = K at *
  have hg : (ps.set kk (p.1, p.2.1, K))[kk]? = some (p.1, p.2.1, K) := set_get hp
  have ha := atP_get hg
  have hs := setP_get hg
  have hE : doE (b, ps.set kk (p.1, p.2.1, K)) (5, (kk : Int), (q : Int), [], [], 0, 0) = 0 := by
    unfold doE
    rw [if_neg (by simpa using hm2)]
    simp
    rw [if_neg (by omega), ha]
    exact bendE_ok (by simp only; omega)
  refine ⟨hE, ?_, hne⟩
  unfold doC
  rw [hE]
  rw [if_neg (by simpa using hm2)]
  simp [hs]
theorem bent_ends {b : List Ver} {ps : List Pr} {kk : Nat} {p : Pr} (hm : placeV b ps = 0) (hp : ps[kk]? = some p) {q : Nat} (hq : q < p.2.2.length) : bentM b ps kk p q 0 = (b, ps) ∧ bentM b ps kk p q 31 = (b, ps) := by
  have hpo : PeerOk b p := (placeV_ok.1 hm).2.2 p (List.mem_of_getElem? hp)
  have hy := List.getElem?_eq_getElem hq
  obtain ⟨z, hz, h0, h1⟩ := peer_vals hpo (List.getElem_mem hq)
  unfold bentM
  rw [bendJ_zero hy hz h0 h1, bendJ_all hy hz h0 h1]
  exact ⟨by rw [set_sameB hp], by rw [set_sameB hp]⟩
theorem turn_ends {b : List Ver} {ps : List Pr} {kk : Nat} {p : Pr} (hp : ps[kk]? = some p) : turnM b ps kk p 0 = (b, ps) ∧ turnM b ps kk p 2 = (b, ps) := by
  unfold turnM curT
  exact ⟨by rw [if_pos rfl, set_sameB hp], by rw [if_pos rfl, set_sameB hp]⟩
end Go.Proofs.YtnpdojjffbhalaaGreat
