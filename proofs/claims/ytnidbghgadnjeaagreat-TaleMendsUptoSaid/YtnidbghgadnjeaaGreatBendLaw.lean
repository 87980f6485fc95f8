/-
  The plain laws of bent shares behind a save: who is bent is to blame, and nobody else; a repair goes through.
-/
import Derived.Test.YtnidbghgadnjeaaGreatWovens
import Derived.Test.YtnidbghgadnjeaaGreatLaws
import Derived.Test.YtnidbghgadnjeaaGreatRepair
import Derived.Deep.QuietTactic
import Derived.BigQuiet
import Derived.Test.YtnidbghgadnjeaaGreatSpare
import Derived.Test.YtnidbghgadnjeaaGreatReadMesh
import Derived.Test.YtnidbghgadnjeaaGreatRepairLaw
import Derived.Test.YtnidbghgadnjeaaGreatMosts
import Derived.Test.YtnidbghgadnjeaaGreatBooks
namespace Go.Proofs.YtnidbghgadnjeaaGreat

/-- What is bent of a version: the first number, by so many. -/
def bendN (d : Int) (l : List Int) : List Int := l.set 0 ((l.getD 0 0 + d) % 31)
def bendK (d : Int) (x : Kp) : Kp := (x.1, x.2.1, bendN d x.2.2)
def bendP (v d : Int) (p : Pr) : Pr := (p.1, p.2.1, p.2.2.map fun x => if x.1 = v then bendK d x else x)
theorem bend_at {v d : Int} {l : List Kp} {m : Nat} {x : Kp} (hp : l.Pairwise (fun x y => x.1 < y.1)) (hx : l[m]? = some x) (hv : x.1 = v) : l.set m (bendK d x) = l.map fun x => if x.1 = v then bendK d x else x := by
  apply List.ext_getElem?
  intro j
  rw [List.getElem?_set, List.getElem?_map]
  have hm := (List.getElem?_eq_some_iff.1 hx).1
  by_cases hj : m = j
  · subst hj
    rw [if_pos rfl, if_pos hm, hx, Option.map_some, if_pos hv]
  · rw [if_neg hj]
    cases hy : l[j]? with
    | none => rfl
    | some y =>
      have hne : y.1 ≠ v := by
        obtain ⟨h1, rfl⟩ := List.getElem?_eq_some_iff.1 hx
        obtain ⟨h2, rfl⟩ := List.getElem?_eq_some_iff.1 hy
        have := List.pairwise_iff_getElem.1 hp
        rcases Nat.lt_or_ge m j with h | h
        · have := this m j h1 h2 h; omega
        · have := this j m h2 h1 (by omega); omega
      rw [Option.map_some, if_neg hne]
theorem bendN_len (d : Int) (l : List Int) : (bendN d l).length = l.length := by simp [bendN]
theorem bendN_vals {d : Int} {l : List Int} (hv : ∀ z ∈ l, 0 ≤ z ∧ z < 31) : ∀ z ∈ bendN d l, 0 ≤ z ∧ z < 31 := by
  intro z hz
  unfold bendN at hz
  rcases List.mem_or_eq_of_mem_set hz with h | rfl
  · exact hv z h
  · omega
/-- A bent peer is one. -/
theorem bend_peer {b : List Ver} {v d : Int} {p : Pr} (h : PeerOk b p) : PeerOk b (bendP v d p) := by
  have hf : ∀ x : Kp, (if x.1 = v then bendK d x else x).1 = x.1 := fun x => by split <;> rfl
  refine ⟨h.book, h.room, by unfold bendP; simpa using h.few, fun x hx => ?_, ?_⟩
  · unfold bendP at hx
    obtain ⟨y, hy, rfl⟩ := List.mem_map.1 hx
    obtain ⟨h1, h2, h3⟩ := h.each y hy
    refine ⟨by rw [hf]; exact h1, by rw [hf]; exact h2, ?_⟩
    split
    · unfold shareV at h3 ⊢
      unfold bendK
      simp only
      unfold oneV at h3 ⊢
      split at h3
      · rename_i h4; exact absurd h3 h4
      · rename_i h4
        rw [if_neg h4]
        split at h3
        · simp at h3
        · rename_i h5
          rw [if_neg h5, bendN_len]
          split at h3
          · simp at h3
          · rename_i h6
            rw [if_neg h6]
            exact allV_zero (bendN_vals ((allV_ok _).1 h3))
    · exact h3
  · unfold bendP
    simp only
    rw [List.pairwise_map]
    exact h.rise.imp (fun h => by rw [hf, hf]; exact h)
/-- These are bent, all others are as they were. -/
structure BentTo (v d : Int) (want : List Int) (qs zs : List Pr) : Prop where
  len : zs.length = qs.length
  each : ∀ (k : Nat) q, qs[k]? = some q → zs[k]? = some (if (k : Int) ∈ want then bendP v d q else q)
theorem BentTo.nil (v d : Int) (qs : List Pr) : BentTo v d [] qs qs := ⟨rfl, fun k q h => by simpa using h⟩
theorem BentTo.more {v d : Int} {want : List Int} {qs zs : List Pr} (h : BentTo v d want qs zs) {k : Nat} {q : Pr} (hq : qs[k]? = some q) (_hk : (k : Int) ∉ want) : BentTo v d (want ++ [(k : Int)]) qs (zs.set k (bendP v d q)) := by
  have hkl := (List.getElem?_eq_some_iff.1 hq).1
  refine ⟨by rw [List.length_set]; exact h.len, fun j p hp => ?_⟩
  rw [List.getElem?_set]
  by_cases hj : k = j
  · subst hj
    rw [hq] at hp
    cases hp
    rw [if_pos rfl, if_pos (by have := h.len; omega), if_pos (by simp)]
  · rw [if_neg hj, h.each j p hp]
    have : (j : Int) ∈ want ++ [(k : Int)] ↔ (j : Int) ∈ want := by
      rw [List.mem_append, List.mem_singleton]
      exact ⟨fun h => h.elim id (fun h => by omega), Or.inl⟩
    by_cases hw : (j : Int) ∈ want
    · rw [if_pos hw, if_pos (this.2 hw)]
    · rw [if_neg hw, if_neg (fun h => hw (this.1 h))]
theorem len_le_of {l r : List Int} (hl : l.Nodup) (hr : r.Nodup) (h : ∀ z ∈ l, z ∈ r) : l.length ≤ r.length := by
  have e : l.length = (r.filter fun z => decide (z ∈ l)).length := nodup_len' hl (hr.filter _) (fun z => by
    rw [List.mem_filter]
    simp only [decide_eq_true_eq]
    exact ⟨fun hz => ⟨h z hz, hz⟩, fun hz => hz.2⟩)
  rw [e]
  exact List.length_filter_le _ _
section
variable {m : Me} {data pr : List Int} {n o : Nat} {qs : List Pr} {cs : List Int}
/-- What is known of who is bent. -/
structure Want (v : Int) (n o : Nat) (want : List Int) (qs : List Pr) : Prop where
  each : ∀ c ∈ want, ∃ (k : Nat) (q : Pr) (x : Kp), c = (k : Int) ∧ qs[k]? = some q ∧ keptAt v q.2.2 = some x
  once : want.Nodup
  few : 2 * want.length ≤ o - n
theorem Want.nil (v : Int) (n o : Nat) (qs : List Pr) : Want v n o [] qs := ⟨by simp, List.nodup_nil, by simp⟩
variable {d : Int} {want : List Int} {zs : List Pr}
theorem BentTo.get {v : Int} (hz : BentTo v d want qs zs) {k : Nat} {z : Pr} (h : zs[k]? = some z) : ∃ q, qs[k]? = some q ∧ z = if (k : Int) ∈ want then bendP v d q else q := by
  have hl := (List.getElem?_eq_some_iff.1 h).1
  have hq : qs[k]? = some (qs[k]'(by have := hz.len; omega)) := List.getElem?_eq_getElem (by have := hz.len; omega)
  refine ⟨_, hq, ?_⟩
  have := hz.each k _ hq
  rw [h] at this
  simpa using this
theorem BentTo.place {b : List Ver} {v : Int} (hz : BentTo v d want qs zs) (h : placeV b qs = 0) : placeV b zs = 0 := by
  obtain ⟨h1, h2, h3⟩ := placeV_ok.1 h
  refine placeV_ok.2 ⟨h1, by rw [hz.len]; exact h2, fun z hm => ?_⟩
  obtain ⟨k, hk⟩ := List.getElem?_of_mem hm
  obtain ⟨q, hq, rfl⟩ := hz.get hk
  have := h3 q (List.mem_of_getElem? hq)
  split
  · exact bend_peer this
  · exact this
theorem Want.more {v : Int} (h : Want v n o want qs) {k : Nat} {q : Pr} {x : Kp} (hq : qs[k]? = some q) (hx : keptAt v q.2.2 = some x) (hk : (k : Int) ∉ want) (hl : want.length ≠ (o - n) / 2) : Want v n o (want ++ [(k : Int)]) qs := by
  refine ⟨fun c hc => ?_, ?_, ?_⟩
  · rcases List.mem_append.1 hc with hc | hc
    · exact h.each c hc
    · rw [List.mem_singleton] at hc
      exact ⟨k, q, x, hc, hq, hx⟩
  · rw [List.nodup_append]
    refine ⟨h.once, by simp, fun a ha b hb e => ?_⟩
    rw [List.mem_singleton] at hb
    subst hb
    subst e
    exact hk ha
  · have := h.few
    simp only [List.length_append, List.length_cons, List.length_nil]
    omega
/-- One more is bent. -/
theorem SavedTo.step (h : SavedTo m data pr n o qs cs) (hw : Want (m.1.length : Int) n o want qs) (hz : BentTo (m.1.length : Int) d want qs zs) {k : Nat} {z : Pr} (hk : zs[k]? = some z) {mm : Nat} {y : Kp} (hy : z.2.2[mm]? = some y) (hv : y.1 = (m.1.length : Int)) (hkept : keptAt (m.1.length : Int) z.2.2 = some y) (hn : (k : Int) ∉ want) (hl : want.length ≠ (o - n) / 2) :
    ∃ v0, y.2.2[0]? = some v0 ∧ 0 ≤ v0 ∧ v0 < 31 ∧ Want (m.1.length : Int) n o (want ++ [(k : Int)]) qs ∧ BentTo (m.1.length : Int) d (want ++ [(k : Int)]) qs (zs.set k (z.1, z.2.1, z.2.2.set mm (y.1, y.2.1, y.2.2.set 0 ((v0 + d) % 31)))) := by
  have hb := planV_bd (splitE_ok h.split).1
  obtain ⟨q, hq, e⟩ := hz.get hk
  rw [if_neg hn] at e
  subst e
  obtain ⟨j, hj, _, rfl, ht⟩ := h.kept hq hkept
  have h0 : (shareL n data (rowsN n data.length) j).2[0]? = some (partV n data j 0) := shareL_get n data j (by
    have : rowsN n data.length ≠ 0 := by
      unfold rowsN
      rcases (by omega : n = 1 ∨ n = 2 ∨ n = 3 ∨ n = 4) with rfl | rfl | rfl | rfl <;> omega
    omega)
  have hbd := partV_bd n data j 0
  refine ⟨_, h0, hbd.1, hbd.2, hw.more hq hkept hn hl, ?_⟩
  have hmore := hz.more hq hn
  have hrise := ((placeV_ok.1 h.right).2.2 z (List.mem_of_getElem? hq)).rise
  have hbend := bend_at (d := d) hrise hy hv
  have hbk : bendK d ((m.1.length : Int), shareL n data (rowsN n data.length) j) = ((m.1.length : Int), (shareL n data (rowsN n data.length) j).1, (shareL n data (rowsN n data.length) j).2.set 0 ((partV n data j 0 + d) % 31)) := by
    unfold bendK bendN
    simp only
    rw [List.getD_eq_getElem?_getD, h0]
    rfl
  rw [hbk] at hbend
  rw [hbend]
  exact hmore
end
end Go.Proofs.YtnidbghgadnjeaaGreat
