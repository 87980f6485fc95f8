/-
  Who gets a share, in plain lists: it is fair. The walk of the law's closure.
-/
import Derived.Test.YtpjlngkndofjfaaReadBook
import Derived.Test.YtpjlngkndofjfaaChosen
namespace Go.Proofs.Ytpjlngkndofjfaa
open Go.RowKit

/-- How much room the last of them has left; at first: as much as may be. -/
def lastR (l : List Pr) (s : List Int) : Int := (s.getLast?.map (leftAt l)).getD 20
theorem lastR_nil (l : List Pr) : lastR l [] = 20 := rfl
theorem lastR_snoc (l : List Pr) (s : List Int) (z : Int) : lastR l (s ++ [z]) = leftAt l z := by simp [lastR]
theorem fair_at {v : Int} {l : List Pr} {m i : Nat} {z : Int} (hl : ∀ p ∈ l, 0 ≤ leftV p ∧ leftV p ≤ 20) (hz : ((placesL v l).take m)[i]? = some z) :
    ∃ k : Nat, ∃ p, z = (k : Int) ∧ l[k]? = some p ∧ canV v p = true ∧ z ∉ ((placesL v l).take m).take i ∧ leftV p ≤ lastR l (((placesL v l).take m).take i) := by
  have hp : ((placesL v l).take m).Pairwise (ahead l) := (places_ahead v l).sublist (List.take_sublist _ _)
  have hmem := mem_candL.1 ((places_perm v l).mem_iff.1 (List.mem_of_mem_take (List.mem_of_getElem? hz)))
  generalize (placesL v l).take m = a at *
  obtain ⟨k, rfl⟩ := Int.eq_ofNat_of_zero_le hmem.1.1
  have hk : k < l.length := by omega
  have hg : l[k]? = some l[k] := List.getElem?_eq_getElem hk
  have hp' : (a.take i ++ [(k : Int)]).Pairwise (ahead l) := by
    rw [← take_get hz]; exact hp.sublist (List.take_sublist _ _)
  rw [List.pairwise_append] at hp'
  refine ⟨k, l[k], rfl, hg, by rw [← canAt_get hg]; exact hmem.2, fun h => ?_, ?_⟩
  · have := hp'.2.2 _ h (k : Int) (by simp)
    unfold ahead at this
    omega
  · rcases List.eq_nil_or_concat (a.take i) with h | ⟨s, y, h⟩
    · rw [h, lastR_nil]
      exact (hl _ (List.getElem_mem hk)).2
    · rw [h, List.concat_eq_append, lastR_snoc]
      have := hp'.2.2 y (by rw [h]; simp) _ (by simp : (k : Int) ∈ [(k : Int)])
      rw [← leftAt_get hg]
      unfold ahead at this
      omega
theorem fair_rest {v : Int} {l : List Pr} {m k : Nat} {p : Pr} (hp : l[k]? = some p) (hc : canV v p = true) (hn : (k : Int) ∉ (placesL v l).take m) (hne : (placesL v l).take m ≠ []) : leftV p ≤ lastR l ((placesL v l).take m) := by
  have hpa := places_ahead v l
  have hk : k < l.length := (List.getElem?_eq_some_iff.1 hp).1
  have hin : (k : Int) ∈ placesL v l := (places_perm v l).mem_iff.2 (mem_candL.2 ⟨⟨by omega, by omega⟩, by rw [canAt_get hp]; exact hc⟩)
  rw [← List.take_append_drop m (placesL v l)] at hpa hin
  generalize (placesL v l).take m = a at *
  have hr : (k : Int) ∈ (placesL v l).drop m := (List.mem_append.1 hin).resolve_left hn
  rcases List.eq_nil_or_concat a with h | ⟨s, y, h⟩
  · exact absurd h hne
  · rw [h, List.concat_eq_append, lastR_snoc]
    have := (List.pairwise_append.1 hpa).2.2 y (by rw [h]; simp) _ hr
    rw [← leftAt_get hp]
    unfold ahead at this
    omega

theorem zero_boolC (w : World) : (zeroValue 4).run Try.prog w = .ok (.bool false) w := by kernel_rfl

set_option maxRecDepth 100000 in
set_option maxHeartbeats 2000000 in
theorem FairRoom_any (B : Nat) (al : Option Addr) (cl : Nat) (l : List Pr) (i : Nat) (p : Pr) (W : World) (hB : W.cell? ⟨B, 0, none⟩ = some (.slice al l.length cl)) (hu : IsPeers W (.slice al l.length cl) l) (hp : l[i]? = some p) (hroom : 0 ≤ leftV p ∧ leftV p ≤ 20) :
    Calls Try.prog 13 #[.int .i64 (i : Int), .pointer (some ⟨B, 0, none⟩)] W fun e w' => e = .returned (.int .i64 (leftV p)) ∧ Below W.heap.size W w' := by
  have hi : i < l.length := (List.getElem?_eq_some_iff.1 hp).1
  obtain ⟨g, off, u, cu, rfl, _, k1, k2, _, i1⟩ := peer_at hu hp
  have wp : IntKind.i64.wrap (p.2.1 - (p.2.2.length : Int)) = leftV p := by unfold leftV at hroom ⊢; exact IntWalk.i64_in _ (by omega)
  have s1 : (i : Int) < (l.length : Int) := by omega
  have s3 : (0 : Int) ≤ (i : Int) := by omega
  clear hu hroom
  go_enter Try.func13, Try.ntmps13
  go_wp2_with (go_quiet (fail))
  go_ret
  exact ⟨rfl, (since_drewN (Since.refl W) _).below⟩

end Go.Proofs.Ytpjlngkndofjfaa
