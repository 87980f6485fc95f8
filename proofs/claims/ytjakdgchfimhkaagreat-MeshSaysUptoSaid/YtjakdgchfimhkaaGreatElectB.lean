/-
  Words of the walk of the reference's Elect: what is best so far, as it lies.
-/
import Derived.Test.YtjakdgchfimhkaaGreatSortR
namespace Go.Proofs.YtjakdgchfimhkaaGreat
open Go.RowKit

theorem info_shareE : (Tryz.prog.info? 58).map (fun i => (i.zero, i.size, i.bytes)) = some (some (.agg #[.int .i64 0, .slice none 0 0]), 2, 32) := by kernel_rfl
theorem fresh_cellsE (w : World) (l : List Value) (T : TypeId) (n : Nat) (hn : n = w.heap.size) : ∀ j u, l[j]? = some u → (w.alloc (.cells l.toArray T)).cell? ((⟨n, 0, none⟩ : Addr).add j) = some u := by
  intro j u h
  subst hn
  rw [add_zero']
  unfold World.cell? World.alloc
  simpa using h
theorem ret_vvE {x y : Value} {a b : Int} (h : a = b) : Ending.returned (.tuple #[x, y, .int .i64 a]) = .returned (.tuple #[x, y, .int .i64 b]) := by rw [h]
theorem drewN_since {g : Nat} {W w : World} (h : Since g W w) : ∀ n, Since g W (w.drewN n)
  | 0 => h
  | n + 1 => (drewN_since h n).drew
theorem drewN_below (w : World) (n : Nat) : Below w.heap.size w (w.drewN n) := (drewN_since (Since.refl w) n).below
/-- What is best so far, where it lies. -/
def BestAt (w : World) (base : Nat) (v : Value) : Option (List Int × List Int) → Prop
  | none => v = .pointer none
  | some b => ∃ (q : Nat) (a1 : Option Addr) (n1 c1 : Nat) (a2 : Option Addr) (c2 : Nat), v = .pointer (some ⟨q, 0, none⟩) ∧ base ≤ q ∧ w.cell? ⟨q, 0, none⟩ = some (.slice a1 n1 c1) ∧ w.cell? ⟨q, 1, none⟩ = some (.slice a2 b.2.length c2) ∧ OwnInts w 3 (q + 1) (.slice a2 b.2.length c2) b.2 ∧ ∀ w', Dirty (fun k => q ≤ k) w w' → IsInts w' (.slice a1 n1 c1) b.1
theorem BestAt.stays {w w' : World} {base : Nat} {v : Value} {st : Option (List Int × List Int)} (h : BestAt w base v st) (hb : Below w.heap.size w w') : BestAt w' base v st := by
  cases st with
  | none => exact h
  | some b =>
    obtain ⟨q, a1, n1, c1, a2, c2, h1, h2, h3, h4, h5, h6⟩ := h
    exact ⟨q, a1, n1, c1, a2, c2, h1, h2, below_cell hb h3, below_cell hb h4, h5.stays hb, fun w'' hw => h6 w'' ((Dirty.old hb _).trans hw)⟩
theorem best_data {w3 w : World} {v : Value} {d : List Int} (h : IsInts w3 v d) (hS : Since w3.heap.size w3 w) : ∀ w', Dirty (fun k => w3.heap.size ≤ k) w w' → IsInts w' v d := fun w' hw =>
  h.framed (fun k hk hne => by have := h.block_lt k hk hne; omega) ((Dirty.of_below hS.below hS.2).trans hw)
/-- The numbers of those that are not of it. -/
def badN (M : Sh → Bool) (l : List Sh) : List Int := (l.filter fun t => !M t).map (·.1)
theorem badN_in {M : Sh → Bool} {l : List Sh} {k : Nat} {t : Sh} (h : l[k]? = some t) (hM : M t = true) : badN M (l.take (k + 1)) = badN M (l.take k) := by
  unfold badN
  rw [List.take_add_one, h]
  simp [hM]
theorem badN_out {M : Sh → Bool} {l : List Sh} {k : Nat} {t : Sh} (h : l[k]? = some t) (hM : M t = false) : badN M (l.take (k + 1)) = badN M (l.take k) ++ [t.1] := by
  unfold badN
  rw [List.take_add_one, h]
  simp [hM]
theorem badN_len (M : Sh → Bool) (l : List Sh) : (badN M l).length ≤ l.length := by
  unfold badN
  rw [List.length_map]
  exact List.length_filter_le _ _
theorem pick_step {ls : List Sh} {c : List Int} {j m : Nat} {t : Sh} (h : c[j]? = some (m : Int)) (ht : ls[m]? = some t) : pickC ls (c.take (j + 1)) = pickC ls (c.take j) ++ [t] := by
  unfold pickC
  rw [List.take_add_one, h]
  simp [List.getD_eq_getElem?_getD, ht]
theorem picks_some {n len : Nat} (h : n ≤ len) : picksTo n len (2 ^ len) ≠ [] := by
  rw [picksTo_all]
  have hp : (placesI len).length = len := by simp [placesI]
  have : (placesI len).take n ∈ picksL n len := mem_picks.2 ⟨List.take_sublist _ _, by rw [List.length_take, hp]; omega⟩
  exact List.ne_nil_of_mem this
theorem comb_facts {n : Nat} {ls : List Sh} (hn : 0 < n) {c : List Int} (h : c ∈ combG n [] (placesI ls.length)) : c.length = n ∧ (pickC ls c).Sublist ls ∧ (pickC ls c).length = n ∧ ∀ z ∈ c, ∃ m : Nat, z = (m : Int) ∧ m < ls.length := by
  obtain ⟨q, hq, h1, h2⟩ := (mem_combG (by simpa using hn)).1 h
  rw [List.nil_append] at hq
  subst hq
  refine ⟨by simpa using h2, ?_, by unfold pickC; simpa using h2, fun z hz => ?_⟩
  · have := List.Sublist.map (fun i : Int => ls.getD i.toNat (0, [])) h1
    rw [show (placesI ls.length).map (fun i : Int => ls.getD i.toNat (0, [])) = ls from pick_places ls] at this
    exact this
  · have hz := h1.subset hz
    unfold placesI at hz
    obtain ⟨m, hm, rfl⟩ := List.mem_map.1 hz
    exact ⟨m, rfl, by simpa using hm⟩
theorem comb_len (n len : Nat) (hl : len ≤ 8) (hn : 0 < n) : (combG n [] (placesI len)).length ≤ 256 := by
  rw [← (picks_perm (n := n) (len := len) hn).length_eq]
  refine Nat.le_trans (picks_len n len (2 ^ len)) ?_
  calc 2 ^ len ≤ 2 ^ 8 := Nat.pow_le_pow_right (by omega) (by omega)
    _ = 256 := rfl
theorem fold_step {α β : Type} (f : α → β → α) {l : List β} {k : Nat} {c : β} (h : l[k]? = some c) (a : α) : (l.take (k + 1)).foldl f a = f ((l.take k).foldl f a) c := by
  rw [List.take_add_one, h]
  simp
theorem elect_no {n s : Nat} {ls pk : List Sh} {st : Option (List Int × List Int)} (h : madeB n s pk = false) : electV n s ls pk st = st := by
  unfold electV
  rw [if_neg (by simp [h])]
theorem elect_first {n s : Nat} {ls pk : List Sh} (h : madeB n s pk = true) : electV n s ls pk none = some (madeC n s pk, badN (ofMade n s pk) ls) := by
  unfold electV
  rw [if_pos h]
  rfl
theorem elect_better {n s : Nat} {ls pk : List Sh} {b : List Int × List Int} (h : madeB n s pk = true) (hl : (badN (ofMade n s pk) ls).length < b.2.length) : electV n s ls pk (some b) = some (madeC n s pk, badN (ofMade n s pk) ls) := by
  unfold electV
  rw [if_pos h]
  exact if_pos hl
theorem elect_worse {n s : Nat} {ls pk : List Sh} {b : List Int × List Int} (h : madeB n s pk = true) (hl : ¬ (badN (ofMade n s pk) ls).length < b.2.length) : electV n s ls pk (some b) = some b := by
  unfold electV
  rw [if_pos h]
  exact if_neg hl
end Go.Proofs.YtjakdgchfimhkaaGreat
