/-
  slices.DeleteFunc at the call's own ints, with whatever closure that asks.
-/
import Derived.Test.YtnpdojjffbhalaaBase
import Derived.Lib.SliceRun
namespace Go.Proofs.Ytnpdojjffbhalaa
open Go.RowKit

theorem OwnInts.take {w : World} {e : TypeId} {base : Nat} {a : Option Addr} {L cap : Nat} {l : List Int} (h : OwnInts w e base (.slice a L cap) l) (n : Nat) (hn : n ≤ l.length) : OwnInts w e base (.slice a n cap) (l.take n) := by
  obtain ⟨⟨h1, h2⟩, h3, h4⟩ := h
  have hl : (l.take n).length = n := by simp; omega
  refine ⟨⟨by simp, ?_⟩, fun x hx => h3 x (List.mem_of_mem_take hx), by omega⟩
  rcases h2 with ⟨e1, e2⟩ | ⟨g, cap', cur, e1, hb, hg, hnc, hcm, hcs, htk⟩
  · simp only [Value.slice.injEq] at e1
    obtain ⟨rfl, rfl, rfl⟩ := e1
    have : n = 0 := by omega
    subst this
    exact .inl ⟨rfl, by simp⟩
  · simp only [Value.slice.injEq] at e1
    obtain ⟨rfl, rfl, rfl⟩ := e1
    refine .inr ⟨g, cap, cur, by rw [hl], hb, hg, by omega, hcm, hcs, ?_⟩
    rw [hl, List.map_take, ← htk, List.take_take]
    congr 1
    omega
/-- A stretch of noughts is stored: what stands ahead of it stays. -/
theorem OwnInts.noughts {e : TypeId} {base g n cap : Nat} : ∀ (m i : Nat) {w : World} {c : List Int}, OwnInts w e base (.slice (some ⟨g, 0, none⟩) n cap) c → i + m ≤ c.length →
    ∃ c', OwnInts (w.setCells g i (List.replicate m (.int .i64 0))) e base (.slice (some ⟨g, 0, none⟩) n cap) c' ∧ c'.length = c.length ∧ c'.take i = c.take i
  | 0, i, w, c, h, _ => ⟨c, h, rfl, rfl⟩
  | m + 1, i, w, c, h, hl => by
    obtain ⟨c', h1, h2, h3⟩ := OwnInts.noughts m (i + 1) (h.stored i 0 ⟨by omega, by omega⟩) (by simp; omega)
    refine ⟨c', h1, by simpa using h2, ?_⟩
    have := congrArg (List.take i) h3
    rw [List.take_take, List.take_take, Nat.min_eq_left (by omega)] at this
    rw [this, List.take_set_of_le (by omega)]
theorem grown_setCells (g : Nat) : ∀ (vs : List Value) (o : Nat) (w : World), w.grownBy (w.setCells g o vs) (some g)
  | [], _, w => World.grownBy.refl w _
  | v :: vs, o, w => (grown_setCell w ⟨g, o, none⟩ v).trans (grown_setCells g vs (o + 1) (w.setCell ⟨g, o, none⟩ v))
theorem below_cellD {w w' : World} (hb : Below w.heap.size w w') {a : Addr} {v : Value} (hc : w.cell? a = some v) : w'.cell? a = some v := (hb.cell (p := a) (cell_lt hc)).trans hc
theorem below_freeD {w w' : World} (hb : Below w.heap.size w w') {a : Addr} {v : Value} (hc : w.cell? a = some v) (hf : w.frozen? a = false) : w'.frozen? a = false := (hb.frozen (p := a) (cell_lt hc)).trans hf
theorem zero_intD (w : World) : (zeroValue 3).run Try.prog w = .ok (.int .i64 0) w := by kernel_rfl

theorem filter_take_step {p : Int → Bool} {l : List Int} {k : Nat} {z : Int} (h : l[k]? = some z) : (l.take (k + 1)).filter p = (l.take k).filter p ++ (if p z = true then [z] else []) := by
  rw [take_get h, List.filter_append]
  congr 1
  by_cases hz : p z = true <;> simp [hz]
theorem filter_none : ∀ {p : Int → Bool} {l : List Int} {k n : Nat}, findFrom p l k = ((k + n : Nat) : Int) → (l.take n).filter (fun z => !p z) = l.take n ∧ n < l.length ∧ ∃ z, l[n]? = some z ∧ p z = true
  | p, [], k, n, h => by unfold findFrom at h; omega
  | p, y :: l, k, n, h => by
    unfold findFrom at h
    split at h
    · rename_i hy
      have : n = 0 := by omega
      subst this
      exact ⟨by simp, by simp, y, by simp, hy⟩
    · rename_i hy
      match n, h with
      | 0, h => have := findFrom_bd p l (k + 1); have h2 : findFrom p l (k + 1) = (k : Int) := by simpa using h
                exfalso
                clear this
                have : ∀ (l : List Int) (m : Nat), k < m → findFrom p l m ≠ (k : Int) := by
                  intro l
                  induction l with
                  | nil => intro m _; simp [findFrom]
                  | cons x l ih =>
                    intro m hm
                    unfold findFrom
                    split
                    · omega
                    · exact ih (m + 1) (by omega)
                exact this l (k + 1) (by omega) h2
      | n + 1, h =>
        obtain ⟨h1, h2, z, h3, h4⟩ := filter_none (p := p) (l := l) (k := k + 1) (n := n) (by rw [h]; congr 1; omega)
        refine ⟨?_, by simp; omega, z, by simpa using h3, h4⟩
        rw [List.take_succ_cons, List.filter_cons, if_pos (by simpa using hy), h1]
theorem filter_all {p : Int → Bool} : ∀ {l : List Int} {k : Nat}, findFrom p l k = -1 → l.filter (fun z => !p z) = l
  | [], _, _ => rfl
  | y :: l, k, h => by
    unfold findFrom at h
    split at h
    · omega
    · rename_i hy
      rw [List.filter_cons, if_pos (by simpa using hy), filter_all h]

end Go.Proofs.Ytnpdojjffbhalaa
