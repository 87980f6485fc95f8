/-
  Rows of shares whose numbers lie elsewhere: the cells, a stretch of them written anew.
-/
import Derived.Test.YtpjlngkndofjfaaLib4
import Derived.Lib.SliceRun
namespace Go.Proofs.Ytpjlngkndofjfaa
open Go.RowKit

/-- A row behind a stretch of stores. -/
theorem row_setCells (g : Nat) (e : TypeId) : ∀ (vs : List Value) (o : Nat) (w : World) (cur : Array Value), w.heap[g]? = some (.cells cur e (0, 0)) → o + vs.length ≤ cur.size →
    ∃ cur', (w.setCells g o vs).heap[g]? = some (.cells cur' e (0, 0)) ∧ cur'.size = cur.size ∧ ∀ j, cur'[j]? = if o ≤ j ∧ j < o + vs.length then vs[j - o]? else cur[j]?
  | [], o, w, cur, h, _ => ⟨cur, h, rfl, fun j => by rw [if_neg (by simp)]⟩
  | v :: vs, o, w, cur, h, hl => by
    simp only [List.length_cons] at hl
    have h2 := heap_setCell_same w g o cur e v h
    obtain ⟨cur', h3, h4, h5⟩ := row_setCells g e vs (o + 1) _ _ h2 (by simp; omega)
    refine ⟨cur', h3, by simpa using h4, fun j => ?_⟩
    rw [h5]
    by_cases hj : o = j
    · subst hj
      rw [if_neg (by omega), if_pos (by simp), Array.getElem?_setIfInBounds, if_pos rfl, if_pos (by omega)]
      simp
    · by_cases hj2 : o + 1 ≤ j ∧ j < o + 1 + vs.length
      · rw [if_pos hj2, if_pos (by simp; omega), show j - o = (j - (o + 1)) + 1 by omega]
        simp
      · rw [if_neg hj2, if_neg (by simp; omega), Array.getElem?_setIfInBounds, if_neg hj]

/-- The cells of shares: each its number and its numbers' slice. -/
def cellsP (ps : List (Int × Value)) : List Value := ps.flatMap fun p => [.int .i64 p.1, p.2]
theorem cellsP_len (ps : List (Int × Value)) : (cellsP ps).length = ps.length * 2 := by
  induction ps with
  | nil => rfl
  | cons p ps ih => simp only [cellsP, List.flatMap_cons, List.length_append, List.length_cons, List.length_nil] at ih ⊢; omega

/-- 'clear(s)' at one element of two cells. -/
theorem run_clear_pair {P : Program} (w : World) (t e ty : TypeId) (z x y : Value) (ht : P.underlying t = some (.slice e)) (hv : ∀ w, (zeroValue e).run P w = .ok z w) (hz : z.cells = #[x, y]) (hx : x.oneCell' = true) (hy : y.oneCell' = true) (b o c : Nat)
    (hc : ∀ j, j < 2 → (w.cell? ⟨b, o + j, none⟩).isSome = true) (hf : ∀ j, j < 2 → w.frozen? ⟨b, o + j, none⟩ = false) :
    (Builtin.clear_ #[t] ty #[.slice (some ⟨b, o, none⟩) 1 c]).run P w = .ok (.tuple #[]) (w.setCells b o [x, y]) := by
  have hzc : (Builtin.zeroCells z.cells 1).toList = [x, y] := by
    rw [hz]
    simp [Builtin.zeroCells]
    apply List.ext_getElem
    · simp
    · intro i h1 h2
      simp at h2
      rcases (by omega : i = 0 ∨ i = 1) with rfl | rfl <;> simp
  have hst := run_storeCells_cells (P := P) b o [x, y] 0 w (by simpa using hc) (by simpa using hf) (by intro v hv'; simp at hv'; rcases hv' with rfl | rfl <;> assumption)
  simp only [Nat.add_zero] at hst
  simp [Builtin.clear_, run_underlying ht, hv, hzc, hst]

/-- A row of shares of the call's own, their numbers lying anywhere. -/
def OwnPs (w : World) (e : TypeId) (base : Nat) (v : Value) (ps : List (Int × Value)) : Prop :=
  w.ownsRow base e 2 v ps.length (cellsP ps) ∧ (∀ p ∈ ps, I64 p.1 ∧ ∃ a n c, p.2 = .slice a n c) ∧ ps.length ≤ 1000000
theorem OwnPs.nil (w : World) (e : TypeId) (base : Nat) : OwnPs w e base (.slice none 0 0) [] := ⟨World.ownsRow_nil _ _ _ _, by simp, by simp⟩
theorem OwnPs.kept {w w' : World} {e : TypeId} {base : Nat} {v : Value} {ps : List (Int × Value)} {row : Option Nat} (h : OwnPs w e base v ps) (hg : w.grownBy w' row) (hne : v.ownBlock = none ∨ v.ownBlock ≠ row) : OwnPs w' e base v ps :=
  ⟨h.1.kept hg hne, h.2⟩

theorem cellsP_snoc (ps : List (Int × Value)) (p : Int × Value) : cellsP (ps ++ [p]) = cellsP ps ++ [.int .i64 p.1, p.2] := by simp [cellsP]
section
variable {P : Program}
/-- append of one share to the call's own row. -/
theorem wpList_append_share {w : World} {ops : Array Oper} {rest : List Oper} {o : Oper} {a : Act} {Q : Exit → Act → World → Prop} (hgd : o.guard = none) (s x : Operand) (t : TypeId)
    (ho : o.op = .call { callee := .builtin .append, args := #[s, x], argTypes := #[t, t] }) (e : TypeId) (ht : P.underlying t = some (.slice e))
    (hinfo : (P.info? e).map (fun i => (i.zero, i.size, i.bytes)) = some (some (.agg #[.int .i64 0, .slice none 0 0]), 2, 32)) (base : Nat) (v : Value) (ps : List (Int × Value)) (hs : a.eval s = v) (hown : OwnPs w e base v ps)
    (ad : Addr) (c : Nat) (p : Int × Value) (hx : a.eval x = .slice (some ad) 1 c) (hz0 : w.cell? ad = some (.int .i64 p.1)) (hz1 : w.cell? (ad.add 1) = some p.2) (hi : I64 p.1) (hp : ∃ a n c, p.2 = .slice a n c) (hl : ps.length < 1000000) (hbase : base ≤ w.heap.size)
    (h : ∀ v' w', OwnPs w' e base v' (ps ++ [p]) → w.grownBy w' v.ownBlock → wpList P ops Q rest (a.put o.dst v') w') : wpList P ops Q (o :: rest) a w := by
  obtain ⟨i, hi0, hz, hs0, hb0⟩ := info_parts hinfo
  refine wpList_append_own w hgd s x t ho base e i (.agg #[.int .i64 0, .slice none 0 0]) 2 32 ht hi0 hz hs0 hb0 rfl (by decide) v ps.length (cellsP ps) hs hown.1 ad 1 c [.int .i64 p.1, p.2] hx rfl ?_ ?_ (by unfold maxLen; omega) (by omega) hbase ?_
  · intro j u hj
    match j, hj with
    | 0, hj => simp at hj; subst hj; simpa [Addr.add] using hz0
    | 1, hj => simp at hj; subst hj; exact hz1
  · intro u hu
    obtain ⟨a', n', c', e'⟩ := hp
    simp at hu
    rcases hu with rfl | rfl
    · rfl
    · rw [e']; rfl
  · intro v' w' h1 h2 _
    refine h v' w' ⟨by rw [cellsP_snoc]; simpa using h1, ?_, by simp; omega⟩ h2
    intro q hq
    rcases List.mem_append.1 hq with hq | hq
    · exact hown.2.1 q hq
    · simp at hq; subst hq; exact ⟨hi, hp⟩
end

end Go.Proofs.Ytpjlngkndofjfaa
