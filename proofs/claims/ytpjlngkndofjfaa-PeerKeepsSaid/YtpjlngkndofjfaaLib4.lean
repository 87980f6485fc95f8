/-
  Words for lists of shares: as they are read; and as the call's own, each share's numbers in a row of their own.
-/
import Derived.Test.YtpjlngkndofjfaaLib3
namespace Go.Proofs.Ytpjlngkndofjfaa
open Go.RowKit

/-- A share: its number, its numbers. -/
abbrev Sh := Int × List Int

/-- The address leads to a row of these shares, two cells each. -/
def SharesAt (w : World) (a : Option Addr) (ls : List Sh) : Prop :=
  ∀ i, i < ls.length → ∃ b off v s, a = some ⟨b, off, none⟩ ∧ w.cell? ⟨b, off + i * 2, none⟩ = some (.int .i64 s.1) ∧ w.cell? ⟨b, off + i * 2 + 1, none⟩ = some v ∧ IsInts w v s.2 ∧ ls[i]? = some s ∧ I64 s.1
def IsShares (w : World) (v : Value) (ls : List Sh) : Prop :=
  ∃ a cap, v = .slice a ls.length cap ∧ ls.length ≤ cap ∧ (ls.length ≤ 17592186044416 ∧ cap ≤ 9223372036854775807 ∧ (a = none → cap = 0)) ∧ SharesAt w a ls
theorem IsShares.opened {w : World} {v : Value} {ls : List Sh} (h : IsShares w v ls) :
    ∃ a cap, v = .slice a ls.length cap ∧ ls.length ≤ cap ∧ (ls.length ≤ 17592186044416 ∧ cap ≤ 9223372036854775807 ∧ (a = none → cap = 0)) ∧ SharesAt w a ls := h
theorem SharesAt.stays {w w' : World} {a : Option Addr} {ls : List Sh} (h : SharesAt w a ls) (hb : Below w.heap.size w w') : SharesAt w' a ls := by
  intro i hi
  obtain ⟨b, off, v, s, rfl, h1, h2, h3, h4, h5⟩ := h i hi
  have hl := cell_lt h1
  exact ⟨b, off, v, s, rfl, (hb.cell (p := ⟨b, off + i * 2, none⟩) hl).trans h1, (hb.cell (p := ⟨b, off + i * 2 + 1, none⟩) hl).trans h2, h3.stays hb, h4, h5⟩
theorem IsShares.stays {w w' : World} {v : Value} {ls : List Sh} (h : IsShares w v ls) (hb : Below w.heap.size w w') : IsShares w' v ls := by
  obtain ⟨a, cap, h1, h2, h3, h4⟩ := h
  exact ⟨a, cap, h1, h2, h3, h4.stays hb⟩
theorem IsShares.nil (w : World) : IsShares w (.slice none 0 0) [] := ⟨none, 0, rfl, Nat.le_refl _, ⟨by simp, by omega, fun _ => rfl⟩, fun i hi => by simp at hi⟩

/-- Block g is a row of n shares of the call's own (of type e), whose numbers lie in own rows (of type ei), no two of them one. f: the slices of numbers. -/
structure OwnSh (w : World) (ei e : TypeId) (base g n : Nat) (ls : List Sh) (f : Nat → Value) : Prop where
  len : ls.length = n
  top : n ≤ 1000000
  low : base ≤ g
  row : ∃ cur, w.heap[g]? = some (.cells cur e (0, 0)) ∧ cur.size = n * 2 ∧ ∀ k s, ls[k]? = some s → cur[k * 2]? = some (.int .i64 s.1) ∧ cur[k * 2 + 1]? = some (f k) ∧ I64 s.1
  own : ∀ k s, ls[k]? = some s → OwnInts w ei base (f k) s.2
  apart : ∀ j k, j < n → k < n → j ≠ k → Apart (f j) (f k)
  off : ∀ k, k < n → (f k).ownBlock ≠ some g

section
variable {w w' : World} {ei e : TypeId} {base g n : Nat} {ls : List Sh} {f : Nat → Value}
theorem OwnSh.lt (h : OwnSh w ei e base g n ls f) : g < w.heap.size := by
  obtain ⟨cur, hg, _⟩ := h.row
  exact (Array.getElem?_eq_some_iff.1 hg).1
theorem OwnSh.at (h : OwnSh w ei e base g n ls f) {k : Nat} (hk : k < n) : ∃ s, ls[k]? = some s := ⟨_, List.getElem?_eq_getElem (by rw [h.len]; exact hk)⟩
theorem OwnSh.flt (h : OwnSh w ei e base g n ls f) {k j : Nat} (hk : k < n) (hj : (f k).ownBlock = some j) : base ≤ j ∧ j < w.heap.size := by
  obtain ⟨s, hs⟩ := h.at hk
  exact (h.own k s hs).1.lt j hj
theorem OwnSh.cellN (h : OwnSh w ei e base g n ls f) {k : Nat} {s : Sh} (hs : ls[k]? = some s) : w.cell? ⟨g, k * 2, none⟩ = some (.int .i64 s.1) := by
  obtain ⟨cur, hg, _, hc⟩ := h.row
  simpa [World.cell?, hg] using (hc k s hs).1
theorem OwnSh.cellV (h : OwnSh w ei e base g n ls f) {k : Nat} {s : Sh} (hs : ls[k]? = some s) : w.cell? ⟨g, k * 2 + 1, none⟩ = some (f k) := by
  obtain ⟨cur, hg, _, hc⟩ := h.row
  simpa [World.cell?, hg] using (hc k s hs).2.1
theorem OwnSh.free (h : OwnSh w ei e base g n ls f) (i : Nat) : w.frozen? ⟨g, i, none⟩ = false := by
  obtain ⟨cur, hg, _⟩ := h.row
  simp [World.frozen?, hg]
/-- It stands while another row is written, or new blocks are made. -/
theorem OwnSh.kept (h : OwnSh w ei e base g n ls f) {row : Option Nat} (hg : w.grownBy w' row) (hne : row ≠ some g) (hf : ∀ k, k < n → (f k).ownBlock = none ∨ (f k).ownBlock ≠ row) : OwnSh w' ei e base g n ls f := by
  obtain ⟨cur, hc, hs, hcs⟩ := h.row
  refine ⟨h.len, h.top, h.low, ⟨cur, (hg.block g h.lt (fun e => hne e.symm)).trans hc, hs, hcs⟩, fun k s hs => (h.own k s hs).kept hg (hf k ?_), h.apart, h.off⟩
  rw [← h.len]
  exact (List.getElem?_eq_some_iff.1 hs).1
theorem OwnSh.stays (h : OwnSh w ei e base g n ls f) (hb : Below w.heap.size w w') : OwnSh w' ei e base g n ls f :=
  h.kept (grown_of_below hb) (by simp) (fun k _ => by cases (f k).ownBlock <;> simp)
theorem OwnSh.mono (h : OwnSh w ei e base g n ls f) {b : Nat} (hb : b ≤ base) : OwnSh w ei e b g n ls f :=
  ⟨h.len, h.top, Nat.le_trans hb h.low, h.row, fun k s hs => (h.own k s hs).mono hb, h.apart, h.off⟩
theorem OwnSh.isShares (h : OwnSh w ei e base g n ls f) : IsShares w (.slice (some ⟨g, 0, none⟩) n n) ls := by
  have hl := h.len
  have ht := h.top
  refine ⟨some ⟨g, 0, none⟩, n, by rw [hl], by omega, ⟨by omega, by omega, fun e => by cases e⟩, fun i hi => ?_⟩
  obtain ⟨s, hs⟩ := h.at (k := i) (by omega)
  obtain ⟨cur, hg, _, hc⟩ := h.row
  refine ⟨g, 0, f i, s, rfl, ?_, ?_, (h.own i s hs).isInts, hs, (hc i s hs).2.2⟩
  · simpa using h.cellN hs
  · simpa using h.cellV hs

theorem OwnSh.same (h : OwnSh w ei e base g n ls f) {k : Nat} (hk : k < n) (hg : w.grownBy w' (f k).ownBlock) : w'.heap[g]? = w.heap[g]? :=
  hg.block g h.lt (fun e => h.off k hk e.symm)

/-- Share k gets a new number and new numbers: what was appended to its row lies where it lay, or in a new block; then both cells are stored. -/
theorem OwnSh.put (h : OwnSh w ei e base g n ls f) {k : Nat} (hk : k < n) {v' : Value} {l' : List Int} {N : Int} (hN : I64 N) {top : Nat} (htop : w.heap.size ≤ top) (hg : w.grownBy w' (f k).ownBlock)
    (ho : OwnInts w' ei base v' l') (hat : v'.ownBlock = (f k).ownBlock ∨ v'.ownBlock = some top) :
    OwnSh ((w'.setCell ⟨g, k * 2, none⟩ (.int .i64 N)).setCell ⟨g, k * 2 + 1, none⟩ v') ei e base g n (ls.set k (N, l')) (fun j => if j = k then v' else f j) := by
  have hgl := h.lt
  have hvg : v'.ownBlock ≠ some g := by
    intro e
    rcases hat with hat | hat
    · exact h.off k hk (hat ▸ e)
    · rw [hat] at e; cases e; omega
  have hgk : w'.heap[g]? = w.heap[g]? := hg.block g hgl (fun e => h.off k hk e.symm)
  have hl := h.len
  obtain ⟨cur, hc, hs, hcs⟩ := h.row
  have hw3 : ((w'.setCell ⟨g, k * 2, none⟩ (.int .i64 N)).setCell ⟨g, k * 2 + 1, none⟩ v').heap[g]? = some (.cells ((cur.setIfInBounds (k * 2) (.int .i64 N)).setIfInBounds (k * 2 + 1) v') e (0, 0)) := by
    have e1 : w'.heap[g]? = some (.cells cur e (0, 0)) := hgk.trans hc
    have e2 := heap_setCell_same w' g (k * 2) cur e (.int .i64 N) e1
    exact heap_setCell_same _ g (k * 2 + 1) _ e v' e2
  have hgrow : w'.grownBy ((w'.setCell ⟨g, k * 2, none⟩ (.int .i64 N)).setCell ⟨g, k * 2 + 1, none⟩ v') (some g) :=
    (grown_setCell w' ⟨g, k * 2, none⟩ (.int .i64 N)).trans (grown_setCell _ ⟨g, k * 2 + 1, none⟩ v')
  refine ⟨by simpa using hl, h.top, h.low, ⟨_, hw3, by simpa using hs, ?_⟩, ?_, ?_, ?_⟩
  · intro j s hj
    rw [List.getElem?_set] at hj
    by_cases hjk : k = j
    · subst hjk
      rw [if_pos rfl, if_pos (by omega)] at hj
      cases hj
      refine ⟨?_, ?_, hN⟩
      · rw [Array.getElem?_setIfInBounds, if_neg (by omega), Array.getElem?_setIfInBounds, if_pos rfl, if_pos (by omega)]
      · rw [Array.getElem?_setIfInBounds, if_pos rfl, if_pos (by simp; omega), if_pos rfl]
    · rw [if_neg hjk] at hj
      obtain ⟨h1, h2, h3⟩ := hcs j s hj
      refine ⟨?_, ?_, h3⟩
      · rw [Array.getElem?_setIfInBounds, if_neg (by omega), Array.getElem?_setIfInBounds, if_neg (by omega)]; exact h1
      · rw [Array.getElem?_setIfInBounds, if_neg (by omega), Array.getElem?_setIfInBounds, if_neg (by omega), if_neg (fun e => hjk e.symm)]; exact h2
  · intro j s hj
    rw [List.getElem?_set] at hj
    by_cases hjk : k = j
    · subst hjk
      rw [if_pos rfl, if_pos (by omega)] at hj
      cases hj
      rw [if_pos rfl]
      exact ho.kept hgrow (Or.inr hvg)
    · rw [if_neg hjk] at hj
      rw [if_neg (fun e => hjk e.symm)]
      have hjn : j < n := by rw [← hl]; exact (List.getElem?_eq_some_iff.1 hj).1
      exact ((h.own j s hj).kept hg (h.apart k j hk hjn hjk).ne).kept hgrow (by
        cases hfj : (f j).ownBlock with
        | none => exact Or.inl rfl
        | some b => exact Or.inr fun e => h.off j hjn (hfj.trans e))
  · intro i j hi hj hij
    by_cases hik : i = k
    · subst hik
      rw [if_pos rfl, if_neg (fun e => hij e.symm)]
      exact Apart.grown (h.apart i j hi hj hij) hat (fun b hb => Nat.lt_of_lt_of_le (h.flt hj hb).2 htop)
    · rw [if_neg hik]
      by_cases hjk : j = k
      · subst hjk
        rw [if_pos rfl]
        exact (Apart.grown (h.apart j i hj hi (fun e => hij e.symm)) hat (fun b hb => Nat.lt_of_lt_of_le (h.flt hi hb).2 htop)).symm
      · rw [if_neg hjk]
        exact h.apart i j hi hj hij
  · intro j hj
    by_cases hjk : j = k
    · rw [if_pos hjk]; exact hvg
    · rw [if_neg hjk]; exact h.off j hj
end

section
variable {P : Program}
/-- 'make([]Share, n)' at the operation. -/
theorem wpList_make_shares {w : World} {ops : Array Oper} {rest : List Oper} {o : Oper} {a : Act} {Q : Exit → Act → World → Prop} (hg : o.guard = none) (l c : Operand) (t : TypeId) (hop : o.op = Op.makeSlice t l c) (ei e : TypeId)
    (ht : P.underlying t = some (.slice e)) (hinfo : (P.info? e).map (fun i => (i.zero, i.size, i.bytes)) = some (some (.agg #[.int .i64 0, .slice none 0 0]), 2, 32)) (base : Nat) (L : Int) (n : Nat) (hl : a.eval l = .int .i64 L) (hc : a.eval c = .int .i64 L) (hL : L = (n : Int))
    (hn : n ≤ 1000000) (hb : base ≤ w.heap.size)
    (hK : ∀ w', OwnSh w' ei e base w.heap.size n (List.replicate n (0, [])) (fun _ => .slice none 0 0) → w.grownBy w' none → wpList P ops Q rest (a.put o.dst (.slice (some ⟨w.heap.size, 0, none⟩) n n)) w') :
    wpList P ops Q (o :: rest) a w := by
  obtain ⟨i, hi0, hz0, hs0, hb0⟩ := info_parts hinfo
  refine wpList_make_full w hg l c t hop base e i _ 2 ht hi0 hz0 hs0 .i64 .i64 L L n hl hc hL hL (by rw [hb0]; omega) (by unfold maxLen; omega) hb ?_
  intro w' h1 h2
  refine hK w' ?_ h2
  rcases h1.2 with ⟨e1, _⟩ | ⟨g, cap, cur, e1, hbg, hgg, _, _, hcs, htk⟩
  · simp at e1
  · simp only [Value.slice.injEq, Option.some.injEq, Addr.mk.injEq, and_true] at e1
    obtain ⟨rfl, _, rfl⟩ := e1
    have hcur : ∀ j, j < n * 2 → cur[j]? = (madeCells (Value.agg #[.int .i64 0, .slice none 0 0]).cells (n * 2))[j]? := by
      intro j hj
      have := congrArg (fun l => l[j]?) htk
      simp only [List.getElem?_take, if_pos hj] at this
      simpa using this
    refine ⟨by simp, hn, hb, ⟨cur, hgg, hcs, ?_⟩, ?_, ?_, ?_⟩
    · intro k s hs
      have hk : k < n := by have := (List.getElem?_eq_some_iff.1 hs).1; simpa using this
      rw [List.getElem?_replicate, if_pos hk] at hs
      cases hs
      refine ⟨?_, ?_, ⟨by omega, by omega⟩⟩
      · rw [hcur _ (by omega)]
        simp [madeCells, Value.cells, show k * 2 < n * 2 by omega]
      · rw [hcur _ (by omega)]
        simp [madeCells, Value.cells, show k * 2 + 1 < n * 2 by omega]
    · intro k s hs
      have hk : k < n := by have := (List.getElem?_eq_some_iff.1 hs).1; simpa using this
      rw [List.getElem?_replicate, if_pos hk] at hs
      cases hs
      exact OwnInts.nil _ _ _
    · intro j k _ _ _
      exact Apart.nil_l _ _ _
    · intro k _ h
      simp [Value.ownBlock] at h
end
end Go.Proofs.Ytpjlngkndofjfaa
