/-
  Words for how lists lie in memory, and laws for a set that a call makes: over any program.
-/
import Derived.WalkKit
import Derived.WalkSpells
import Derived.WalkLawsBesides
import Derived.Lib.Hide
import Derived.Maps.OwnOps
import Derived.Maps.OwnSet
import Derived.Maps.Views
import Derived.Laws.AppendOwnNone
namespace Go.Proofs.Ytpjlngkndofjfaa
open Go.RowKit

theorem ret_int {a b : Int} (h : a = b) : Ending.returned (.int .i64 a) = .returned (.int .i64 b) := by rw [h]
theorem ret_bool {a b : Bool} (h : a = b) : Ending.returned (.bool a) = .returned (.bool b) := by rw [h]
theorem ret_pair {a b c d : Int} (h : a = b) (g : c = d) : Ending.returned (.tuple #[.int .i64 a, .int .i64 c]) = .returned (.tuple #[.int .i64 b, .int .i64 d]) := by rw [h, g]

theorem drop_get {α : Type} {l : List α} {k : Nat} {z : α} (h : l[k]? = some z) : l.drop k = z :: l.drop (k + 1) := by
  obtain ⟨hk, rfl⟩ := List.getElem?_eq_some_iff.1 h
  exact List.drop_eq_getElem_cons hk
theorem take_get {α : Type} {l : List α} {k : Nat} {z : α} (h : l[k]? = some z) : l.take (k + 1) = l.take k ++ [z] := by
  obtain ⟨hk, rfl⟩ := List.getElem?_eq_some_iff.1 h
  exact List.take_succ_eq_append_getElem hk

/-- What is stored where it stands already leaves the world as it was. -/
theorem setCell_same {w : World} {a : Addr} {v : Value} (h : w.cell? a = some v) : w.setCell a v = w := by
  have hm : (w.setCell a v).heap = w.heap := by
    apply Array.ext_getElem?
    intro i
    unfold World.setCell
    dsimp only
    rw [Array.getElem?_modify]
    split
    · rename_i hi
      subst hi
      cases hb : w.heap[a.block]? with
      | none => simp [World.cell?, hb] at h
      | some o =>
        cases o with
        | cells cs t z =>
          simp only [World.cell?, hb] at h
          cases hs : a.spot with
          | some s => simp
          | none =>
            simp only [Option.map_some, Option.isSome_none, Bool.false_eq_true, if_false, Option.some.injEq]
            congr 1
            apply Array.ext_getElem?
            intro j
            rw [Array.getElem?_setIfInBounds]
            split
            · rename_i hj
              subst hj
              simp [hs] at h
              split
              · exact h.symm
              · rename_i hn
                rw [Array.getElem?_eq_none (by omega)] at h
                cases h
            · rfl
        | _ => simp
    · rfl
  show ({ w with heap := (w.setCell a v).heap } : World) = w
  rw [hm]

/-- An int of 64 bits. -/
def I64 (n : Int) : Prop := -9223372036854775808 ≤ n ∧ n ≤ 9223372036854775807

/-- Is it among them? -/
def memB (x : Int) (l : List Int) : Bool := decide (x ∈ l)

/-- The value is this int. -/
def IsInt (v : Value) (x : Int) : Prop := v = .int .i64 x ∧ I64 x

/-- Are two lists of ints one? -/
def eqInts (x y : List Int) : Bool := decide (x = y)

/-- The address leads to a row of these numbers (none is asked for where the list is empty). -/
def IntsAt (w : World) (a : Option Addr) (l : List Int) : Prop :=
  ∀ i, i < l.length → ∃ b off z, a = some ⟨b, off, none⟩ ∧ w.cell? ⟨b, off + i, none⟩ = some (.int .i64 z) ∧ l[i]? = some z ∧ I64 z

/-- The value is a slice of these numbers. -/
def IsInts (w : World) (v : Value) (l : List Int) : Prop :=
  ∃ a cap, v = .slice a l.length cap ∧ l.length ≤ cap ∧ (l.length ≤ 17592186044416 ∧ cap ≤ 9223372036854775807 ∧ (a = none → cap = 0)) ∧ IntsAt w a l

theorem IsInts.opened {w : World} {v : Value} {l : List Int} (h : IsInts w v l) :
    ∃ a cap, v = .slice a l.length cap ∧ l.length ≤ cap ∧ (l.length ≤ 17592186044416 ∧ cap ≤ 9223372036854775807 ∧ (a = none → cap = 0)) ∧ IntsAt w a l := h

theorem cell_lt {w : World} {a : Addr} {v : Value} (h : w.cell? a = some v) : a.block < w.heap.size := by
  rcases Nat.lt_or_ge a.block w.heap.size with h' | h'
  · exact h'
  · simp [World.cell?, Array.getElem?_eq_none h'] at h

theorem IntsAt.below {B : Nat} {w w' : World} {a : Option Addr} {l : List Int} (h : IntsAt w a l) (hb : Below B w w') (hB : ∀ x, a = some x → l ≠ [] → x.block < B) : IntsAt w' a l := by
  intro i hi
  obtain ⟨b, off, z, rfl, hc, hz⟩ := h i hi
  have hne : l ≠ [] := by intro e; subst e; simp at hi
  exact ⟨b, off, z, rfl, (hb.cell (p := ⟨b, off + i, none⟩) (hB ⟨b, off, none⟩ rfl hne)).trans hc, hz⟩

theorem IntsAt.lt {w : World} {a : Option Addr} {l : List Int} (h : IntsAt w a l) : ∀ x, a = some x → l ≠ [] → x.block < w.heap.size := by
  intro x hx hne
  have hl : 0 < l.length := List.length_pos_iff.2 hne
  obtain ⟨b, off, z, rfl, hc, _⟩ := h 0 hl
  cases hx
  exact cell_lt hc

theorem IntsAt.stays {w w' : World} {a : Option Addr} {l : List Int} (h : IntsAt w a l) (hb : Below w.heap.size w w') : IntsAt w' a l := h.below hb h.lt
theorem IsInts.stays {w w' : World} {v : Value} {l : List Int} (h : IsInts w v l) (hb : Below w.heap.size w w') : IsInts w' v l := by
  obtain ⟨a, cap, h1, h2, h3, h4⟩ := h
  exact ⟨a, cap, h1, h2, h3, h4.stays hb⟩

theorem IsInts.nil (w : World) : IsInts w (.slice none 0 0) [] := ⟨none, 0, rfl, Nat.le_refl _, ⟨by simp, by omega, fun _ => rfl⟩, fun i hi => by simp at hi⟩

/-- A list that has just been laid down. -/
theorem IsInts.fresh (w : World) (T : TypeId) (l : List Int) (hl : l.length ≤ 17592186044416) (hb : ∀ x ∈ l, I64 x) (n : Nat) (hn : n = w.heap.size) :
    IsInts (w.alloc (.cells (l.map (Value.int .i64)).toArray T)) (.slice (some ⟨n, 0, none⟩) l.length l.length) l := by
  subst hn
  refine ⟨_, _, rfl, Nat.le_refl _, ⟨hl, by omega, fun e => by cases e⟩, fun i hi => ⟨_, _, l[i], rfl, ?_, by simp [hi], hb _ (List.getElem_mem hi)⟩⟩
  unfold World.cell? World.alloc
  simp [hi]
theorem wfNums (l : List Int) (h : l.all (fun x => decide (0 ≤ x) && decide (x ≤ 1000)) = true) : ∀ x ∈ l, I64 x := by
  intro x hx
  have := List.all_eq_true.1 h x hx
  simp at this
  unfold I64
  omega
theorem below_alloc (w : World) (o : Obj) : Below w.heap.size w (w.alloc o) := (Below.refl _ _).alloc (Nat.le_refl _) o

/-! ### A slice of ints that the call owns -/

/-- The value is a slice of these numbers (of type e), in a block of the call's own (from base on). -/
def OwnInts (w : World) (e : TypeId) (base : Nat) (v : Value) (l : List Int) : Prop :=
  w.ownsRow base e 1 v l.length (l.map (Value.int .i64)) ∧ (∀ x ∈ l, I64 x) ∧ l.length ≤ 17592186044416

theorem OwnInts.nil (w : World) (e : TypeId) (base : Nat) : OwnInts w e base (.slice none 0 0) [] := ⟨World.ownsRow_nil _ _ _ _, by simp, by simp⟩
theorem OwnInts.isInts {w : World} {e : TypeId} {base : Nat} {v : Value} {l : List Int} (h : OwnInts w e base v l) : IsInts w v l := by
  obtain ⟨h, hb, hl⟩ := h
  rcases h.2 with ⟨rfl, hn⟩ | ⟨g, cap, cur, rfl, _, _, hnc, hcm, _⟩
  · have : l = [] := List.eq_nil_of_length_eq_zero hn
    subst this
    exact IsInts.nil w
  · refine ⟨_, cap, rfl, hnc, ⟨hl, hcm, fun e => by cases e⟩, fun i hi => ⟨g, 0, l[i], rfl, ?_, by simp [hi], hb _ (List.getElem_mem hi)⟩⟩
    rw [World.ownsRow.cellAt h (0 + i) (by omega)]
    simp [hi]
theorem OwnInts.kept {w w' : World} {e : TypeId} {base : Nat} {v : Value} {l : List Int} {row : Option Nat} (h : OwnInts w e base v l) (hg : w.grownBy w' row) (hne : v.ownBlock = none ∨ v.ownBlock ≠ row) : OwnInts w' e base v l :=
  ⟨h.1.kept hg hne, h.2⟩
theorem grown_of_below {w w' : World} (h : Below w.heap.size w w') : w.grownBy w' none := ⟨h.os, h.tape, h.output, h.size, fun k hk _ => h.block k hk⟩
theorem OwnInts.stays {w w' : World} {e : TypeId} {base : Nat} {v : Value} {l : List Int} (h : OwnInts w e base v l) (hb : Below w.heap.size w w') : OwnInts w' e base v l :=
  h.kept (grown_of_below hb) (by cases v.ownBlock <;> simp)
theorem OwnInts.mono {w : World} {e : TypeId} {base base' : Nat} {v : Value} {l : List Int} (h : OwnInts w e base v l) (hb : base' ≤ base) : OwnInts w e base' v l := by
  obtain ⟨⟨h1, h2⟩, h3⟩ := h
  refine ⟨⟨h1, ?_⟩, h3⟩
  rcases h2 with h2 | ⟨g, cap, cur, h4, h5, h6⟩
  · exact .inl h2
  · exact .inr ⟨g, cap, cur, h4, Nat.le_trans hb h5, h6⟩
/-- What grew, but for the call's own row, is below what it was. -/
theorem below_own {B : Nat} {W w w' : World} {e : TypeId} {v : Value} {l : List Int} (h : Below B W w) (ho : OwnInts w e B v l) (hg : w.grownBy w' v.ownBlock) (hB : B ≤ w.heap.size) : Below B W w' :=
  h.grown hg hB fun k hk => (ho.1.lt k hk).1

section
variable {P : Program}
/-- 'make([]int, n)' at the operation. -/
theorem wpList_make_ints {w : World} {ops : Array Oper} {rest : List Oper} {o : Oper} {a : Act} {Q : Exit → Act → World → Prop} (hg : o.guard = none) (l c : Operand) (t : TypeId) (hop : o.op = Op.makeSlice t l c) (e : TypeId)
    (ht : P.underlying t = some (.slice e)) (hinfo : (P.info? e).map (fun i => (i.zero, i.size, i.bytes)) = some (some (.int .i64 0), 1, 8)) (base : Nat) (L : Int) (n : Nat) (hl : a.eval l = .int .i64 L) (hc : a.eval c = .int .i64 L) (hL : L = (n : Int))
    (hn : n ≤ 17592186044416) (hb : base ≤ w.heap.size)
    (hK : ∀ w', OwnInts w' e base (.slice (some ⟨w.heap.size, 0, none⟩) n n) (List.replicate n 0) → w.grownBy w' none → wpList P ops Q rest (a.put o.dst (.slice (some ⟨w.heap.size, 0, none⟩) n n)) w') :
    wpList P ops Q (o :: rest) a w := by
  obtain ⟨i, hi0, hz0, hs0, hb0⟩ := info_parts hinfo
  refine wpList_make_full w hg l c t hop base e i (.int .i64 0) 1 ht hi0 hz0 hs0 .i64 .i64 L L n hl hc hL hL (by rw [hb0]; omega) (by unfold maxLen; omega) hb ?_
  intro w' h1 h2
  refine hK w' ⟨?_, by intro x hx; rw [List.eq_of_mem_replicate hx]; exact ⟨by omega, by omega⟩, by simpa using hn⟩ h2
  simp only [List.length_replicate, List.map_replicate]
  have e1 : (madeCells (Value.int .i64 0).cells (n * 1)).toList = List.replicate n (.int .i64 0) := by rw [Nat.mul_one]; exact toList_madeCells_one _ _
  rw [← e1]
  exact h1
theorem set_fill {α : Type} (p : List α) (m : Nat) (y z : α) : (p ++ List.replicate (m + 1) y).set p.length z = p ++ [z] ++ List.replicate m y := by
  simp [List.set_append_right, List.replicate_succ]
theorem grown_setCell (w : World) (a : Addr) (v : Value) : w.grownBy (w.setCell a v) (some a.block) :=
  ⟨rfl, rfl, rfl, by simp, fun j _ hne => Below.heap_setCell _ _ _ _ (by intro e; exact hne (by rw [e]))⟩
theorem fill_step {f : Int → Int} {x : List Int} {k : Nat} {z : Int} (h : x.take (k + 1) = x.take k ++ [z]) (hk : k < x.length) :
    ((x.take k).map f ++ List.replicate (x.length - k) 0).set k (f z) = (x.take (k + 1)).map f ++ List.replicate (x.length - (k + 1)) 0 := by
  have e := set_fill ((x.take k).map f) (x.length - (k + 1)) 0 (f z)
  rw [show ((x.take k).map f).length = k by simp; omega, show x.length - (k + 1) + 1 = x.length - k by omega] at e
  rw [e, h]
  simp

/-- 'append(v, z)' at the operation: z stands in a block of its own. -/
theorem wpList_append_int {w : World} {ops : Array Oper} {rest : List Oper} {o : Oper} {a : Act} {Q : Exit → Act → World → Prop} (hgd : o.guard = none) (s x : Operand) (t : TypeId)
    (ho : o.op = .call { callee := .builtin .append, args := #[s, x], argTypes := #[t, t] }) (e : TypeId) (ht : P.underlying t = some (.slice e))
    (hinfo : (P.info? e).map (fun i => (i.zero, i.size, i.bytes)) = some (some (.int .i64 0), 1, 8)) (base : Nat) (v : Value) (l : List Int) (hs : a.eval s = v) (hown : OwnInts w e base v l)
    (ad : Addr) (c : Nat) (z : Int) (hx : a.eval x = .slice (some ad) 1 c) (hz : w.cell? ad = some (.int .i64 z)) (hi : I64 z) (hl : l.length < 17592186044416) (hbase : base ≤ w.heap.size)
    (h : ∀ v' w', OwnInts w' e base v' (l ++ [z]) → w.grownBy w' v.ownBlock → wpList P ops Q rest (a.put o.dst v') w') : wpList P ops Q (o :: rest) a w := by
  obtain ⟨i, hi0, hz0, hs0, hb0⟩ := info_parts hinfo
  refine wpList_append_own w hgd s x t ho base e i (.int .i64 0) 1 8 ht hi0 hz0 hs0 hb0 rfl (by decide) v l.length (l.map (Value.int .i64)) hs hown.1 ad 1 c [.int .i64 z] hx rfl ?_ ?_ (by unfold maxLen; omega) (by omega) hbase ?_
  · intro j u hj
    match j, hj with
    | 0, hj => simp at hj; subst hj; simpa [Addr.add] using hz
  · intro u hu; simp at hu; subst hu; rfl
  · intro v' w' h1 h2 _
    refine h v' w' ⟨by simpa using h1, ?_, by simp; omega⟩ h2
    intro y hy
    simp at hy
    rcases hy with hy | rfl
    · exact hown.2.1 y hy
    · exact hi
/-- 'append(v, src...)' at the operation. -/
theorem wpList_append_ints {w : World} {ops : Array Oper} {rest : List Oper} {o : Oper} {a : Act} {Q : Exit → Act → World → Prop} (hgd : o.guard = none) (s x : Operand) (t : TypeId)
    (ho : o.op = .call { callee := .builtin .append, args := #[s, x], argTypes := #[t, t] }) (e : TypeId) (ht : P.underlying t = some (.slice e))
    (hinfo : (P.info? e).map (fun i => (i.zero, i.size, i.bytes)) = some (some (.int .i64 0), 1, 8)) (base : Nat) (v : Value) (l : List Int) (hs : a.eval s = v) (hown : OwnInts w e base v l)
    (r : List Int) (sv : Value) (hx : a.eval x = sv) (hr : IsInts w sv r) (hl : l.length + r.length ≤ 17592186044416) (hbase : base ≤ w.heap.size)
    (h : ∀ v' w', OwnInts w' e base v' (l ++ r) → w.grownBy w' v.ownBlock → wpList P ops Q rest (a.put o.dst v') w') : wpList P ops Q (o :: rest) a w := by
  obtain ⟨i, hi0, hz0, hs0, hb0⟩ := info_parts hinfo
  obtain ⟨ar, cr, rfl, hcr, hmr, hr⟩ := hr
  cases ar with
  | none =>
    have hr0 : r = [] := by
      cases r with
      | nil => rfl
      | cons y r => obtain ⟨b, off, z, e1, _⟩ := hr 0 (by simp); cases e1
    subst hr0
    have hc0 : cr = 0 := hmr.2.2 rfl
    subst hc0
    refine wpList_append_own_none hgd s x t ho base e i 1 ht hi0 v l.length (l.map (Value.int .i64)) hs hown.1 hx ?_
    exact h v w (by simpa using hown) ⟨rfl, rfl, rfl, Nat.le_refl _, fun _ _ _ => rfl⟩
  | some ad =>
    refine wpList_append_own w hgd s x t ho base e i (.int .i64 0) 1 8 ht hi0 hz0 hs0 hb0 rfl (by decide) v l.length (l.map (Value.int .i64)) hs hown.1 ad r.length cr (r.map (Value.int .i64)) hx (by simp) ?_ ?_ (by unfold maxLen; omega) (by omega) hbase ?_
    · intro j u hj
      have hjl : j < r.length := by
        rcases Nat.lt_or_ge j r.length with h' | h'
        · exact h'
        · simp [List.getElem?_eq_none h'] at hj
      obtain ⟨b, off, z, e1, hc, hz, _⟩ := hr j hjl
      cases e1
      simp [hz] at hj
      subst hj
      have : (⟨b, off, none⟩ : Addr).add j = ⟨b, off + j, none⟩ := by unfold Addr.add; split <;> simp_all
      rw [this]; exact hc
    · intro u hu
      obtain ⟨y, _, rfl⟩ := List.mem_map.1 hu
      rfl
    · intro v' w' h1 h2 _
      refine h v' w' ⟨by simpa using h1, ?_, by simp; omega⟩ h2
      intro y hy
      simp at hy
      rcases hy with hy | hy
      · exact hown.2.1 y hy
      · obtain ⟨j, hj, rfl⟩ := List.getElem_of_mem hy
        obtain ⟨b, off, z, e1, hc, hz, hi⟩ := hr j hj
        simp [hj] at hz
        rw [hz]; exact hi
end

/-- An own row of ints that is not empty: where it lies. -/
theorem OwnInts.shape {w : World} {e : TypeId} {base : Nat} {v : Value} {l : List Int} (h : OwnInts w e base v l) (hl : 1 ≤ l.length) :
    ∃ g cap, v = .slice (some ⟨g, 0, none⟩) l.length cap ∧ base ≤ g ∧ g < w.heap.size ∧ l.length ≤ cap ∧ cap ≤ 9223372036854775807 := by
  rcases h.1.2 with ⟨rfl, hn⟩ | ⟨g, cap, cur, rfl, hb, hg, hnc, hcm, _⟩
  · omega
  · exact ⟨g, cap, rfl, hb, (Array.getElem?_eq_some_iff.1 hg).1, hnc, hcm⟩
theorem OwnInts.cell {w : World} {e : TypeId} {base g n cap : Nat} {l : List Int} (h : OwnInts w e base (.slice (some ⟨g, 0, none⟩) n cap) l) (i : Nat) (hi : i < l.length) : w.cell? ⟨g, i, none⟩ = some (.int .i64 (l.getD i 0)) := by
  have hn : n = l.length := by
    rcases h.1.2 with ⟨h', _⟩ | ⟨g', cap', cur, h', _⟩
    · simp at h'
    · simp at h'; exact h'.2.1
  subst hn
  rw [World.ownsRow.cellAt h.1 i (by omega)]
  simp [hi]
theorem OwnInts.free {w : World} {e : TypeId} {base g n cap : Nat} {l : List Int} (h : OwnInts w e base (.slice (some ⟨g, 0, none⟩) n cap) l) (i : Nat) : w.frozen? ⟨g, i, none⟩ = false := by
  have hn : n = l.length := by
    rcases h.1.2 with ⟨h', _⟩ | ⟨g', cap', cur, h', _⟩
    · simp at h'
    · simp at h'; exact h'.2.1
  subst hn
  exact World.ownsRow.frozenAt h.1 i
theorem OwnInts.stored {w : World} {e : TypeId} {base g n cap : Nat} {l : List Int} (h : OwnInts w e base (.slice (some ⟨g, 0, none⟩) n cap) l) (i : Nat) (z : Int) (hz : I64 z) :
    OwnInts (w.setCell ⟨g, i, none⟩ (.int .i64 z)) e base (.slice (some ⟨g, 0, none⟩) n cap) (l.set i z) := by
  have hn : n = l.length := by
    rcases h.1.2 with ⟨h', _⟩ | ⟨g', cap', cur, h', _⟩
    · simp at h'
    · simp at h'; exact h'.2.1
  subst hn
  have hs := (World.ownsRow.stored h.1 i (.int .i64 z)).1
  refine ⟨by simpa [List.map_set] using hs, ?_, by simpa using h.2.2⟩
  intro y hy
  rcases List.mem_or_eq_of_mem_set hy with h' | rfl
  · exact h.2.1 y h'
  · exact hz

/-- From W on nothing below block g has changed, and there are g blocks at least. -/
def Since (g : Nat) (W w : World) : Prop := Below g W w ∧ g ≤ w.heap.size
theorem Since.refl (W : World) : Since W.heap.size W W := ⟨Below.refl _ _, Nat.le_refl _⟩
theorem Since.below {g : Nat} {W w : World} (h : Since g W w) : Below g W w := h.1
theorem Since.step {g : Nat} {W w w' : World} (h : Since g W w) (hb : Below w.heap.size w w') : Since g W w' := ⟨h.1.trans (hb.mono h.2), Nat.le_trans h.2 hb.size⟩
theorem Since.drew {g : Nat} {W w : World} (h : Since g W w) : Since g W w.drew := ⟨h.1.drew, h.2⟩
theorem Since.alloc {g : Nat} {W w : World} (h : Since g W w) (o : Obj) : Since g W (w.alloc o) := h.step (below_alloc w o)
theorem Since.grown {g : Nat} {W w w' : World} {row : Option Nat} (h : Since g W w) (hg : w.grownBy w' row) (hr : ∀ k, row = some k → g ≤ k) : Since g W w' := ⟨h.1.grown hg h.2 hr, Nat.le_trans h.2 hg.size⟩
theorem Since.own {g : Nat} {W w w' : World} {e : TypeId} {v : Value} {l : List Int} (h : Since g W w) (ho : OwnInts w e g v l) (hg : w.grownBy w' v.ownBlock) : Since g W w' := h.grown hg fun k hk => (ho.1.lt k hk).1
theorem Since.setCell {g : Nat} {W w : World} (h : Since g W w) {a : Addr} (ha : g ≤ a.block) (v : Value) : Since g W (w.setCell a v) := ⟨h.1.setCell ha v, by simpa using h.2⟩

/-! ### A set of ints that the call makes: a map of bools, all of them true -/
section
open Go.Maps
variable {P : Program} {k e t : TypeId}

/-- Block b is a map in which just these numbers stand (as they were stored, one after the other). -/
def OwnsSet (P : Program) (k e : TypeId) (w : World) (b : Nat) (l : List Int) : Prop :=
  w.ownsMap (H := Unit) P k (plainElem P e) b l.length (setOf (.lit (.bool true)) (l.map fun x => .int .i64 x))

theorem OwnsSet.made (w : World) : OwnsSet P k e (w.alloc (.map #[] 0)) w.heap.size [] := World.ownsMap_made w P k _
theorem OwnsSet.lt {w : World} {b : Nat} {l : List Int} (h : OwnsSet P k e w b l) : b < w.heap.size := World.ownsMap.lt h
theorem OwnsSet.block {w w' : World} {b : Nat} {l : List Int} (h : OwnsSet P k e w b l) (hb : w'.heap[b]? = w.heap[b]?) : OwnsSet P k e w' b l := by
  obtain ⟨es, clock, h1, h2, h3, h4⟩ := h
  exact ⟨es, clock, hb.trans h1, h2, h3, h4⟩
theorem OwnsSet.below {w w' : World} {b : Nat} {l : List Int} (h : OwnsSet P k e w b l) (hb : Below w.heap.size w w') : OwnsSet P k e w' b l := h.block (hb.block b h.lt)

theorem keyLit_int (x : Int) : WideAt.IsKeyLit (.int .i64 x) := by simp [WideAt.IsKeyLit]
theorem keyLit_ints (l : List Int) : ∀ y ∈ l.map (fun x => Lit.int .i64 x), WideAt.IsKeyLit y := by
  intro y hy
  obtain ⟨z, _, rfl⟩ := List.mem_map.1 hy
  exact keyLit_int z

theorem atKey_setOf (u z : DataW Unit) (x : Int) (l : List Int) :
    (setOf u (l.map fun x => .int .i64 x)).atKey (.int .i64 x) z = if x ∈ l then u else z := by
  suffices h : ∀ r : List Int, (setOf u (r.reverse.map fun x => Lit.int .i64 x)).atKey (.int .i64 x) z = if x ∈ r then u else z by
    have := h l.reverse
    simpa using this
  intro r
  induction r with
  | nil => simp [setOf, DataW.atKey]
  | cons y r ih =>
    rw [List.reverse_cons, List.map_append, List.map_singleton, setOf_snoc]
    by_cases hxy : x = y
    · subst hxy
      rw [atKey_put_same (tidy_setOf u _ (keyLit_ints _)).isMap (keyLit_int x)]
      simp
    · rw [atKey_put_other (by intro hh; cases hh; exact hxy rfl), ih]
      simp [hxy]

theorem I64.wf {x : Int} (h : I64 x) : (Lit.int .i64 x).wf = true := WalkArith.wf_i64 h

theorem OwnsSet.lookup {w : World} {b : Nat} {l : List Int} (h : OwnsSet P k e w b l) (hk : P.underlying k = some (.int .i64)) (he : P.underlying e = some .bool) (ht : P.underlying t = some (.map k e))
    (hz : (zeroValue e).run P w = .ok (.bool false) w) (x : Int) (hx : I64 x) :
    (Instr.lookup t (.map (some b)) (.int .i64 x) false).run P w = .ok (.bool (decide (x ∈ l))) w := by
  have hkey : keyOf P k (.int .i64 x) = some (.int .i64 x) := by simp [keyOf, mapKey, hk, hx.wf]
  obtain ⟨v, ps, hrun, hv⟩ := World.ownsMap.lookup h (int_keyed hk) ht hz (plainElem_bool he false) hkey
  rw [hrun]
  rw [atKey_setOf] at hv
  have : v = .bool (decide (x ∈ l)) := by
    by_cases hx : x ∈ l
    · rw [if_pos hx] at hv
      cases v <;> simp [plainElem, he] at hv
      simp [hx, hv]
    · rw [if_neg hx] at hv
      cases v <;> simp [plainElem, he] at hv
      simp [hx, hv]
  rw [this]

/-- 'm[x]' at the operation. -/
theorem wpList_lookup_set (w : World) {ops : Array Oper} {rest : List Oper} {o : Oper} {a : Act} {Q : Exit → Act → World → Prop}
    (hg : o.guard = none) (m x : Operand) (t : TypeId) (hop : o.op = Op.lookup t m x false)
    (hk : P.underlying k = some (.int .i64)) (he : P.underlying e = some .bool) (ht : P.underlying t = some (.map k e)) (hz : (zeroValue e).run P w = .ok (.bool false) w) (b : Nat) (l : List Int)
    (hm : a.eval m = .map (some b)) (hown : OwnsSet P k e w b l) (key : Int) (hx : a.eval x = .int .i64 key) (hi : I64 key) (c : Bool) (hc : decide (key ∈ l) = c)
    (hK : wpList P ops Q rest (a.put o.dst (.bool c)) w) :
    wpList P ops Q (o :: rest) a w := by
  refine wpList_plain hg fun K' hK' => ?_
  have hrun := hown.lookup hk he ht hz key hi
  rw [hc] at hrun
  unfold Oper.wp
  simp [execOp, hop, hm, hx, hrun, Result.andThen]
  exact hK' _ _ hK

/-- 'm[x] = true' at the operation. -/
theorem wpList_store_set (w : World) {ops : Array Oper} {rest : List Oper} {o : Oper} {a : Act} {Q : Exit → Act → World → Prop}
    (hg : o.guard = none) (m x v : Operand) (t : TypeId) (hop : o.op = Op.mapUpdate t m x v)
    (hk : P.underlying k = some (.int .i64)) (he : P.underlying e = some .bool) (ht : P.underlying t = some (.map k e)) (b : Nat) (l : List Int)
    (hm : a.eval m = .map (some b)) (hown : OwnsSet P k e w b l) (hn : l.length < 1000000000000000) (key : Int) (hx : a.eval x = .int .i64 key) (hv : a.eval v = .bool true) (hi : I64 key)
    (hK : ∀ w', OwnsSet P k e w' b (l ++ [key]) → w.grownBy w' (some b) → wpList P ops Q rest (a.put o.dst undef) w') :
    wpList P ops Q (o :: rest) a w := by
  have hkey : keyOf P k (.int .i64 key) = some (.int .i64 key) := by simp [keyOf, mapKey, hk, hi.wf]
  refine wpList_mapUpdate_own w hg m x v t hop k e (int_keyed hk) ht (plainElem P e) b l.length _ hm hown (by unfold maxLen; omega) (.int .i64 key) (.bool true) (.int .i64 key) hx hv hkey (.lit (.bool true)) [] (plainElem_bool he true) ?_
  intro w' h1 h2
  refine hK w' ?_ h2
  unfold OwnsSet
  rw [List.map_append, List.map_singleton, setOf_snoc, List.length_append]
  exact h1

end
end Go.Proofs.Ytpjlngkndofjfaa
