/-
  Rows of elements of several cells, over any program: as they are read; and as the call's own. What an element is read as: a word of its own ('Rd').
-/
import Derived.Test.YtpjlngkndofjfaaLib5
namespace Go.Proofs.Ytpjlngkndofjfaa
open Go.RowKit

/-- Nothing has changed but in these blocks and in new ones. -/
def Dirty (D : Nat → Prop) (w w' : World) : Prop := w.heap.size ≤ w'.heap.size ∧ ∀ k, k < w.heap.size → ¬ D k → w'.heap[k]? = w.heap[k]?
theorem Dirty.refl (D : Nat → Prop) (w : World) : Dirty D w w := ⟨Nat.le_refl _, fun _ _ _ => rfl⟩
theorem Dirty.trans {D : Nat → Prop} {a b c : World} (h : Dirty D a b) (g : Dirty D b c) : Dirty D a c :=
  ⟨Nat.le_trans h.1 g.1, fun k hk hd => (g.2 k (Nat.lt_of_lt_of_le hk h.1) hd).trans (h.2 k hk hd)⟩
theorem Dirty.mono {D D' : Nat → Prop} {w w' : World} (h : Dirty D w w') (hd : ∀ k, k < w.heap.size → D k → D' k) : Dirty D' w w' :=
  ⟨h.1, fun k hk hn => h.2 k hk (fun hh => hn (hd k hk hh))⟩
theorem Dirty.of_grown {w w' : World} {row : Option Nat} (h : w.grownBy w' row) : Dirty (fun k => row = some k) w w' := ⟨h.size, fun k hk hn => h.block k hk (fun e => hn e.symm)⟩
theorem Dirty.of_below {B : Nat} {w w' : World} (h : Below B w w') (hs : w.heap.size ≤ w'.heap.size) : Dirty (fun k => B ≤ k) w w' := ⟨hs, fun k _ hn => h.block k (by omega)⟩
theorem Dirty.old {w w' : World} (h : Below w.heap.size w w') (D : Nat → Prop) : Dirty D w w' := ⟨h.size, fun k hk _ => h.block k hk⟩
theorem Dirty.cell {D : Nat → Prop} {w w' : World} (h : Dirty D w w') {a : Addr} {v : Value} (hc : w.cell? a = some v) (hd : ¬ D a.block) : w'.cell? a = some v := by
  rw [World.cell?_of_block (h.2 a.block (cell_lt hc) hd), hc]

/-- What the cells of an element are read as. -/
abbrev Rd (α : Type) := World → List Value → α → Prop
/-- It is read so as long as these blocks alone are changed, and new ones. -/
def Framed {α : Type} (D : Nat → Prop) (R : Rd α) (w : World) (cs : List Value) (x : α) : Prop := ∀ w', Dirty D w w' → R w' cs x
/-- It is read so as long as nothing is changed that is there. -/
def Rd.Stays {α : Type} (R : Rd α) : Prop := ∀ w cs x, R w cs x → Framed (fun _ => False) R w cs x

section
variable {α : Type} {R : Rd α} {D D' : Nat → Prop} {w w' : World} {cs : List Value} {x : α}
theorem Framed.now (h : Framed D R w cs x) : R w cs x := h w (Dirty.refl _ _)
theorem Framed.step (h : Framed D R w cs x) (hd : Dirty D w w') : Framed D R w' cs x := fun w'' hd' => h w'' (hd.trans hd')
/-- To another set of blocks, of which no other one was there. -/
theorem Framed.move (h : Framed D R w cs x) (hd : Dirty D w w') (hD : ∀ k, k < w.heap.size → D' k → D k) : Framed D' R w' cs x := fun w'' hd' =>
  h w'' ⟨Nat.le_trans hd.1 hd'.1, fun k hk hn => (hd'.2 k (Nat.lt_of_lt_of_le hk hd.1) (fun hh => hn (hD k hk hh))).trans (hd.2 k hk hn)⟩
theorem Framed.mono (h : Framed D R w cs x) (hD : ∀ k, k < w.heap.size → D' k → D k) : Framed D' R w cs x := h.move (Dirty.refl _ _) hD
end

theorem IntsAt.framed {D : Nat → Prop} {w : World} {a : Option Addr} {l : List Int} (h : IntsAt w a l) (hd : ∀ y, a = some y → l ≠ [] → ¬ D y.block) {w' : World} (hw : Dirty D w w') : IntsAt w' a l := by
  intro i hi
  obtain ⟨b, off, z, rfl, hc, hz⟩ := h i hi
  have hne : l ≠ [] := by intro e; subst e; simp at hi
  exact ⟨b, off, z, rfl, hw.cell hc (hd ⟨b, off, none⟩ rfl hne), hz⟩
/-- The block in which a slice lies. -/
def Value.lies (v : Value) (k : Nat) : Prop := ∃ a n c, v = .slice (some a) n c ∧ a.block = k
theorem IsInts.framed {D : Nat → Prop} {w : World} {v : Value} {l : List Int} (h : IsInts w v l) (hd : ∀ k, Value.lies v k → l ≠ [] → ¬ D k) {w' : World} (hw : Dirty D w w') : IsInts w' v l := by
  obtain ⟨a, c, rfl, h1, h2, h3⟩ := h
  exact ⟨a, c, rfl, h1, h2, h3.framed (fun y hy hl => hd y.block ⟨y, _, _, by rw [hy], rfl⟩ hl) hw⟩
theorem IsInts.block_lt {w : World} {v : Value} {l : List Int} (h : IsInts w v l) : ∀ k, Value.lies v k → l ≠ [] → k < w.heap.size := by
  obtain ⟨a, c, rfl, _, _, h3⟩ := h
  rintro k ⟨y, n', c', e, rfl⟩ hl
  simp only [Value.slice.injEq] at e
  exact h3.lt y e.1 hl
theorem OwnInts.lies {w : World} {e : TypeId} {base : Nat} {v : Value} {l : List Int} (h : OwnInts w e base v l) : ∀ k, Value.lies v k → base ≤ k ∧ k < w.heap.size := by
  rintro k ⟨y, n', c', rfl, rfl⟩
  exact h.1.lt y.block rfl

/-- An element stands there. -/
def ElemAt {α : Type} (sz : Nat) (R : Rd α) (w : World) (b o : Nat) (x : α) : Prop := ∃ cs, cs.length = sz ∧ (∀ j c, cs[j]? = some c → w.cell? ⟨b, o + j, none⟩ = some c) ∧ R w cs x
/-- The value is a slice of these elements. -/
def IsRow {α : Type} (sz : Nat) (R : Rd α) (w : World) (v : Value) (l : List α) : Prop :=
  ∃ a cap, v = .slice a l.length cap ∧ l.length ≤ cap ∧ (l.length ≤ 17592186044416 ∧ cap ≤ 9223372036854775807 ∧ (a = none → cap = 0)) ∧ ∀ (i : Nat) x, l[i]? = some x → ∃ b off, a = some ⟨b, off, none⟩ ∧ ElemAt sz R w b (off + i * sz) x
section
variable {α : Type} {R : Rd α} {sz : Nat}
theorem IsRow.opened {w : World} {v : Value} {l : List α} (h : IsRow sz R w v l) :
    ∃ a cap, v = .slice a l.length cap ∧ l.length ≤ cap ∧ (l.length ≤ 17592186044416 ∧ cap ≤ 9223372036854775807 ∧ (a = none → cap = 0)) ∧ ∀ (i : Nat) x, l[i]? = some x → ∃ b off, a = some ⟨b, off, none⟩ ∧ ElemAt sz R w b (off + i * sz) x := h
theorem IsRow.nil (w : World) : IsRow sz R w (.slice none 0 0) [] := ⟨none, 0, rfl, Nat.le_refl _, ⟨by simp, by omega, fun _ => rfl⟩, fun i x h => by simp at h⟩
theorem ElemAt.framed {D : Nat → Prop} {w w' : World} {b o : Nat} {x : α} (h : ElemAt sz R w b o x) (hb : ¬ D b) (hR : ∀ cs, R w cs x → Framed D R w cs x) (hw : Dirty D w w') : ElemAt sz R w' b o x := by
  obtain ⟨cs, h1, h2, h3⟩ := h
  exact ⟨cs, h1, fun j c hj => hw.cell (h2 j c hj) hb, hR cs h3 w' hw⟩
theorem IsRow.framed {D : Nat → Prop} {w w' : World} {v : Value} {l : List α} (h : IsRow sz R w v l) (hb : ∀ k, Value.lies v k → ¬ D k) (hR : ∀ cs x, x ∈ l → R w cs x → Framed D R w cs x) (hw : Dirty D w w') : IsRow sz R w' v l := by
  obtain ⟨a, c, rfl, h1, h2, h3⟩ := h
  refine ⟨a, c, rfl, h1, h2, fun i x hx => ?_⟩
  obtain ⟨b, off, rfl, he⟩ := h3 i x hx
  exact ⟨b, off, rfl, he.framed (hb b ⟨_, _, _, rfl, rfl⟩) (fun cs => hR cs x (List.mem_of_getElem? hx)) hw⟩
theorem IsRow.later {w w' : World} {v : Value} {l : List α} (h : IsRow sz R w v l) (hR : R.Stays) (hw : Dirty (fun _ => False) w w') : IsRow sz R w' v l :=
  h.framed (fun _ _ => id) (fun cs x _ hr => hR w cs x hr) hw
theorem IsRow.stays {w w' : World} {v : Value} {l : List α} (h : IsRow sz R w v l) (hR : R.Stays) (hb : Below w.heap.size w w') : IsRow sz R w' v l := h.later hR (Dirty.old hb _)
/-- The element at a place. -/
theorem IsRow.at {w : World} {a : Option Addr} {n cap : Nat} {l : List α} (h : IsRow sz R w (.slice a n cap) l) {i : Nat} {x : α} (hx : l[i]? = some x) : ∃ b off, a = some ⟨b, off, none⟩ ∧ ElemAt sz R w b (off + i * sz) x := by
  obtain ⟨a', c, e, _, _, h3⟩ := h
  simp only [Value.slice.injEq] at e
  obtain ⟨rfl, _, _⟩ := e
  exact h3 i x hx
/-- A slice's first part. -/
theorem IsRow.take {w : World} {a : Option Addr} {L cap : Nat} {l : List α} (h : IsRow sz R w (.slice a L cap) l) (n : Nat) (hn : n ≤ l.length) : IsRow sz R w (.slice a n cap) (l.take n) := by
  obtain ⟨a', c, e, h1, ⟨h2, h3, h4⟩, h5⟩ := h
  simp only [Value.slice.injEq] at e
  obtain ⟨rfl, rfl, rfl⟩ := e
  have hl : (l.take n).length = n := by simp; omega
  refine ⟨a, cap, by rw [hl], by omega, ⟨by omega, by omega, h4⟩, fun i x hx => h5 i x ?_⟩
  rw [List.getElem?_take] at hx
  split at hx
  · exact hx
  · cases hx
/-- A slice's part from a place on. -/
theorem IsRow.from {w : World} {b off L cap : Nat} {l : List α} (h : IsRow sz R w (.slice (some ⟨b, off, none⟩) L cap) l) (n : Nat) (hn : n ≤ l.length) : IsRow sz R w (.slice (some ⟨b, off + n * sz, none⟩) (L - n) (cap - n)) (l.drop n) := by
  obtain ⟨a', c, e, h1, ⟨h2, h3, h4⟩, h5⟩ := h
  simp only [Value.slice.injEq] at e
  obtain ⟨rfl, rfl, rfl⟩ := e
  have hl : (l.drop n).length = l.length - n := by simp
  refine ⟨some ⟨b, off + n * sz, none⟩, cap - n, by rw [hl], by omega, ⟨by omega, by omega, fun e => by cases e⟩, fun i x hx => ?_⟩
  rw [List.getElem?_drop] at hx
  obtain ⟨b', off', e, he⟩ := h5 (n + i) x hx
  cases e
  refine ⟨b, _, rfl, ?_⟩
  rw [Nat.add_mul, ← Nat.add_assoc] at he
  exact he
end

/-- A row of elements of the call's own (of type e); what they lead to lies elsewhere, not in the blocks of E either. -/
structure OwnRow {α : Type} (sz : Nat) (R : Rd α) (E : Nat → Prop) (w : World) (e : TypeId) (base : Nat) (v : Value) (l : List α) : Prop where
  top : l.length ≤ 1000000
  row : ∃ rows : List (List Value), w.ownsRow base e sz v l.length rows.flatten ∧ rows.length = l.length ∧ (∀ r ∈ rows, r.length = sz ∧ ∀ c ∈ r, c.oneCell' = true) ∧
    ∀ (i : Nat) r x, rows[i]? = some r → l[i]? = some x → Framed (fun k => v.ownBlock = some k ∨ E k) R w r x

theorem add_zero' (g k : Nat) : (⟨g, 0, none⟩ : Addr).add k = ⟨g, k, none⟩ := by unfold Addr.add; split <;> simp_all
theorem flatten_get {sz : Nat} : ∀ {rows : List (List Value)} {i j : Nat} {r : List Value} {c : Value}, (∀ r ∈ rows, r.length = sz) → rows[i]? = some r → r[j]? = some c → rows.flatten[i * sz + j]? = some c
  | [], i, j, r, c, _, h, _ => by simp at h
  | q :: rows, 0, j, r, c, hs, h, hj => by
    simp at h
    subst h
    have := (List.getElem?_eq_some_iff.1 hj).1
    rw [List.flatten_cons, Nat.zero_mul, Nat.zero_add, List.getElem?_append_left this]
    exact hj
  | q :: rows, i + 1, j, r, c, hs, h, hj => by
    have hq := hs q (by simp)
    have ih := flatten_get (rows := rows) (fun r hr => hs r (List.mem_cons_of_mem _ hr)) (by simpa using h) hj
    rw [List.flatten_cons, List.getElem?_append_right (by rw [hq, Nat.add_mul]; omega), hq, show (i + 1) * sz + j - sz = i * sz + j by rw [Nat.add_mul]; omega]
    exact ih
theorem flatten_len {sz : Nat} : ∀ {rows : List (List Value)}, (∀ r ∈ rows, r.length = sz) → rows.flatten.length = rows.length * sz
  | [], _ => by simp
  | q :: rows, hs => by
    rw [List.flatten_cons, List.length_append, hs q (by simp), flatten_len (fun r hr => hs r (by simp [hr])), List.length_cons, Nat.add_mul]
    omega
theorem flatten_set {sz : Nat} : ∀ {rows : List (List Value)} {i j : Nat} {r : List Value} {c : Value}, (∀ r ∈ rows, r.length = sz) → rows[i]? = some r → j < sz → (rows.set i (r.set j c)).flatten = rows.flatten.set (i * sz + j) c
  | [], i, j, r, c, _, h, _ => by simp at h
  | q :: rows, 0, j, r, c, hs, h, hj => by
    simp at h
    subst h
    have hq := hs q (by simp)
    rw [List.set_cons_zero, List.flatten_cons, List.flatten_cons, Nat.zero_mul, Nat.zero_add, List.set_append_left _ _ (by omega)]
  | q :: rows, i + 1, j, r, c, hs, h, hj => by
    have hq := hs q (by simp)
    have ih := flatten_set (rows := rows) (c := c) (fun r hr => hs r (List.mem_cons_of_mem _ hr)) (by simpa using h) hj
    rw [List.set_cons_succ, List.flatten_cons, List.flatten_cons, ih, List.set_append_right _ _ (by rw [hq, Nat.add_mul]; omega), hq, show (i + 1) * sz + j - sz = i * sz + j by rw [Nat.add_mul]; omega]
theorem flatten_take {sz : Nat} : ∀ {rows : List (List Value)} (n : Nat), (∀ r ∈ rows, r.length = sz) → (rows.take n).flatten = rows.flatten.take (n * sz)
  | [], n, _ => by simp
  | q :: rows, 0, _ => by simp
  | q :: rows, n + 1, hs => by
    have hq := hs q (by simp)
    rw [List.take_succ_cons, List.flatten_cons, List.flatten_cons, flatten_take n (fun r hr => hs r (by simp [hr])), List.take_append, hq, List.take_of_length_le (l := q) (by rw [hq, Nat.add_mul]; omega)]
    rw [show (n + 1) * sz - sz = n * sz by rw [Nat.add_mul]; omega]

section
variable {α : Type} {R : Rd α} {sz : Nat} {E E' : Nat → Prop} {w w' : World} {e : TypeId} {base : Nat} {v : Value} {l : List α}
theorem OwnRow.nil (w : World) (e : TypeId) (base : Nat) : OwnRow sz R E w e base (.slice none 0 0) [] := ⟨by simp, [], World.ownsRow_nil _ _ _ _, rfl, by simp, fun i r x h => by simp at h⟩
theorem OwnRow.lt (h : OwnRow sz R E w e base v l) : ∀ k, v.ownBlock = some k → base ≤ k ∧ k < w.heap.size := by
  obtain ⟨rows, h1, _⟩ := h.row
  exact h1.lt
theorem OwnRow.shape (h : OwnRow sz R E w e base v l) : (v = .slice none 0 0 ∧ l = []) ∨ ∃ g cap cur, v = .slice (some ⟨g, 0, none⟩) l.length cap ∧ base ≤ g ∧ g < w.heap.size ∧ l.length ≤ cap ∧ cap ≤ 9223372036854775807 ∧ w.heap[g]? = some (.cells cur e (0, 0)) ∧ cur.size = cap * sz := by
  obtain ⟨rows, h1, _⟩ := h.row
  rcases h1.2 with ⟨rfl, hn⟩ | ⟨g, cap, cur, rfl, hb, hg, hnc, hcm, hcs, _⟩
  · exact Or.inl ⟨rfl, List.eq_nil_of_length_eq_zero hn⟩
  · exact Or.inr ⟨g, cap, cur, rfl, hb, (Array.getElem?_eq_some_iff.1 hg).1, hnc, hcm, hg, hcs⟩
theorem OwnRow.isRow (h : OwnRow sz R E w e base v l) : IsRow sz R w v l := by
  obtain ⟨rows, h1, h2, h3, h4⟩ := h.row
  have ht := h.top
  rcases h.shape with ⟨rfl, rfl⟩ | ⟨g, cap, cur, rfl, hb, hg, hnc, hcm, hcur, hcs⟩
  · exact IsRow.nil w
  · refine ⟨_, cap, rfl, hnc, ⟨by omega, hcm, fun e => by cases e⟩, fun i x hx => ⟨g, 0, rfl, ?_⟩⟩
    have hi : i < rows.length := by rw [h2]; exact (List.getElem?_eq_some_iff.1 hx).1
    have hr : rows[i]? = some rows[i] := List.getElem?_eq_getElem hi
    refine ⟨rows[i], (h3 _ (List.getElem_mem hi)).1, fun j c hj => ?_, (h4 i _ x hr hx).now⟩
    have hf := flatten_get (fun r hr => (h3 r hr).1) hr hj
    have := h1.cells (g := g) rfl _ _ hf
    rw [add_zero'] at this
    rw [Nat.zero_add]
    exact this
theorem OwnRow.mono (h : OwnRow sz R E w e base v l) {b : Nat} (hb : b ≤ base) : OwnRow sz R E w e b v l := by
  obtain ⟨rows, ⟨h1, h1'⟩, h2⟩ := h.row
  refine ⟨h.top, rows, ⟨h1, ?_⟩, h2⟩
  rcases h1' with h1' | ⟨g, cap, cur, h4, h5, h6⟩
  · exact .inl h1'
  · exact .inr ⟨g, cap, cur, h4, Nat.le_trans hb h5, h6⟩
theorem OwnRow.weaken (h : OwnRow sz R E w e base v l) (hE : ∀ k, k < w.heap.size → E' k → E k ∨ v.ownBlock = some k) : OwnRow sz R E' w e base v l := by
  obtain ⟨rows, h1, h2, h3, h4⟩ := h.row
  refine ⟨h.top, rows, h1, h2, h3, fun i r x hr hx => (h4 i r x hr hx).mono fun k hk hd => ?_⟩
  rcases hd with hd | hd
  · exact Or.inl hd
  · rcases hE k hk hd with hd | hd
    · exact Or.inr hd
    · exact Or.inl hd
/-- It stands while blocks of E are changed, and new ones made. -/
theorem OwnRow.later (h : OwnRow sz R E w e base v l) (hw : Dirty E w w') (hv : ∀ k, v.ownBlock = some k → ¬ E k) : OwnRow sz R E w' e base v l := by
  obtain ⟨rows, ⟨h1, h1'⟩, h2, h3, h4⟩ := h.row
  refine ⟨h.top, rows, ⟨h1, ?_⟩, h2, h3, fun i r x hr hx => (h4 i r x hr hx).step (hw.mono fun k _ hk => Or.inr hk)⟩
  rcases h1' with h1' | ⟨g, cap, cur, h5, h6, h7, h8⟩
  · exact .inl h1'
  · exact .inr ⟨g, cap, cur, h5, h6, (hw.2 g (Array.getElem?_eq_some_iff.1 h7).1 (hv g (by rw [h5]; rfl))).trans h7, h8⟩
theorem OwnRow.kept (h : OwnRow sz R E w e base v l) {row : Option Nat} (hg : w.grownBy w' row) (hrow : ∀ k, row = some k → E k) (hv : v.ownBlock = none ∨ v.ownBlock ≠ row) : OwnRow sz R E w' e base v l := by
  obtain ⟨rows, h1, h2, h3, h4⟩ := h.row
  exact ⟨h.top, rows, h1.kept hg hv, h2, h3, fun i r x hr hx => (h4 i r x hr hx).step ((Dirty.of_grown hg).mono fun k _ hk => Or.inr (hrow k hk))⟩
theorem OwnRow.stays (h : OwnRow sz R E w e base v l) (hb : Below w.heap.size w w') : OwnRow sz R E w' e base v l :=
  h.kept (grown_of_below hb) (fun k hk => by cases hk) (by cases v.ownBlock <;> simp)
/-- The cells of an element. -/
theorem OwnRow.get (h : OwnRow sz R E w e base v l) {i : Nat} {x : α} (hx : l[i]? = some x) : ∃ r g, v.ownBlock = some g ∧ r.length = sz ∧ (∀ c ∈ r, c.oneCell' = true) ∧ (∀ j c, r[j]? = some c → w.cell? ⟨g, i * sz + j, none⟩ = some c) ∧ Framed (fun k => v.ownBlock = some k ∨ E k) R w r x := by
  obtain ⟨rows, h1, h2, h3, h4⟩ := h.row
  have hi : i < rows.length := by rw [h2]; exact (List.getElem?_eq_some_iff.1 hx).1
  have hr : rows[i]? = some rows[i] := List.getElem?_eq_getElem hi
  rcases h.shape with ⟨rfl, rfl⟩ | ⟨g, cap, cur, rfl, _⟩
  · simp at hx
  · refine ⟨rows[i], g, rfl, (h3 _ (List.getElem_mem hi)).1, (h3 _ (List.getElem_mem hi)).2, fun j c hj => ?_, h4 i _ x hr hx⟩
    have := h1.cells (g := g) rfl _ _ (flatten_get (fun r hr => (h3 r hr).1) hr hj)
    rw [add_zero'] at this
    exact this
theorem OwnRow.free (h : OwnRow sz R E w e base v l) {g : Nat} (hg : v.ownBlock = some g) (i : Nat) : w.frozen? ⟨g, i, none⟩ = false := by
  rcases h.shape with ⟨rfl, rfl⟩ | ⟨g', cap, cur, rfl, _, _, _, _, hc, _⟩
  · simp [Value.ownBlock] at hg
  · simp only [Value.ownBlock, Option.some.injEq] at hg
    subst hg
    simp [World.frozen?, hc]
/-- One cell of one element is stored. -/
theorem OwnRow.set (h : OwnRow sz R E w e base v l) {i j : Nat} {x x' : α} {g : Nat} {r : List Value} {c : Value} (hx : l[i]? = some x) (hg : v.ownBlock = some g) (hr : r.length = sz) (hrc : ∀ j c, r[j]? = some c → w.cell? ⟨g, i * sz + j, none⟩ = some c) (hj : j < sz) (hc : c.oneCell' = true)
    (hR : Framed (fun k => v.ownBlock = some k ∨ E k) R w (r.set j c) x') : OwnRow sz R E (w.setCell ⟨g, i * sz + j, none⟩ c) e base v (l.set i x') := by
  obtain ⟨rows, h1, h2, h3, h4⟩ := h.row
  have hi : i < rows.length := by rw [h2]; exact (List.getElem?_eq_some_iff.1 hx).1
  have hri : rows[i]? = some rows[i] := List.getElem?_eq_getElem hi
  have hlr : rows[i].length = sz := (h3 _ (List.getElem_mem hi)).1
  have hrr : r = rows[i] := by
    apply List.ext_getElem?
    intro m
    by_cases hm : m < sz
    · have e1 : r[m]? = some r[m] := List.getElem?_eq_getElem (by omega)
      have e2 : rows[i][m]? = some rows[i][m] := List.getElem?_eq_getElem (by omega)
      have a1 := hrc m _ e1
      have a2 := h1.cells hg _ _ (flatten_get (fun r hr => (h3 r hr).1) hri e2)
      rw [add_zero', a1] at a2
      rw [e1, e2, a2]
    · rw [List.getElem?_eq_none (by omega), List.getElem?_eq_none (by omega)]
  subst hrr
  have hdirty : Dirty (fun k => v.ownBlock = some k ∨ E k) w (w.setCell ⟨g, i * sz + j, none⟩ c) := (Dirty.of_grown (grown_setCell w ⟨g, i * sz + j, none⟩ c)).mono fun k _ hk => by cases hk; exact Or.inl hg
  refine ⟨by simpa using h.top, rows.set i (rows[i].set j c), ?_, by simpa using h2, ?_, ?_⟩
  · have hs := flatten_set (c := c) (fun r hr => (h3 r hr).1) hri hj
    rw [hs]
    refine ⟨by simpa using h1.1, ?_⟩
    rcases h1.2 with ⟨rfl, _⟩ | ⟨g', cap, cur, rfl, hb, hgc, hnc, hcm, hcs, htk⟩
    · simp [Value.ownBlock] at hg
    · simp only [Value.ownBlock, Option.some.injEq] at hg
      subst hg
      refine .inr ⟨g', cap, _, by rw [List.length_set], hb, heap_setCell_same w g' (i * sz + j) cur e c hgc, by simpa using hnc, hcm, by simpa using hcs, ?_⟩
      rw [← htk]
      simp only [List.length_set, Array.toList_setIfInBounds]
      rw [List.take_set]
  · intro q hq
    rcases List.mem_or_eq_of_mem_set hq with hq | rfl
    · exact h3 q hq
    · refine ⟨by simpa using hlr, fun c' hc' => ?_⟩
      rcases List.mem_or_eq_of_mem_set hc' with hc' | rfl
      · exact (h3 _ (List.getElem_mem hi)).2 c' hc'
      · exact hc
  · intro m q y hq hy
    rw [List.getElem?_set] at hq hy
    by_cases hm : i = m
    · subst hm
      rw [if_pos rfl, if_pos hi] at hq
      rw [if_pos rfl, if_pos (by rw [← h2]; exact hi)] at hy
      cases hq
      cases hy
      exact hR.step hdirty
    · rw [if_neg hm] at hq hy
      exact (h4 m q y hq hy).step hdirty
/-- A first part of it. -/
theorem OwnRow.take (h : OwnRow sz R E w e base v l) (n : Nat) (hn : n ≤ l.length) {a : Option Addr} {L cap : Nat} (hv : v = .slice a L cap) : OwnRow sz R E w e base (.slice a n cap) (l.take n) := by
  obtain ⟨rows, h1, h2, h3, h4⟩ := h.row
  have ht := h.top
  have hl : (l.take n).length = n := by simp; omega
  subst hv
  refine ⟨by omega, rows.take n, ?_, by simp; omega, fun r hr => h3 r (List.mem_of_mem_take hr), ?_⟩
  · rw [flatten_take n (fun r hr => (h3 r hr).1), hl]
    refine ⟨?_, ?_⟩
    · rw [List.length_take, h1.1]
      exact Nat.min_eq_left (Nat.mul_le_mul_right _ hn)
    · rcases h1.2 with ⟨h5, h6⟩ | ⟨g, cap', cur, h5, h6, h7, h8, h9, h10, h11⟩
      · simp only [Value.slice.injEq] at h5
        obtain ⟨rfl, rfl, rfl⟩ := h5
        have : n = 0 := by omega
        subst this
        exact .inl ⟨rfl, rfl⟩
      · simp only [Value.slice.injEq] at h5
        obtain ⟨rfl, rfl, rfl⟩ := h5
        refine .inr ⟨g, cap, cur, rfl, h6, h7, by omega, h9, h10, ?_⟩
        rw [← h11, List.take_take, Nat.min_eq_left (Nat.mul_le_mul_right _ hn)]
  · intro i r x hr hx
    rw [List.getElem?_take] at hr hx
    split at hr
    · rename_i hi
      rw [if_pos hi] at hx
      refine (h4 i r x hr hx).mono fun k _ hk => ?_
      rcases hk with hk | hk
      · left
        cases a with
        | none => cases hk
        | some a => exact hk
      · exact Or.inr hk
    · cases hr
theorem below_row {B : Nat} {W : World} (h : Below B W w) (ho : OwnRow sz R E w e B v l) (hg : w.grownBy w' v.ownBlock) (hB : B ≤ w.heap.size) : Below B W w' := h.grown hg hB fun k hk => (ho.lt k hk).1
theorem Since.row {g : Nat} {W : World} (h : Since g W w) (ho : OwnRow sz R E w e g v l) (hg : w.grownBy w' v.ownBlock) : Since g W w' := h.grown hg fun k hk => (ho.lt k hk).1
end

section
open Go.Maps
variable {P : Program} {k e t : TypeId}
/-- 'map[int]bool{x: true}', at the entry's operation. -/
theorem wpList_insert_set (w : World) {ops : Array Oper} {rest : List Oper} {o : Oper} {a : Act} {Q : Exit → Act → World → Prop}
    (hg : o.guard = none) (m x v : Operand) (t : TypeId) (hop : o.op = Op.insert t m x v)
    (hk : P.underlying k = some (.int .i64)) (he : P.underlying e = some .bool) (ht : P.underlying t = some (.map k e)) (b : Nat) (l : List Int)
    (hm : a.eval m = .map (some b)) (hown : OwnsSet P k e w b l) (hn : l.length < 1000000000000000) (key : Int) (hx : a.eval x = .int .i64 key) (hv : a.eval v = .bool true) (hi : I64 key)
    (hK : ∀ w', OwnsSet P k e w' b (l ++ [key]) → w.grownBy w' (some b) → wpList P ops Q rest (a.put o.dst undef) w') :
    wpList P ops Q (o :: rest) a w := by
  have hkey : keyOf P k (.int .i64 key) = some (.int .i64 key) := by simp [keyOf, mapKey, hk, hi.wf]
  refine wpList_plain hg fun K' hK' => ?_
  obtain ⟨w', hrun, r1, r2⟩ := World.ownsMap.update hown (int_keyed hk) ht (by unfold maxLen; omega) hkey (plainElem_bool he true)
  unfold Oper.wp
  simp [execOp, hop, hm, hx, hv, hrun, Result.andThen]
  refine hK' _ _ (hK w' ?_ r2)
  unfold OwnsSet
  rw [List.map_append, List.map_singleton, setOf_snoc, List.length_append]
  exact r1
theorem sameKey_int (x y : Int) : (Lit.int .i64 x).sameKey (.int .i64 y) = decide (x = y) := by
  by_cases h : x = y <;> simp [Lit.sameKey, h]
/-- The numbers of a list, each one once. -/
def onceL (l : List Int) : List Int := l.foldl (fun acc x => if x ∈ acc then acc else acc ++ [x]) []
theorem once_fold : ∀ (l acc : List Int), acc.Nodup → (l.foldl (fun acc x => if x ∈ acc then acc else acc ++ [x]) acc).Nodup ∧ ∀ z, z ∈ l.foldl (fun acc x => if x ∈ acc then acc else acc ++ [x]) acc ↔ z ∈ acc ∨ z ∈ l
  | [], acc, h => ⟨h, by simp⟩
  | x :: l, acc, h => by
    by_cases hx : x ∈ acc
    · obtain ⟨h1, h2⟩ := once_fold l acc h
      simp only [List.foldl_cons, hx, if_true]
      refine ⟨h1, fun z => ?_⟩
      rw [h2, List.mem_cons]
      constructor
      · rintro (h | h)
        · exact Or.inl h
        · exact Or.inr (Or.inr h)
      · rintro (h | rfl | h)
        · exact Or.inl h
        · exact Or.inl hx
        · exact Or.inr h
    · obtain ⟨h1, h2⟩ := once_fold l (acc ++ [x]) (by rw [List.nodup_append]; exact ⟨h, by simp, by intro a ha b hb e; simp at hb; subst hb; subst e; exact hx ha⟩)
      simp only [List.foldl_cons, hx, if_false]
      refine ⟨h1, fun z => ?_⟩
      rw [h2, List.mem_append, List.mem_singleton, List.mem_cons, or_assoc]
theorem onceL_nodup (l : List Int) : (onceL l).Nodup := (once_fold l [] List.nodup_nil).1
theorem mem_onceL (l : List Int) (z : Int) : z ∈ onceL l ↔ z ∈ l := by
  have := (once_fold l [] List.nodup_nil).2 z
  simpa [onceL] using this
theorem addKey_map : ∀ (l acc : List Int), (l.map fun x => Lit.int .i64 x).foldl addKey (acc.map fun x => Lit.int .i64 x) = (l.foldl (fun acc x => if x ∈ acc then acc else acc ++ [x]) acc).map fun x => Lit.int .i64 x
  | [], _ => rfl
  | x :: l, acc => by
    have e : addKey (acc.map fun x => Lit.int .i64 x) (Lit.int .i64 x) = (if x ∈ acc then acc else acc ++ [x]).map fun x => Lit.int .i64 x := by
      unfold addKey
      have : ((acc.map fun x => Lit.int .i64 x).any fun y => y.sameKey (Lit.int .i64 x)) = decide (x ∈ acc) := by
        rw [Bool.eq_iff_iff]
        simp only [List.any_map, List.any_eq_true, Function.comp, sameKey_int, decide_eq_true_eq]
        constructor
        · rintro ⟨y, hy, rfl⟩; exact hy
        · intro h; exact ⟨x, h, rfl⟩
      rw [this]
      by_cases h : x ∈ acc <;> simp [h]
    rw [List.map_cons, List.foldl_cons, e, addKey_map l, List.foldl_cons]
/-- 'len(m)' of a set at the operation. -/
theorem wpList_len_set (w : World) {ops : Array Oper} {rest : List Oper} {o : Oper} {a : Act} {Q : Exit → Act → World → Prop}
    (hg : o.guard = none) (m : Operand) (t : TypeId) (hop : o.op = Op.call { callee := Callee.builtin Builtin.len, args := #[m], argTypes := #[t] })
    (ht : P.underlying t = some (.map k e)) (b : Nat) (l : List Int) (hm : a.eval m = .map (some b)) (hown : OwnsSet P k e w b l)
    (hK : wpList P ops Q rest (a.put o.dst (.int .i64 ((onceL l).length : Int))) w) :
    wpList P ops Q (o :: rest) a w := by
  refine wpList_len_own w hg m t hop k e ht _ b _ _ hm hown ?_
  rw [size_setOf _ _ (keyLit_ints l)]
  have := addKey_map l []
  rw [List.map_nil] at this
  rw [this, List.length_map]
  exact hK
end

section
variable {P : Program} {α : Type} {R : Rd α}
/-- append of one element to the call's own row. -/
theorem wpList_append_row {w : World} {ops : Array Oper} {rest : List Oper} {o : Oper} {a : Act} {Q : Exit → Act → World → Prop} (hgd : o.guard = none) (s x : Operand) (t : TypeId)
    (ho : o.op = .call { callee := .builtin .append, args := #[s, x], argTypes := #[t, t] }) (sz : Nat) (E : Nat → Prop) (e : TypeId) (ht : P.underlying t = some (.slice e)) (z : Value) (bytes : Nat)
    (hinfo : (P.info? e).map (fun i => (i.zero, i.size, i.bytes)) = some (some z, sz, bytes)) (hzs : z.cells.size = sz) (hsz : 0 < sz) (hby : bytes ≤ 1000) (base : Nat) (v : Value) (l : List α) (hs : a.eval s = v) (hown : OwnRow sz R E w e base v l)
    (ad : Addr) (c : Nat) (r : List Value) (y : α) (hx : a.eval x = .slice (some ad) 1 c) (hr : r.length = sz) (hr1 : ∀ u ∈ r, u.oneCell' = true) (hc : ∀ j u, r[j]? = some u → w.cell? (ad.add j) = some u) (hR : Framed (fun k => v.ownBlock = some k ∨ E k) R w r y) (hl : l.length < 1000000) (hbase : base ≤ w.heap.size)
    (h : ∀ v' w', OwnRow sz R E w' e base v' (l ++ [y]) → w.grownBy w' v.ownBlock → (v'.ownBlock = v.ownBlock ∨ v'.ownBlock = some w.heap.size) → wpList P ops Q rest (a.put o.dst v') w') : wpList P ops Q (o :: rest) a w := by
  obtain ⟨i, hi0, hz0, hs0, hb0⟩ := info_parts hinfo
  obtain ⟨rows, h1, h2, h3, h4⟩ := hown.row
  have hbb : (l.length + 1) * bytes ≤ 140737488355328 := by
    have : (l.length + 1) * bytes ≤ (l.length + 1) * 1000 := Nat.mul_le_mul_left _ hby
    omega
  refine wpList_append_own_at w hgd s x t ho base e i z sz bytes ht hi0 hz0 hs0 hb0 hzs hsz v l.length rows.flatten hs h1 ad 1 c r hx (by omega) hc hr1 (by unfold maxLen; omega) hbb hbase ?_
  intro v' w' g1 g2 _ g4
  refine h v' w' ⟨by simp; omega, rows ++ [r], by simpa using g1, by simp [h2], ?_, ?_⟩ g2 g4
  · intro q hq
    rcases List.mem_append.1 hq with hq | hq
    · exact h3 q hq
    · simp at hq; subst hq; exact ⟨hr, hr1⟩
  · have hd : Dirty (fun k => v.ownBlock = some k ∨ E k) w w' := (Dirty.of_grown g2).mono fun k _ hk => Or.inl hk
    have hmv : ∀ k, k < w.heap.size → (v'.ownBlock = some k ∨ E k) → (v.ownBlock = some k ∨ E k) := by
      intro k hk hh
      rcases hh with hh | hh
      · rcases g4 with g4 | g4
        · exact Or.inl (g4 ▸ hh)
        · rw [g4] at hh; cases hh; omega
      · exact Or.inr hh
    intro m q u hq hu
    by_cases hm : m < l.length
    · rw [List.getElem?_append_left (by omega)] at hq hu
      exact (h4 m q u hq hu).move hd hmv
    · rw [List.getElem?_append_right (by omega)] at hq hu
      have hq' := (List.getElem?_eq_some_iff.1 hu).1
      simp at hq'
      have : m = l.length := by omega
      subst this
      simp at hu
      rw [h2] at hq
      simp at hq
      subst hq hu
      exact hR.move hd hmv
end
end Go.Proofs.Ytpjlngkndofjfaa
