/-
  Rows of elements of several cells: appended to one another.
-/
import Derived.Test.YtpjlngkndofjfaaRow
namespace Go.Proofs.Ytpjlngkndofjfaa
open Go.RowKit

/-- Each cell of an element holds a value of one cell. -/
def Rd.One {α : Type} (R : Rd α) : Prop := ∀ w cs x, R w cs x → ∀ c ∈ cs, c.oneCell' = true
/-- What was read stands whatever is done to blocks that were not there. -/
theorem Rd.Stays.framed {α : Type} {R : Rd α} (hR : R.Stays) {D : Nat → Prop} {w0 w : World} {cs : List Value} {x : α} (h : R w0 cs x) (hw : Dirty (fun _ => False) w0 w) (hD : ∀ k, D k → w0.heap.size ≤ k) : Framed D R w cs x :=
  fun w' hw' => hR w0 cs x h w' ⟨Nat.le_trans hw.1 hw'.1, fun k hk _ => (hw'.2 k (Nat.lt_of_lt_of_le hk hw.1) (fun hd => by have := hD k hd; omega)).trans (hw.2 k hk id)⟩
theorem flatten_at {sz : Nat} (hsz : 0 < sz) : ∀ {rows : List (List Value)} {j : Nat} {u : Value}, (∀ r ∈ rows, r.length = sz) → rows.flatten[j]? = some u → ∃ i q r, j = i * sz + q ∧ rows[i]? = some r ∧ r[q]? = some u
  | [], j, u, _, h => by simp at h
  | r :: rows, j, u, hs, h => by
    have hr := hs r (by simp)
    rw [List.flatten_cons] at h
    by_cases hj : j < sz
    · rw [List.getElem?_append_left (by omega)] at h
      exact ⟨0, j, r, by omega, rfl, h⟩
    · rw [List.getElem?_append_right (by omega), hr] at h
      obtain ⟨i, q, r', e, h1, h2⟩ := flatten_at hsz (fun r hr => hs r (List.mem_cons_of_mem _ hr)) h
      exact ⟨i + 1, q, r', by rw [Nat.add_mul]; omega, by simpa using h1, h2⟩
theorem add_none' (b o k : Nat) : (⟨b, o, none⟩ : Addr).add k = ⟨b, o + k, none⟩ := by unfold Addr.add; split <;> simp_all
theorem cell_set_other (w : World) (g o : Nat) (v : Value) {p : Addr} (h : p.block ≠ g) : (w.setCell ⟨g, o, none⟩ v).cell? p = w.cell? p := World.cell?_of_block (Below.heap_setCell w ⟨g, o, none⟩ v p.block h)
theorem free_set_other (w : World) (g o : Nat) (v : Value) {p : Addr} (h : p.block ≠ g) : (w.setCell ⟨g, o, none⟩ v).frozen? p = w.frozen? p := World.frozen?_of_block (Below.heap_setCell w ⟨g, o, none⟩ v p.block h)
theorem grown_free {w w' : World} {row : Option Nat} (hg : w.grownBy w' row) {a : Addr} {v : Value} (hc : w.cell? a = some v) (hf : w.frozen? a = false) (hne : some a.block ≠ row) : w'.frozen? a = false :=
  (World.frozen?_of_block (hg.block a.block (cell_lt hc) hne)).trans hf
theorem below_free {w w' : World} (hb : Below w.heap.size w w') {a : Addr} {v : Value} (hc : w.cell? a = some v) (hf : w.frozen? a = false) : w'.frozen? a = false := (hb.frozen (p := a) (cell_lt hc)).trans hf
theorem below_cell {w w' : World} (hb : Below w.heap.size w w') {a : Addr} {v : Value} (hc : w.cell? a = some v) : w'.cell? a = some v := (hb.cell (p := a) (cell_lt hc)).trans hc
theorem alloc_cell {w : World} {a : Addr} {v : Value} (hc : w.cell? a = some v) (o : Obj) : (w.alloc o).cell? a = some v := below_cell (below_alloc w o) hc
theorem alloc_free {w : World} {a : Addr} {v : Value} (hc : w.cell? a = some v) (hf : w.frozen? a = false) (o : Obj) : (w.alloc o).frozen? a = false := below_free (below_alloc w o) hc hf
section
variable {α : Type} {R : Rd α} {sz : Nat}
/-- The cells of a slice that is read. -/
theorem IsRow.rows (hsz : 0 < sz) {w : World} {ad : Addr} {n c : Nat} {l : List α} (h : IsRow sz R w (.slice (some ad) n c) l) :
    ∃ rows : List (List Value), rows.length = l.length ∧ (∀ r ∈ rows, r.length = sz) ∧ (∀ (i : Nat) r x, rows[i]? = some r → l[i]? = some x → R w r x) ∧ ∀ j u, rows.flatten[j]? = some u → w.cell? (ad.add j) = some u := by
  have hex : ∀ i : Nat, ∃ cs : List Value, cs.length = sz ∧ ∀ x, l[i]? = some x → (∀ j u, cs[j]? = some u → w.cell? (ad.add (i * sz + j)) = some u) ∧ R w cs x := by
    intro i
    by_cases hi : i < l.length
    · obtain ⟨b, off, e, cs, h1, h2, h3⟩ := h.at (List.getElem?_eq_getElem hi)
      cases e
      refine ⟨cs, h1, fun x hx => ?_⟩
      rw [List.getElem?_eq_getElem hi] at hx
      cases hx
      refine ⟨fun j u hj => ?_, h3⟩
      rw [add_none', ← Nat.add_assoc]
      exact h2 j u hj
    · exact ⟨List.replicate sz undef, by simp, fun x hx => by rw [List.getElem?_eq_none (by omega)] at hx; cases hx⟩
  refine ⟨(List.range l.length).map fun i => Classical.choose (hex i), by simp, ?_, ?_, ?_⟩
  · intro r hr
    obtain ⟨i, _, rfl⟩ := List.mem_map.1 hr
    exact (Classical.choose_spec (hex i)).1
  · intro i r x hr hx
    have hi := (List.getElem?_eq_some_iff.1 hx).1
    rw [List.getElem?_map, List.getElem?_range hi] at hr
    cases hr
    exact ((Classical.choose_spec (hex i)).2 x hx).2
  · intro j u hj
    obtain ⟨i, q, r, rfl, hr, hq⟩ := flatten_at hsz (by
      intro r hr
      obtain ⟨i, _, rfl⟩ := List.mem_map.1 hr
      exact (Classical.choose_spec (hex i)).1) hj
    have hi : i < l.length := by
      have := (List.getElem?_eq_some_iff.1 hr).1
      simpa using this
    rw [List.getElem?_map, List.getElem?_range hi] at hr
    cases hr
    exact ((Classical.choose_spec (hex i)).2 l[i] (List.getElem?_eq_getElem hi)).1 q u hq
end
section
variable {P : Program} {α : Type} {R : Rd α}
/-- append of one element, as one step of a region that draws its order. -/
theorem step_append_row {ops : Array Oper} {o : Oper} {a : Act} {w : World} {K : Act → World → Prop} {Q : Exit → Act → World → Prop} {F : Prop}
    (hgd : o.guard = none) (s x : Operand) (t : TypeId)
    (ho : o.op = .call { callee := .builtin .append, args := #[s, x], argTypes := #[t, t] }) (sz : Nat) (E : Nat → Prop) (e : TypeId) (ht : P.underlying t = some (.slice e)) (z : Value) (bytes : Nat)
    (hinfo : (P.info? e).map (fun i => (i.zero, i.size, i.bytes)) = some (some z, sz, bytes)) (hzs : z.cells.size = sz) (hsz : 0 < sz) (hby : bytes ≤ 1000) (base : Nat) (v : Value) (l : List α) (hs : a.eval s = v) (hown : OwnRow sz R E w e base v l)
    (ad : Addr) (c : Nat) (r : List Value) (y : α) (hx : a.eval x = .slice (some ad) 1 c) (hr : r.length = sz) (hr1 : ∀ u ∈ r, u.oneCell' = true) (hc : ∀ j u, r[j]? = some u → w.cell? (ad.add j) = some u) (hR : Framed (fun k => v.ownBlock = some k ∨ E k) R w r y) (hl : l.length < 1000000) (hbase : base ≤ w.heap.size)
    (h : ∀ v' w', OwnRow sz R E w' e base v' (l ++ [y]) → w.grownBy w' v.ownBlock → (v'.ownBlock = v.ownBlock ∨ v'.ownBlock = some w.heap.size) → K (a.put o.dst v') w') :
    if Region.wanted o (yielded ops a.tmps) = true then Oper.wp P o a w K Q else F := by
  have hw : Region.wanted o (yielded ops a.tmps) = true := by simp [Region.wanted, hgd]
  rw [if_pos hw]
  obtain ⟨i, hi0, hz0, hs0, hb0⟩ := info_parts hinfo
  obtain ⟨rows, h1, h2, h3, h4⟩ := hown.row
  have hbb : (l.length + 1) * bytes ≤ 140737488355328 := by
    have : (l.length + 1) * bytes ≤ (l.length + 1) * 1000 := Nat.mul_le_mul_left _ hby
    omega
  obtain ⟨v', w', hrun, g1, g2, _, g4⟩ := run_append_own_at (P := P) w base t o.type e i z sz bytes ht hi0 hz0 hs0 hb0 hzs hsz v l.length rows.flatten h1 ad 1 c r (by omega) hc hr1 (by unfold maxLen; omega) hbb hbase
  unfold Oper.wp
  simp [execOp, ho, resolve, invoke, builtin, hs, hx, hrun, Result.andThen]
  refine h v' w' ⟨by simp; omega, rows ++ [r], by simpa using g1, by simp [h2], ?_, ?_⟩ g2 g4
  · intro q hq
    rcases List.mem_append.1 hq with hq | hq
    · exact h3 q hq
    · simp at hq; subst hq; exact ⟨hr, hr1⟩
  · have hd : Dirty (fun k => v.ownBlock = some k ∨ E k) w w' := (Dirty.of_grown g2).mono fun k _ hk => Or.inl hk
    have hmv : ∀ k, k < w.heap.size → (v'.ownBlock = some k ∨ E k) → (v.ownBlock = some k ∨ E k) := by
      intro k hk hh
      rcases hh with hh | hh
      · rcases g4 with g4 | g4
        · exact Or.inl (g4 ▸ hh)
        · rw [g4] at hh; cases hh; omega
      · exact Or.inr hh
    intro m q u hq hu
    by_cases hm : m < l.length
    · rw [List.getElem?_append_left (by omega)] at hq hu
      exact (h4 m q u hq hu).move hd hmv
    · rw [List.getElem?_append_right (by omega)] at hq hu
      have hq' := (List.getElem?_eq_some_iff.1 hu).1
      simp at hq'
      have : m = l.length := by omega
      subst this
      simp at hu
      rw [h2] at hq
      simp at hq
      subst hq hu
      exact hR.move hd hmv
/-- append of all elements of a slice to the call's own row. -/
theorem wpList_append_rows {w : World} {ops : Array Oper} {rest : List Oper} {o : Oper} {a : Act} {Q : Exit → Act → World → Prop} (hgd : o.guard = none) (s x : Operand) (t : TypeId)
    (ho : o.op = .call { callee := .builtin .append, args := #[s, x], argTypes := #[t, t] }) (sz : Nat) (E : Nat → Prop) (e : TypeId) (ht : P.underlying t = some (.slice e)) (z : Value) (bytes : Nat)
    (hinfo : (P.info? e).map (fun i => (i.zero, i.size, i.bytes)) = some (some z, sz, bytes)) (hzs : z.cells.size = sz) (hsz : 0 < sz) (hby : bytes ≤ 1000) (base : Nat) (v : Value) (l : List α) (hs : a.eval s = v) (hown : OwnRow sz R E w e base v l)
    (w0 : World) (hw0 : Dirty (fun _ => False) w0 w) (r : List α) (sv : Value) (hx : a.eval x = sv) (hr : IsRow sz R w0 sv r) (hRS : R.Stays) (hR1 : R.One) (hD : ∀ k, v.ownBlock = some k ∨ E k → w0.heap.size ≤ k) (hl : l.length + r.length ≤ 1000000) (hbase : base ≤ w.heap.size)
    (h : ∀ v' w', OwnRow sz R E w' e base v' (l ++ r) → w.grownBy w' v.ownBlock → (v'.ownBlock = v.ownBlock ∨ v'.ownBlock = some w.heap.size) → wpList P ops Q rest (a.put o.dst v') w') : wpList P ops Q (o :: rest) a w := by
  obtain ⟨i, hi0, hz0, hs0, hb0⟩ := info_parts hinfo
  obtain ⟨rows, h1, h2, h3, h4⟩ := hown.row
  have hr' := hr
  obtain ⟨ar, cr, rfl, hcr, hmr, hri⟩ := hr'
  cases ar with
  | none =>
    have hr0 : r = [] := by
      cases r with
      | nil => rfl
      | cons y r => obtain ⟨b, off, e1, _⟩ := hri 0 y rfl; cases e1
    subst hr0
    have hc0 : cr = 0 := hmr.2.2 rfl
    subst hc0
    refine wpList_append_own_none hgd s x t ho base e i sz ht hi0 v l.length rows.flatten hs h1 hx ?_
    exact h v w (by simpa using hown) ⟨rfl, rfl, rfl, Nat.le_refl _, fun _ _ _ => rfl⟩ (Or.inl rfl)
  | some ad =>
    obtain ⟨rs, g1, g2, g3, g4⟩ := hr.rows hsz
    have hbb : (l.length + r.length) * bytes ≤ 140737488355328 := by
      have : (l.length + r.length) * bytes ≤ (l.length + r.length) * 1000 := Nat.mul_le_mul_left _ hby
      omega
    have hone : ∀ q ∈ rs, q.length = sz ∧ ∀ c ∈ q, c.oneCell' = true := by
      intro q hq
      refine ⟨g2 q hq, ?_⟩
      obtain ⟨m, hm⟩ := List.getElem?_of_mem hq
      have hml : m < r.length := by rw [← g1]; exact (List.getElem?_eq_some_iff.1 hm).1
      exact hR1 w0 q _ (g3 m q _ hm (List.getElem?_eq_getElem hml))
    refine wpList_append_own_at w hgd s x t ho base e i z sz bytes ht hi0 hz0 hs0 hb0 hzs hsz v l.length rows.flatten hs h1 ad r.length cr rs.flatten hx ?_ ?_ ?_ (by unfold maxLen; omega) hbb hbase ?_
    · rw [flatten_len g2, g1]
    · intro j u hj
      exact hw0.cell (g4 j u hj) id
    · intro u hu
      obtain ⟨q, hq, hu⟩ := List.mem_flatten.1 hu
      exact (hone q hq).2 u hu
    · intro v' w' k1 k2 _ k4
      refine h v' w' ⟨by simp; omega, rows ++ rs, by simpa using k1, by simp [h2, g1], ?_, ?_⟩ k2 k4
      · intro q hq
        rcases List.mem_append.1 hq with hq | hq
        · exact h3 q hq
        · exact hone q hq
      · have hd : Dirty (fun k => v.ownBlock = some k ∨ E k) w w' := (Dirty.of_grown k2).mono fun k _ hk => Or.inl hk
        have hmv : ∀ k, k < w.heap.size → (v'.ownBlock = some k ∨ E k) → (v.ownBlock = some k ∨ E k) := by
          intro k hk hh
          rcases hh with hh | hh
          · rcases k4 with k4 | k4
            · exact Or.inl (k4 ▸ hh)
            · rw [k4] at hh; cases hh; omega
          · exact Or.inr hh
        intro m q u hq hu
        by_cases hm : m < l.length
        · rw [List.getElem?_append_left (by omega)] at hq hu
          exact (h4 m q u hq hu).move hd hmv
        · rw [List.getElem?_append_right (by omega)] at hq hu
          rw [h2] at hq
          exact (hRS.framed (g3 _ q u hq hu) hw0 hD).move hd hmv
theorem OwnRow.drew {sz : Nat} {E : Nat → Prop} {w : World} {e : TypeId} {base : Nat} {v : Value} {l : List α} (h : OwnRow sz R E w e base v l) : OwnRow sz R E w.drew e base v l := ⟨h.top, h.row⟩
theorem IsRow.drew {sz : Nat} {w : World} {v : Value} {l : List α} (h : IsRow sz R w v l) (hR : R.Stays) : IsRow sz R w.drew v l := h.later hR ⟨Nat.le_refl _, fun _ _ _ => rfl⟩
/-- An empty row that has just been laid down. -/
theorem OwnRow.made {sz : Nat} {E : Nat → Prop} (w : World) (e : TypeId) : OwnRow sz R E (w.alloc (.cells #[] e)) e w.heap.size (.slice (some ⟨w.heap.size, 0, none⟩) 0 0) [] :=
  ⟨by simp, [], by simpa using World.ownsRow_made w #[] 0 (Nat.le_refl _) (by unfold maxLen; omega) (by simp), rfl, by simp, fun i r x h => by simp at h⟩
end

/-! ### On the way of a copy: the first elements are done -/
/-- Beside what is read: of those that are done something on their cells. -/
def RFlag {α : Type} (R : Rd α) (C : List Value → Prop) : Rd (α × Bool) := fun w cs y => R w cs y.1 ∧ (y.2 = true → C cs)
def flagL {α : Type} (l : List α) (k : Nat) : List (α × Bool) := (l.take k).map (fun x => (x, true)) ++ (l.drop k).map (fun x => (x, false))
section
variable {α β : Type} {R : Rd α} {R' : Rd β} {sz : Nat} {E E' : Nat → Prop} {w : World} {e : TypeId} {base : Nat} {v : Value} {l : List α}
theorem flagL_zero (l : List α) : flagL l 0 = l.map (fun x => (x, false)) := by simp [flagL]
theorem flagL_all (l : List α) : flagL l l.length = l.map (fun x => (x, true)) := by simp [flagL]
theorem flagL_fst (l : List α) (k : Nat) : (flagL l k).map Prod.fst = l := by simp [flagL, Function.comp_def]
theorem flagL_len (l : List α) (k : Nat) : (flagL l k).length = l.length := by simp [flagL]; omega
theorem flagL_get {l : List α} {k : Nat} {x : α} (h : l[k]? = some x) : (flagL l k)[k]? = some (x, false) := by
  have hk := (List.getElem?_eq_some_iff.1 h).1
  have hl : ((l.take k).map fun x => (x, true)).length = k := by simp; omega
  unfold flagL
  rw [List.getElem?_append_right (by omega), hl]
  simp [h]
theorem flagL_step {l : List α} {k : Nat} {x : α} (h : l[k]? = some x) : (flagL l k).set k (x, true) = flagL l (k + 1) := by
  have hk := (List.getElem?_eq_some_iff.1 h).1
  have hl : ((l.take k).map fun x => (x, true)).length = k := by simp; omega
  unfold flagL
  rw [List.set_append_right _ _ (by omega), hl, Nat.sub_self, take_get h, drop_get h]
  simp
theorem OwnRow.conv (h : OwnRow sz R E w e base v l) (f : α → β) (hc : ∀ cs x, x ∈ l → Framed (fun k => v.ownBlock = some k ∨ E k) R w cs x → Framed (fun k => v.ownBlock = some k ∨ E' k) R' w cs (f x)) : OwnRow sz R' E' w e base v (l.map f) := by
  obtain ⟨rows, h1, h2, h3, h4⟩ := h.row
  refine ⟨by simpa using h.top, rows, by simpa using h1, by simpa using h2, h3, fun i r y hr hy => ?_⟩
  rw [List.getElem?_map, Option.map_eq_some_iff] at hy
  obtain ⟨x, hx, rfl⟩ := hy
  exact hc r x (List.mem_of_getElem? hx) (h4 i r x hr hx)
theorem OwnRow.flag {C : List Value → Prop} (h : OwnRow sz R E w e base v l) : OwnRow sz (RFlag R C) E w e base v (flagL l 0) := by
  rw [flagL_zero]
  exact h.conv _ fun cs x _ hf w' hw' => ⟨hf w' hw', fun hh => by cases hh⟩
theorem OwnRow.unflag {C : List Value → Prop} {k : Nat} (h : OwnRow sz (RFlag R C) E w e base v (flagL l k)) : OwnRow sz R E w e base v l := by
  have := h.conv (R' := R) (E' := E) Prod.fst fun cs x _ hf w' hw' => (hf w' hw').1
  rwa [flagL_fst] at this
end
end Go.Proofs.Ytpjlngkndofjfaa
