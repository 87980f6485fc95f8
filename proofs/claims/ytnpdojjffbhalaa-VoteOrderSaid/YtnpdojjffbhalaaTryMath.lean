/-
  What vote.Most's inner function holds in its boxes; what a set of shares makes can be split.
-/
import Derived.Test.YtnpdojjffbhalaaFit
import Derived.Test.YtnpdojjffbhalaaDel
namespace Go.Proofs.Ytnpdojjffbhalaa
open Go.RowKit

/-- Read as it was read in one world. -/
def RAt {α : Type} (W : World) (R : Rd α) : Rd α := fun _ cs x => R W cs x
theorem RAt.stays {α : Type} {W : World} {R : Rd α} : (RAt W R).Stays := fun _ _ _ h _ _ => h
theorem RAt.one {α : Type} {W : World} {R : Rd α} (h : R.One) : (RAt W R).One := fun _ cs x hr => h W cs x hr
theorem IsRow.ofAt {α : Type} {W w : World} {R : Rd α} {sz : Nat} {v : Value} {l : List α} (h : IsRow sz (RAt W R) w v l) (hR : R.Stays) (hw : Dirty (fun _ => False) W w) : IsRow sz R w v l := by
  obtain ⟨a, c, e, h1, h2, h3⟩ := h
  refine ⟨a, c, e, h1, h2, fun i x hx => ?_⟩
  obtain ⟨b, off, e', cs, g1, g2, g3⟩ := h3 i x hx
  exact ⟨b, off, e', cs, g1, g2, hR W cs x g3 w hw⟩
theorem OwnRow.anyE {α : Type} {W w : World} {R : Rd α} {sz : Nat} {E E' : Nat → Prop} {e : TypeId} {base : Nat} {v : Value} {l : List α} (h : OwnRow sz (RAt W R) E w e base v l) : OwnRow sz (RAt W R) E' w e base v l := by
  have := h.conv (R' := RAt W R) (E' := E') id (fun cs x _ hf w' _ => (hf.now : R W cs x))
  simpa using this

theorem Right.sub {n o s : Nat} {ls pk : List Sh} (h : Right n o s ls) (hs : pk.Sublist ls) (hn : n ≤ pk.length) : Right n o s pk :=
  ⟨h.plan, hn, Nat.le_trans hs.length_le h.many, fun t ht => h.num t (hs.subset ht), fun t ht => h.len t (hs.subset ht), fun t ht => h.vals t (hs.subset ht), h.nodup.sublist (hs.map _)⟩
theorem Right.check {n o s : Nat} {ls : List Sh} (h : Right n o s ls) : checkL n o s [] ls = 0 :=
  checkL_zero (fun t ht => oneV_zero h.plan (h.num t ht).1 (h.num t ht).2 (h.len t ht) (h.vals t ht)) (by simpa [List.Nodup] using h.nodup)
theorem Right.checks {n o s : Nat} {ls : List Sh} (h : Right n o s ls) : checksL n o s ls = 0 := by
  have h1 := h.few
  have h2 := h.many
  unfold checksL
  rw [if_neg (by simpa using h.plan), if_neg (by omega), if_neg (by simpa using h.check), if_neg (by omega)]
theorem right_iff {n o s : Nat} {ls : List Sh} : checksL n o s ls = 0 ↔ Right n o s ls := by
  refine ⟨fun h => ?_, Right.checks⟩
  unfold checksL at h
  split at h
  · rename_i h1; exact absurd h h1
  · rename_i h1
    split at h
    · simp at h
    · rename_i h2
      split at h
      · rename_i h3; exact absurd h h3
      · rename_i h3
        split at h
        · simp at h
        · rename_i h4
          exact right_of (by simpa using h1) (by omega) (by omega) (by simpa using h3)
theorem join_split {n o s : Nat} {ls : List Sh} (h : Right n o s ls) (hj : joinE n o s ls = 0) : splitE n o s (joinC n o s ls) = 0 := by
  obtain ⟨p1, p2, p3, p4, p5, p6⟩ := planV_bd h.plan
  obtain ⟨r1, r2, r3⟩ := rowsN_bd (n := n) (s := s) (by omega) (by omega) (by omega) (by omega)
  have hl : (joinC n o s ls).length = s := by
    rw [joinC_ok hj]
    unfold joinD
    rw [List.length_take, dataL_len]
    omega
  have hv : allV (joinC n o s ls) = 0 := by
    rw [allV_ok, joinC_ok hj]
    intro z hz
    have hz := List.mem_of_mem_take hz
    unfold dataL at hz
    obtain ⟨q, hq, hz⟩ := List.mem_flatten.1 hz
    obtain ⟨i, _, rfl⟩ := List.mem_map.1 hq
    obtain ⟨j, _, rfl⟩ := List.mem_map.1 hz
    exact atV_bd _ _ _
  unfold splitE
  rw [if_neg (by simpa using h.plan), if_neg (by rw [hl]; simp), hv]

/-- The boxes: the plan's, the list's, those of 'who' and 'best', that of the function itself. -/
structure Tb where
  (p l w b t : Nat)
def Tb.ok (z : Tb) (B : Nat) : Prop := z.p ≠ z.w ∧ z.p ≠ z.b ∧ z.l ≠ z.w ∧ z.l ≠ z.b ∧ z.t ≠ z.w ∧ z.t ≠ z.b ∧ z.w ≠ z.b ∧ B ≤ z.w ∧ B ≤ z.b
def Tb.E (z : Tb) (k : Nat) : Prop := k = z.w ∨ k = z.b
def Tb.caps (z : Tb) : Array Value := #[.pointer (some ⟨z.p, 0, none⟩), .pointer (some ⟨z.l, 0, none⟩), .pointer (some ⟨z.w, 0, none⟩), .pointer (some ⟨z.b, 0, none⟩), .pointer (some ⟨z.t, 0, none⟩)]
/-- What does not change. -/
def TryC (z : Tb) (n o s : Nat) (al : Option Addr) (ln cl : Nat) (w : World) : Prop :=
  w.cell? ⟨z.p, 0, none⟩ = some (.int .i64 n) ∧ w.cell? ⟨z.p, 1, none⟩ = some (.int .i64 o) ∧ w.cell? ⟨z.p, 2, none⟩ = some (.int .i64 s) ∧ w.cell? ⟨z.l, 0, none⟩ = some (.slice al ln cl) ∧ w.cell? ⟨z.t, 0, none⟩ = some (.func (.func 49) #[] z.caps)
theorem TryC.dirty {z : Tb} {B n o s : Nat} {al : Option Addr} {ln cl : Nat} {w w' : World} (h : TryC z n o s al ln cl w) (hz : z.ok B) (hw : Dirty z.E w w') : TryC z n o s al ln cl w' := by
  obtain ⟨h1, h2, h3, h4, h5⟩ := h
  obtain ⟨z1, z2, z3, z4, z5, z6, z7, _, _⟩ := hz
  have np : ¬ z.E z.p := fun h => by rcases h with h | h <;> omega
  have nl : ¬ z.E z.l := fun h => by rcases h with h | h <;> omega
  have nt : ¬ z.E z.t := fun h => by rcases h with h | h <;> omega
  exact ⟨hw.cell h1 np, hw.cell h2 np, hw.cell h3 np, hw.cell h4 nl, hw.cell h5 nt⟩
theorem TryC.stays {z : Tb} {n o s : Nat} {al : Option Addr} {ln cl : Nat} {w w' : World} (h : TryC z n o s al ln cl w) (hw : Below w.heap.size w w') : TryC z n o s al ln cl w' := by
  obtain ⟨h1, h2, h3, h4, h5⟩ := h
  exact ⟨below_cell hw h1, below_cell hw h2, below_cell hw h3, below_cell hw h4, below_cell hw h5⟩
/-- What is best so far stands in two boxes. -/
def TryB (z : Tb) (w : World) (st : Vs) : Prop :=
  ∃ aw cw ab nb cb, w.heap[z.w]? = some (.cells #[.slice aw st.2.length cw] 24 (0, 0)) ∧ w.heap[z.b]? = some (.cells #[.slice ab nb cb] 24 (0, 0)) ∧ IsInts w (.slice aw st.2.length cw) st.2 ∧ IsInts w (.slice ab nb cb) st.1 ∧ (st.2 = [] → aw = none ∧ cw = 0)
theorem TryB.stays {z : Tb} {w w' : World} {st : Vs} (h : TryB z w st) (hw : Below w.heap.size w w') : TryB z w' st := by
  obtain ⟨aw, cw, ab, nb, cb, h1, h2, h3, h4, h5⟩ := h
  exact ⟨aw, cw, ab, nb, cb, (hw.block z.w (Array.getElem?_eq_some_iff.1 h1).1).trans h1, (hw.block z.b (Array.getElem?_eq_some_iff.1 h2).1).trans h2, h3.stays hw, h4.stays hw, h5⟩
/-- Numbers do not lie in a box that holds a slice. -/
theorem ints_off {w : World} {v : Value} {l : List Int} {g : Nat} {a : Option Addr} {n c : Nat} {T : TypeId} (h : IsInts w v l) (hg : w.heap[g]? = some (.cells #[.slice a n c] T (0, 0))) : ∀ k, Value.lies v k → l ≠ [] → k ≠ g := by
  rintro k ⟨y, n', c', rfl, rfl⟩ hl e
  obtain ⟨a', c'', e1, _, _, hi⟩ := h
  simp only [Value.slice.injEq] at e1
  obtain ⟨rfl, _, _⟩ := e1
  obtain ⟨b, off, z, e2, hc, _⟩ := hi 0 (List.length_pos_iff.2 hl)
  cases e2
  simp only at e
  subst e
  unfold World.cell? at hc
  simp only [hg] at hc
  rcases Nat.eq_zero_or_pos off with h0 | h0
  · subst h0; simp at hc
  · have hn : (#[Value.slice a n c] : Array Value)[off + 0]? = none := Array.getElem?_eq_none (by simp; omega)
    simp only [hn] at hc
    split at hc <;> cases hc
theorem TryB.vote {z : Tb} {w : World} {st : Vs} {B : Nat} (h : TryB z w st) (hz : z.ok B) {a1 a2 : Option Addr} {n1 c1 c2 : Nat} {D F : List Int} (h1 : IsInts w (.slice a1 n1 c1) D) (h2 : IsInts w (.slice a2 F.length c2) F) (hF : F ≠ []) :
    TryB z ((w.setCell ⟨z.b, 0, none⟩ (.slice a1 n1 c1)).setCell ⟨z.w, 0, none⟩ (.slice a2 F.length c2)) (D, F) ∧ Dirty z.E w ((w.setCell ⟨z.b, 0, none⟩ (.slice a1 n1 c1)).setCell ⟨z.w, 0, none⟩ (.slice a2 F.length c2)) := by
  obtain ⟨aw, cw, ab, nb, cb, g1, g2, _⟩ := h
  obtain ⟨_, _, _, _, _, _, z7, _, _⟩ := hz
  have hd : Dirty z.E w ((w.setCell ⟨z.b, 0, none⟩ (.slice a1 n1 c1)).setCell ⟨z.w, 0, none⟩ (.slice a2 F.length c2)) :=
    ((Dirty.of_grown (grown_setCell w ⟨z.b, 0, none⟩ (.slice a1 n1 c1))).mono (fun k _ hk => by cases hk; exact Or.inr rfl)).trans ((Dirty.of_grown (grown_setCell _ ⟨z.w, 0, none⟩ (.slice a2 F.length c2))).mono (fun k _ hk => by cases hk; exact Or.inl rfl))
  have hoff : ∀ {v : Value} {l : List Int}, IsInts w v l → ∀ k, Value.lies v k → l ≠ [] → ¬ z.E k := fun hi k hk hl hE => by
    rcases hE with hE | hE
    · exact ints_off hi g1 k hk hl hE
    · exact ints_off hi g2 k hk hl hE
  refine ⟨⟨a2, c2, a1, n1, c1, ?_, ?_, h2.framed (hoff h2) hd, h1.framed (hoff h1) hd, fun e => absurd e hF⟩, hd⟩
  · have e1 : (w.setCell ⟨z.b, 0, none⟩ (.slice a1 n1 c1)).heap[z.w]? = some (.cells #[.slice aw st.2.length cw] 24 (0, 0)) := (Below.heap_setCell w ⟨z.b, 0, none⟩ _ z.w z7).trans g1
    have := heap_setCell_same _ z.w 0 _ _ (.slice a2 F.length c2) e1
    simpa using this
  · have e1 := heap_setCell_same w z.b 0 _ _ (.slice a1 n1 c1) g2
    exact (Below.heap_setCell _ ⟨z.w, 0, none⟩ _ z.b (fun e => z7 e.symm)).trans (by simpa using e1)
theorem fresh_cellsT (w : World) (l : List Value) (T : TypeId) (n : Nat) (hn : n = w.heap.size) : ∀ j u, l[j]? = some u → (w.alloc (.cells l.toArray T)).cell? ((⟨n, 0, none⟩ : Addr).add j) = some u := by
  subst hn
  intro j u hj
  rw [add_zero']
  unfold World.cell? World.alloc
  simp [hj]
/-- The row of shares is no box. -/
theorem TryB.off {z : Tb} {w : World} {st : Vs} (h : TryB z w st) {W : World} {E : Nat → Prop} {base : Nat} {v : Value} {l : List Sh} (ho : OwnRow 2 (RAt W RShare) E w 33 base v l) : ∀ k, v.ownBlock = some k → ¬ z.E k := by
  intro k hk hE
  obtain ⟨aw, cw, ab, nb, cb, h1, h2, _⟩ := h
  rcases ho.shape with ⟨rfl, _⟩ | ⟨g, cap, cur, rfl, _, _, _, _, hc, _⟩
  · cases hk
  · simp only [Value.ownBlock, Option.some.injEq] at hk
    subst hk
    rcases hE with rfl | rfl
    · rw [hc] at h1; cases h1
    · rw [hc] at h2; cases h2
/-- Three boxes, laid one behind the other. -/
theorem three_boxes (w : World) (a b c : Value) (T U : TypeId) : ∃ ws, ws = ((w.alloc (.cells #[a] T)).alloc (.cells #[b] T)).alloc (.cells #[c] U) ∧ ws.heap[w.heap.size]? = some (.cells #[a] T (0, 0)) ∧ ws.heap[w.heap.size + 1]? = some (.cells #[b] T (0, 0)) ∧ ws.heap[w.heap.size + 1 + 1]? = some (.cells #[c] U (0, 0)) ∧ Since w.heap.size w ws := by
  refine ⟨_, rfl, ?_, ?_, ?_, (((Since.refl w).alloc _).alloc _).alloc _⟩
  · rw [heap_alloc_old _ _ (by simp; omega), heap_alloc_old _ _ (by simp)]
    exact heap_alloc_new w _
  · rw [heap_alloc_old _ _ (by simp)]
    have := heap_alloc_new (w.alloc (.cells #[a] T)) (.cells #[b] T)
    simpa using this
  · have := heap_alloc_new ((w.alloc (.cells #[a] T)).alloc (.cells #[b] T)) (.cells #[c] U)
    simpa using this
end Go.Proofs.Ytnpdojjffbhalaa
