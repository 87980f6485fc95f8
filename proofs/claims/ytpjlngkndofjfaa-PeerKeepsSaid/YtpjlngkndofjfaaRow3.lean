/-
  Own rows of structs: a part of one written anew; copy of elements of more than one cell; append of noughts that makes it grow.
-/
import Derived.Test.YtpjlngkndofjfaaLib5
import Derived.Test.YtpjlngkndofjfaaRow2
import Derived.Lib.AppendZerosOnto
namespace Go.Proofs.Ytpjlngkndofjfaa
open Go.RowKit

theorem grown_setCellsR (g : Nat) : ∀ (vs : List Value) (o : Nat) (w : World), w.grownBy (w.setCells g o vs) (some g)
  | [], _, w => World.grownBy.refl w _
  | v :: vs, o, w => (grown_setCell w ⟨g, o, none⟩ v).trans (grown_setCellsR g vs (o + 1) _)
theorem flatten_dropR {sz : Nat} : ∀ {rows : List (List Value)} (n : Nat), (∀ r ∈ rows, r.length = sz) → (rows.drop n).flatten = rows.flatten.drop (n * sz)
  | [], n, _ => by simp
  | q :: rows, 0, _ => by simp
  | q :: rows, n + 1, hs => by
    have hq := hs q (by simp)
    rw [List.drop_succ_cons, List.flatten_cons, flatten_dropR n (fun r hr => hs r (by simp [hr])), List.drop_append, hq, List.drop_of_length_le (l := q) (by rw [hq, Nat.add_mul]; omega), List.nil_append]
    rw [show (n + 1) * sz - sz = n * sz by rw [Nat.add_mul]; omega]

section
variable {α : Type} {R : Rd α} {sz : Nat} {E : Nat → Prop} {w w' : World} {e : TypeId} {base : Nat} {v : Value} {l : List α}
/-- The cells of the elements from a place on. -/
theorem OwnRow.part {g L cap : Nat} (h : OwnRow sz R E w e base (.slice (some ⟨g, 0, none⟩) L cap) l) (k : Nat) : ∃ rs : List (List Value), rs.length = (l.drop k).length ∧ (∀ r ∈ rs, r.length = sz ∧ ∀ c ∈ r, c.oneCell' = true) ∧
    (∀ (i : Nat) (r : List Value) (x : α), rs[i]? = some r → (l.drop k)[i]? = some x → Framed (fun j => some g = some j ∨ E j) R w r x) ∧ rs.flatten.length = (l.length - k) * sz ∧ (∀ j u, rs.flatten[j]? = some u → w.cell? ⟨g, k * sz + j, none⟩ = some u) := by
  obtain ⟨rows, h1, h2, h3, h4⟩ := h.row
  have hsz : ∀ r ∈ rows, r.length = sz := fun r hr => (h3 r hr).1
  refine ⟨rows.drop k, by simp [h2], fun r hr => h3 r (List.mem_of_mem_drop hr), fun i r x hr hx => ?_, ?_, fun j u hj => ?_⟩
  · rw [List.getElem?_drop] at hr hx
    exact h4 (k + i) r x hr hx
  · rw [flatten_len (fun r hr => hsz r (List.mem_of_mem_drop hr)), List.length_drop, h2]
  · rw [flatten_dropR _ hsz, List.getElem?_drop] at hj
    have := h1.cells (g := g) rfl _ _ hj
    rwa [add_zero'] at this
/-- The cells behind a place may be written, as far as there is room. -/
theorem OwnRow.spare {g L cap : Nat} (h : OwnRow sz R E w e base (.slice (some ⟨g, 0, none⟩) L cap) l) {j : Nat} (hj : j < cap * sz) : (w.cell? ⟨g, j, none⟩).isSome = true ∧ w.frozen? ⟨g, j, none⟩ = false := by
  rcases h.shape with ⟨h5, _⟩ | ⟨g', cap', cur, h5, _, _, _, _, hg, hs⟩
  · cases h5
  · simp only [Value.slice.injEq, Option.some.injEq, Addr.mk.injEq] at h5
    obtain ⟨⟨rfl, _, _⟩, _, rfl⟩ := h5
    constructor
    · rw [World.cell?, hg]
      simp
      omega
    · simp [World.frozen?, hg]
/-- Elements are written over a part of the row, or behind its end. -/
theorem OwnRow.splice {g L cap : Nat} (h : OwnRow sz R E w e base (.slice (some ⟨g, 0, none⟩) L cap) l) {k : Nat} (hk : k ≤ l.length) {rs : List (List Value)} {xs : List α} (hlen : rs.length = xs.length) (hr : ∀ r ∈ rs, r.length = sz ∧ ∀ c ∈ r, c.oneCell' = true)
    (hR : ∀ (i : Nat) (r : List Value) (x : α), rs[i]? = some r → xs[i]? = some x → Framed (fun j => some g = some j ∨ E j) R w r x) (hcap : k + xs.length ≤ cap) (htop : k + xs.length ≤ 1000000) {n : Nat} (hn : n = (l.take k ++ xs ++ l.drop (k + xs.length)).length) :
    OwnRow sz R E (w.setCells g (k * sz) rs.flatten) e base (.slice (some ⟨g, 0, none⟩) n cap) (l.take k ++ xs ++ l.drop (k + xs.length)) := by
  obtain ⟨rows, h1, h2, h3, h4⟩ := h.row
  have hsz : ∀ r ∈ rows, r.length = sz := fun r hr => (h3 r hr).1
  have ht := h.top
  have hnl : n = k + xs.length + (l.length - (k + xs.length)) := by rw [hn]; simp; omega
  have hdirty : Dirty (fun j => (Value.slice (some ⟨g, 0, none⟩) L cap).ownBlock = some j ∨ E j) w (w.setCells g (k * sz) rs.flatten) :=
    (Dirty.of_grown (grown_setCellsR g rs.flatten (k * sz) w)).mono fun j _ hj => by cases hj; exact Or.inl rfl
  have hrl : rs.flatten.length = xs.length * sz := by rw [flatten_len (fun r hr' => (hr r hr').1), hlen]
  have hfll : rows.flatten.length = l.length * sz := by rw [flatten_len hsz, h2]
  refine ⟨by rw [← hn]; omega, rows.take k ++ rs ++ rows.drop (k + xs.length), ?_, ?_, fun r hr' => ?_, ?_⟩
  · rw [← hn]
    have hfl : (rows.take k ++ rs ++ rows.drop (k + xs.length)).flatten = rows.flatten.take (k * sz) ++ rs.flatten ++ rows.flatten.drop ((k + xs.length) * sz) := by
      rw [List.flatten_append, List.flatten_append, flatten_take k hsz, flatten_dropR _ hsz]
    have hK : k * sz ≤ l.length * sz := Nat.mul_le_mul_right _ hk
    have hKM : (k + xs.length) * sz = k * sz + xs.length * sz := Nat.add_mul _ _ _
    have hN : n * sz = k * sz + xs.length * sz + (l.length * sz - (k * sz + xs.length * sz)) := by rw [hnl, Nat.add_mul, Nat.sub_mul, hKM]
    have htl : (rows.flatten.take (k * sz)).length = k * sz := by rw [List.length_take, hfll, Nat.min_eq_left hK]
    refine ⟨?_, ?_⟩
    · rw [hfl, List.length_append, List.length_append, htl, hrl, List.length_drop, hfll, hN, hKM]
    · rcases h1.2 with ⟨h5, _⟩ | ⟨g', cap', cur, h5, h6, h7, h8, h9, h10, h11⟩
      · cases h5
      · simp only [Value.slice.injEq, Option.some.injEq, Addr.mk.injEq] at h5
        obtain ⟨⟨rfl, _, _⟩, _, rfl⟩ := h5
        have hcap2 : (k + xs.length) * sz ≤ cap * sz := Nat.mul_le_mul_right _ hcap
        have hcap3 : l.length * sz ≤ cap * sz := Nat.mul_le_mul_right _ h8
        obtain ⟨cur1, c1, c2, c3⟩ := row_setCells g e rs.flatten (k * sz) w cur h7 (by rw [hrl, h10]; omega)
        refine .inr ⟨g, cap, cur1, rfl, h6, c1, by omega, h9, by rw [c2, h10], ?_⟩
        rw [hfl]
        generalize k * sz = K at *
        generalize xs.length * sz = M at *
        generalize l.length * sz = NN at *
        generalize n * sz = T at *
        apply List.ext_getElem?
        intro j
        rw [List.getElem?_take]
        by_cases hj : j < T
        · rw [if_pos hj, Array.getElem?_toList, c3]
          have hcur : j < NN → cur[j]? = rows.flatten[j]? := fun hjn => by
            rw [← h11, List.getElem?_take, if_pos hjn, Array.getElem?_toList]
          by_cases hjk : j < K
          · rw [if_neg (by omega), List.append_assoc, List.getElem?_append_left (by omega), List.getElem?_take, if_pos hjk, hcur (by omega)]
          · by_cases hjm : j < K + M
            · rw [if_pos (by omega), List.append_assoc, List.getElem?_append_right (by omega), htl, List.getElem?_append_left (by omega)]
            · rw [if_neg (by omega), List.getElem?_append_right (by rw [List.length_append]; omega), List.length_append, htl, hrl, List.getElem?_drop, hcur (by omega), hKM]
              congr 1
              omega
        · rw [if_neg hj, List.getElem?_eq_none (by
            rw [List.length_append, List.length_append, List.length_drop]
            omega)]
  · simp [h2, hlen]
  · simp only [List.mem_append] at hr'
    rcases hr' with (hr' | hr') | hr'
    · exact h3 r (List.mem_of_mem_take hr')
    · exact hr r hr'
    · exact h3 r (List.mem_of_mem_drop hr')
  · intro m q x hq hx
    have hrk : (rows.take k).length = k := by rw [List.length_take]; omega
    have hlk : (l.take k).length = k := by rw [List.length_take]; omega
    by_cases h5 : m < k
    · rw [List.append_assoc, List.getElem?_append_left (by omega), List.getElem?_take, if_pos h5] at hq hx
      exact (h4 m q x hq hx).step hdirty
    · by_cases h6 : m < k + xs.length
      · rw [List.append_assoc, List.getElem?_append_right (by omega), List.getElem?_append_left (by omega)] at hq hx
        rw [hrk] at hq
        rw [hlk] at hx
        exact (hR (m - k) q x hq hx).step hdirty
      · rw [List.getElem?_append_right (by rw [List.length_append]; omega), List.length_append, List.getElem?_drop] at hq hx
        rw [hrk, hlen] at hq
        rw [hlk] at hx
        exact (h4 _ q x hq hx).step hdirty
/-- One element is written anew. -/
theorem OwnRow.setElem {g L cap : Nat} (h : OwnRow sz R E w e base (.slice (some ⟨g, 0, none⟩) L cap) l) {k : Nat} (hk : k < l.length) {r : List Value} {x : α} (hr : r.length = sz) (h1 : ∀ c ∈ r, c.oneCell' = true) (hR : Framed (fun j => some g = some j ∨ E j) R w r x) :
    OwnRow sz R E (w.setCells g (k * sz) r) e base (.slice (some ⟨g, 0, none⟩) L cap) (l.set k x) := by
  have ht := h.top
  have hcap : l.length ≤ cap ∧ L = l.length := by
    rcases h.shape with ⟨h5, _⟩ | ⟨g', cap', cur, h5, _, _, h8, _⟩
    · cases h5
    · simp only [Value.slice.injEq, Option.some.injEq, Addr.mk.injEq] at h5
      obtain ⟨_, rfl, rfl⟩ := h5
      exact ⟨h8, rfl⟩
  have hs := h.splice (k := k) (by omega) (rs := [r]) (xs := [x]) rfl (fun q hq => by simp at hq; subst hq; exact ⟨hr, h1⟩) (fun i q y hq hy => by
    match i, hq, hy with
    | 0, hq, hy => simp at hq hy; subst hq hy; exact hR
    | i + 1, hq, hy => simp at hq) (by simp; omega) (by simp; omega) (n := L) (by simp; omega)
  have e1 : l.take k ++ [x] ++ l.drop (k + [x].length) = l.set k x := by
    rw [List.set_eq_take_append_cons_drop, if_pos hk]
    simp
  have e2 : [r].flatten = r := by simp
  rw [e1, e2] at hs
  exact hs
end

section
variable {P : Program}
/-- 'copy' of elements of whatever size: all is read before anything is written. -/
theorem run_copy_big (w : World) (dT sT ty elem : TypeId) (i : TypeInfo) (b o dLen dCap : Nat) (a : Addr) (sLen sCap : Nat) (cs : List Value)
    (hu : P.underlying dT = some (.slice elem)) (hs : P.info? elem = some i) (hn : cs.length = Nat.min sLen dLen * i.size)
    (hsrc : ∀ j v, cs[j]? = some v → w.cell? (a.add j) = some v) (hc : ∀ j, j < cs.length → (w.cell? ⟨b, o + j, none⟩).isSome = true ∧ w.frozen? ⟨b, o + j, none⟩ = false) (h1 : ∀ v ∈ cs, v.oneCell' = true) :
    (Builtin.copy_ #[dT, sT] ty #[.slice (some ⟨b, o, none⟩) dLen dCap, .slice (some a) sLen sCap]).run P w = .ok (goInt (Nat.min sLen dLen)) (w.setCells b o cs) := by
  have hl := run_loadCells_list (P := P) w a cs hsrc
  have hst := run_storeCells_cells (P := P) b o cs 0 w (by simpa using fun j hj => (hc j hj).1) (by simpa using fun j hj => (hc j hj).2) h1
  simp [Builtin.copy_, run_underlying hu, Builtin.lenOf, Builtin.firstCells, sizeOf, typeInfo, hs, ← hn, hl, hst]
/-- 'copy' of elements of whatever size, at the operation. -/
theorem wpList_copy_big {w : World} {ops : Array Oper} {rest : List Oper} {o : Oper} {a : Act} {Q : Exit → Act → World → Prop} (hgd : o.guard = none) (d s : Operand) (dT sT : TypeId)
    (ho : o.op = .call { callee := .builtin .copy, args := #[d, s], argTypes := #[dT, sT] }) (elem : TypeId) (hu : P.underlying dT = some (.slice elem)) (i : TypeInfo) (hs0 : P.info? elem = some i)
    (b off dLen dCap : Nat) (ad : Addr) (sLen sCap : Nat) (hd : a.eval d = .slice (some ⟨b, off, none⟩) dLen dCap) (hs : a.eval s = .slice (some ad) sLen sCap) (cs : List Value) (hn : cs.length = Nat.min sLen dLen * i.size)
    (hsrc : ∀ j v, cs[j]? = some v → w.cell? (ad.add j) = some v) (hc : ∀ j, j < cs.length → (w.cell? ⟨b, off + j, none⟩).isSome = true ∧ w.frozen? ⟨b, off + j, none⟩ = false) (h1 : ∀ v ∈ cs, v.oneCell' = true)
    (h : wpList P ops Q rest (a.put o.dst (goInt (Nat.min sLen dLen))) (w.setCells b off cs)) : wpList P ops Q (o :: rest) a w := by
  refine wpList_plain hgd fun K hK => ?_
  have hrun := run_copy_big (P := P) w dT sT o.type elem i b off dLen dCap ad sLen sCap cs hu hs0 hn hsrc hc h1
  unfold Oper.wp
  simp [execOp, ho, resolve, invoke, builtin, hd, hs, hrun, Result.andThen]
  exact hK _ _ h
/-- The same as one step of a region that draws its order. -/
theorem step_copy_big {w : World} {ops : Array Oper} {o : Oper} {a : Act} {K : Act → World → Prop} {Q : Exit → Act → World → Prop} {F : Prop} (hgd : o.guard = none) (d s : Operand) (dT sT : TypeId)
    (ho : o.op = .call { callee := .builtin .copy, args := #[d, s], argTypes := #[dT, sT] }) (elem : TypeId) (hu : P.underlying dT = some (.slice elem)) (i : TypeInfo) (hs0 : P.info? elem = some i)
    (b off dLen dCap : Nat) (ad : Addr) (sLen sCap : Nat) (hd : a.eval d = .slice (some ⟨b, off, none⟩) dLen dCap) (hs : a.eval s = .slice (some ad) sLen sCap) (cs : List Value) (hn : cs.length = Nat.min sLen dLen * i.size)
    (hsrc : ∀ j v, cs[j]? = some v → w.cell? (ad.add j) = some v) (hc : ∀ j, j < cs.length → (w.cell? ⟨b, off + j, none⟩).isSome = true ∧ w.frozen? ⟨b, off + j, none⟩ = false) (h1 : ∀ v ∈ cs, v.oneCell' = true)
    (h : K (a.put o.dst (goInt (Nat.min sLen dLen))) (w.setCells b off cs)) : if Region.wanted o (yielded ops a.tmps) = true then Oper.wp P o a w K Q else F := by
  have hw : Region.wanted o (yielded ops a.tmps) = true := by simp [Region.wanted, hgd]
  rw [if_pos hw]
  have hrun := run_copy_big (P := P) w dT sT o.type elem i b off dLen dCap ad sLen sCap cs hu hs0 hn hsrc hc h1
  unfold Oper.wp
  simp [execOp, ho, resolve, invoke, builtin, hd, hs, hrun, Result.andThen]
  exact h
variable {α : Type} {R : Rd α}
/-- 'append(row, make([]T, k)...)' where there is no room: a new row, of which the first elements are those of the old one. -/
theorem wpList_append_grow {w : World} {ops : Array Oper} {rest : List Oper} {o : Oper} {a : Act} {Q : Exit → Act → World → Prop} (hgd : o.guard = none) (s x : Operand) (t tn : TypeId)
    (ho : o.op = .call { callee := .builtin .append, args := #[s, x], argTypes := #[t, tn] }) (sz : Nat) (E : Nat → Prop) (e : TypeId) (ht : P.underlying t = some (.slice e)) (htn : P.underlying tn = some (.int .i64)) (z : Value) (bytes : Nat)
    (hinfo : (P.info? e).map (fun i => (i.zero, i.size, i.bytes)) = some (some z, sz, bytes)) (hzs : z.cells.size = sz) (hsz : 0 < sz) (hby : bytes ≤ 1000) (base g n cap k : Nat) (l : List α) (hs : a.eval s = .slice (some ⟨g, 0, none⟩) n cap) (hown : OwnRow sz R E w e base (.slice (some ⟨g, 0, none⟩) n cap) l)
    (hx : a.eval x = .int .i64 (k : Int)) (hk : 0 < k) (hg : cap < n + k) (hl : n + k ≤ 1000000) (hbase : base ≤ w.heap.size) 
    (h : ∀ cap' w', OwnRow sz R E w' e base (.slice (some ⟨w.heap.size, 0, none⟩) n cap') l → n + k ≤ cap' → w.grownBy w' none → w.heap.size < w'.heap.size → wpList P ops Q rest (a.put o.dst (.slice (some ⟨w.heap.size, 0, none⟩) (n + k) cap')) w') : wpList P ops Q (o :: rest) a w := by
  obtain ⟨i, hi0, hz0, hs0, hb0⟩ := info_parts hinfo
  obtain ⟨rows, h1, h2, h3, h4⟩ := hown.row
  have hsz' : ∀ r ∈ rows, r.length = sz := fun r hr => (h3 r hr).1
  have hfl : rows.flatten.length = l.length * sz := by rw [flatten_len hsz', h2]
  have hnl : n = l.length ∧ l.length ≤ cap := by
    rcases hown.shape with ⟨h5, _⟩ | ⟨g', cap', cur, h5, _, _, h8, _⟩
    · cases h5
    · simp only [Value.slice.injEq, Option.some.injEq, Addr.mk.injEq] at h5
      obtain ⟨_, rfl, rfl⟩ := h5
      exact ⟨rfl, h8⟩
  obtain ⟨rfl, hlc⟩ := hnl
  have hcap : Builtin.nextslicecap (l.length + k) cap * i.bytes ≤ 281474976710656 := growslice_fits hg (by
    have : (l.length + k) * i.bytes ≤ (l.length + k) * 1000 := Nat.mul_le_mul_left _ (by omega)
    omega)
  have hold : (Builtin.firstCells i.size l.length (.slice (some ⟨g, 0, none⟩) l.length cap)).run P w.drew = .ok rows.flatten.toArray w.drew := by
    refine run_firstCells_some (P := P) w.drew i.size l.length ⟨g, 0, none⟩ l.length cap rows.flatten (by rw [hfl, hs0]) (fun j u hj => ?_)
    exact h1.cells (g := g) rfl _ _ hj
  have hbk : k * i.bytes ≤ 281474976710656 := by
    have : k * i.bytes ≤ k * 1000 := Nat.mul_le_mul_left _ (by omega)
    omega
  have hrun := Lib.run_append_grow_zeros (P := P) w t tn o.type e i z .i64 .i64 ht htn hi0 hz0 (some ⟨g, 0, none⟩) l.length cap rows.flatten hold k hk (by omega) hg (by omega) hbk hcap
  refine wpList_plain hgd fun K hK => ?_
  unfold Oper.wp
  simp [execOp, ho, resolve, invoke, builtin, hs, hx, hrun, Result.andThen]
  refine hK _ _ (h _ _ ?_ (grownCap_ge w (l.length + k) cap e) ⟨rfl, rfl, rfl, by simp, fun j hj _ => heap_alloc_old w.drew _ hj⟩ (by simp))
  have hge := grownCap_ge w (l.length + k) cap e
  have hcm : grownCap w (l.length + k) cap e ≤ maxLen := grownCap_le_maxLen w (l.length + k) cap e (by unfold maxLen; omega)
  refine ⟨hown.top, rows, ⟨by rw [hfl], .inr ⟨w.heap.size, _, _, rfl, hbase, heap_alloc_new w.drew _, by omega, hcm, ?_, ?_⟩⟩, h2, h3, fun m r x hr hx => ?_⟩
  · simp only [Array.size_append, List.size_toArray, size_zeroCells, hzs, hfl, ← Nat.add_mul]
    congr 1
    omega
  · simp only [Array.toList_append]
    rw [← hfl]
    exact List.take_left
  · refine (h4 m r x hr hx).move (⟨by simp, fun j hj _ => heap_alloc_old w.drew _ hj⟩) (fun j hj hh => ?_)
    rcases hh with hh | hh
    · simp only [Value.ownBlock, Option.some.injEq] at hh
      omega
    · exact Or.inr hh
end
end Go.Proofs.Ytpjlngkndofjfaa
