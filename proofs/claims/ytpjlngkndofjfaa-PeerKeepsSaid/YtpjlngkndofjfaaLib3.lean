/-
  More laws over any program: copy into an own row; slices of shares.
-/
import Derived.Test.YtpjlngkndofjfaaLib2
import Derived.Laws.CopyOwn
namespace Go.Proofs.Ytpjlngkndofjfaa
open Go.RowKit

/-- A slice's part from a place on. -/
theorem IsInts.from {w : World} {b off n cap : Nat} {l : List Int} (h : IsInts w (.slice (some ⟨b, off, none⟩) n cap) l) (k : Nat) (hk : k ≤ l.length) : IsInts w (.slice (some ⟨b, off + k, none⟩) (n - k) (cap - k)) (l.drop k) := by
  obtain ⟨a', cap', e, h1, ⟨h2, h3, h4⟩, h5⟩ := h
  simp only [Value.slice.injEq] at e
  obtain ⟨rfl, rfl, rfl⟩ := e
  have hl : (l.drop k).length = l.length - k := by simp
  refine ⟨some ⟨b, off + k, none⟩, cap - k, by rw [hl], by omega, ⟨by omega, by omega, fun e => by cases e⟩, fun i hi => ?_⟩
  obtain ⟨b', off', z, e1, hc, hz, hi'⟩ := h5 (k + i) (by omega)
  cases e1
  exact ⟨b, off + k, z, rfl, by rw [Nat.add_assoc]; exact hc, by rw [List.getElem?_drop]; exact hz, hi'⟩

section
variable {P : Program}
/-- 'copy(row, src)' at the operation, row being the call's own. -/
theorem wpList_copy_ints {w : World} {ops : Array Oper} {rest : List Oper} {o : Oper} {a : Act} {Q : Exit → Act → World → Prop} (hgd : o.guard = none) (d s : Operand) (t : TypeId)
    (ho : o.op = .call { callee := .builtin .copy, args := #[d, s], argTypes := #[t, t] }) (e : TypeId) (ht : P.underlying t = some (.slice e)) (hinfo : (P.info? e).map (fun i => (i.zero, i.size, i.bytes)) = some (some (.int .i64 0), 1, 8))
    (base g n cap : Nat) (l : List Int) (hd : a.eval d = .slice (some ⟨g, 0, none⟩) n cap) (hown : OwnInts w e base (.slice (some ⟨g, 0, none⟩) n cap) l) (r : List Int) (sv : Value) (hs : a.eval s = sv) (hr : IsInts w sv r)
    (h : ∀ w' c, OwnInts w' e base (.slice (some ⟨g, 0, none⟩) n cap) (r.take l.length ++ l.drop r.length) → w.grownBy w' (some g) → wpList P ops Q rest (a.put o.dst c) w') : wpList P ops Q (o :: rest) a w := by
  have hsz : (P.info? e).map (·.size) = some 1 := by
    obtain ⟨i, hi0, _, hs0, _⟩ := info_parts hinfo
    simp [hi0, hs0]
  obtain ⟨ar, cr, rfl, _, _, hr⟩ := hr
  obtain ⟨⟨hl1, hl2⟩, hb, hl⟩ := hown
  rcases hl2 with ⟨e1, _⟩ | ⟨g', cap', cur, e1, hbg, hg, hnc, hcm, hcs, htake⟩
  · simp at e1
  · simp only [Value.slice.injEq, Option.some.injEq, Addr.mk.injEq, and_true] at e1
    obtain ⟨rfl, rfl, rfl⟩ := e1
    by_cases h0 : Nat.min r.length l.length = 0
    · refine wpList_copy_nothing hgd d s t t ho e ht hsz (some ⟨g, 0, none⟩) ar l.length cap r.length cr hd hs h0 ?_
      have he : r.take l.length ++ l.drop r.length = l := by
        rcases (Nat.min_eq_zero_iff.1 h0 : r.length = 0 ∨ l.length = 0) with h1 | h1
        · rw [List.eq_nil_of_length_eq_zero h1]; simp
        · rw [List.eq_nil_of_length_eq_zero h1]; simp
      refine h w _ ?_ ⟨rfl, rfl, rfl, Nat.le_refl _, fun _ _ _ => rfl⟩
      rw [he]
      exact ⟨⟨hl1, .inr ⟨g, cap, cur, rfl, hbg, hg, hnc, hcm, hcs, htake⟩⟩, hb, hl⟩
    · have hrl : 0 < r.length := by have : Nat.min r.length l.length ≤ r.length := Nat.min_le_left _ _; omega
      obtain ⟨b, off, z, rfl, _⟩ := hr 0 hrl
      have hcl : ((r.take l.length).map (Value.int .i64)).length = Nat.min r.length l.length := by simp [Nat.min_comm]
      refine wpList_copy_own hgd d s t t ho e ht hsz g 0 l.length cap ⟨b, off, none⟩ r.length cr hd hs cur e hg ((r.take l.length).map (Value.int .i64)) hcl ?_ ?_ ?_ ?_
      · intro j v hj
        rw [List.getElem?_map] at hj
        have hjl : j < (r.take l.length).length := by
          rcases Nat.lt_or_ge j (r.take l.length).length with h' | h'
          · exact h'
          · simp [List.getElem?_eq_none h'] at hj
        simp only [List.length_take] at hjl
        obtain ⟨b', off', z', e2, hc', hz', _⟩ := hr j (by omega)
        cases e2
        rw [List.getElem?_take, if_pos (by omega), hz'] at hj
        simp at hj
        subst hj
        have : (⟨b, off, none⟩ : Addr).add j = ⟨b, off + j, none⟩ := by unfold Addr.add; split <;> simp_all
        rw [this]; exact hc'
      · rw [hcl, hcs]
        have : Nat.min r.length l.length ≤ l.length := Nat.min_le_right _ _
        omega
      · intro u hu
        obtain ⟨y, _, rfl⟩ := List.mem_map.1 hu
        rfl
      · have hL : (r.take l.length ++ l.drop r.length).length = l.length := by simp; omega
        refine h _ _ ⟨?_, ?_, by rw [hL]; exact hl⟩ ⟨rfl, rfl, rfl, by simp, fun k hk hne => setRow_other w g k _ (fun e => hne (by rw [e]))⟩
        rw [hL]
        refine ⟨by rw [List.length_map, hL, Nat.mul_one], .inr ⟨g, cap, _, rfl, hbg, setRow_heap w g cur _ e (0, 0) hg, hnc, hcm, ?_, ?_⟩⟩
        · simp; omega
        · have hm : (cur.toList.take (l.length * 1)) = l.map (Value.int .i64) := htake
          rw [Nat.mul_one] at hm
          rw [List.map_append, List.map_take, List.map_drop, ← hm]
          simp only [List.take_zero, List.nil_append, Nat.zero_add, List.length_map, List.length_take, Nat.mul_one]
          rw [List.take_append, List.drop_take, List.length_take, List.length_map, List.take_take, show min l.length l.length = l.length by omega]
          congr 1
          rw [show l.length - min l.length r.length = l.length - r.length by omega]
          by_cases hrr : r.length ≤ l.length
          · rw [show min l.length r.length = r.length by omega]
          · rw [show l.length - r.length = 0 by omega]
            simp
        · intro y hy
          simp at hy
          rcases hy with hy | hy
          · obtain ⟨j, hj, rfl⟩ := List.getElem_of_mem (List.mem_of_mem_take hy)
            obtain ⟨_, _, z', _, _, hz', hi⟩ := hr j hj
            simp [hj] at hz'
            rw [hz']; exact hi
          · exact hb y (List.mem_of_mem_drop hy)
end
end Go.Proofs.Ytpjlngkndofjfaa
