/-
  More laws over any program: appends inside a region that draws its order.
-/
import Derived.Test.YtpjlngkndofjfaaLib
import Derived.Deep.RegionLaw
namespace Go.Proofs.Ytpjlngkndofjfaa
open Go.RowKit

/-- Two values' own rows are not one. -/
def Apart (a b : Value) : Prop := ∀ i j, a.ownBlock = some i → b.ownBlock = some j → i ≠ j
theorem Apart.nil_l (c n : Nat) (b : Value) : Apart (.slice none c n) b := fun i j h => by simp [Value.ownBlock] at h
theorem Apart.symm {a b : Value} (h : Apart a b) : Apart b a := fun i j hi hj e => h j i hj hi e.symm
theorem Apart.ne {a b : Value} (h : Apart a b) : b.ownBlock = none ∨ b.ownBlock ≠ a.ownBlock := by
  cases hb : b.ownBlock with
  | none => exact Or.inl rfl
  | some j => exact Or.inr fun e => h j j e.symm hb rfl
theorem Apart.grown {a a' b : Value} {n : Nat} (h : Apart a b) (ha : a'.ownBlock = a.ownBlock ∨ a'.ownBlock = some n) (hb : ∀ j, b.ownBlock = some j → j < n) : Apart a' b := by
  intro i j hi hj
  rcases ha with ha | ha
  · exact h i j (by rw [← ha]; exact hi) hj
  · rw [ha] at hi
    cases hi
    have := hb j hj
    omega

theorem IsInts.drew {w : World} {v : Value} {l : List Int} (h : IsInts w v l) : IsInts w.drew v l := h
theorem decide_lt_no {a b : Int} (h : ¬ a < b) : decide (a < b) = false := by simpa using h

theorem IsInts.take {w : World} {a : Option Addr} {n cap : Nat} {l : List Int} (h : IsInts w (.slice a n cap) l) (k : Nat) (hk : k ≤ l.length) : IsInts w (.slice a k cap) (l.take k) := by
  obtain ⟨a', cap', e, h1, ⟨h2, h3, h4⟩, h5⟩ := h
  simp only [Value.slice.injEq] at e
  obtain ⟨rfl, rfl, rfl⟩ := e
  have hl : (l.take k).length = k := by simp; omega
  refine ⟨a, cap, by rw [hl], by omega, ⟨by omega, h3, h4⟩, fun i hi => ?_⟩
  obtain ⟨b, off, z, e1, hc, hz, hi'⟩ := h5 i (by omega)
  exact ⟨b, off, z, e1, hc, by rw [List.getElem?_take, if_pos (by omega)]; exact hz, hi'⟩

section
variable {P : Program}
/-- 'append(v, z)' as one step of a region that draws its order. -/
theorem step_append_int {ops : Array Oper} {o : Oper} {a : Act} {w : World} {K : Act → World → Prop} {Q : Exit → Act → World → Prop} {E : Prop}
    (hgd : o.guard = none) (s x : Operand) (t : TypeId)
    (ho : o.op = .call { callee := .builtin .append, args := #[s, x], argTypes := #[t, t] }) (e : TypeId) (ht : P.underlying t = some (.slice e))
    (hinfo : (P.info? e).map (fun i => (i.zero, i.size, i.bytes)) = some (some (.int .i64 0), 1, 8)) (base : Nat) (v : Value) (l : List Int) (hs : a.eval s = v) (hown : OwnInts w e base v l)
    (ad : Addr) (c : Nat) (z : Int) (hx : a.eval x = .slice (some ad) 1 c) (hz : w.cell? ad = some (.int .i64 z)) (hi : I64 z) (hl : l.length < 17592186044416) (hbase : base ≤ w.heap.size)
    (h : ∀ v' w', OwnInts w' e base v' (l ++ [z]) → w.grownBy w' v.ownBlock → K (a.put o.dst v') w') :
    if Region.wanted o (yielded ops a.tmps) = true then Oper.wp P o a w K Q else E := by
  have hw : Region.wanted o (yielded ops a.tmps) = true := by simp [Region.wanted, hgd]
  rw [if_pos hw]
  obtain ⟨i, hi0, hz0, hs0, hb0⟩ := info_parts hinfo
  obtain ⟨v', w', hrun, h1, h2, _⟩ := run_append_own (P := P) w base t o.type e i (.int .i64 0) 1 8 ht hi0 hz0 hs0 hb0 rfl (by decide) v l.length (l.map (Value.int .i64)) hown.1 ad 1 c [.int .i64 z] rfl (by
    intro j u hj
    match j, hj with
    | 0, hj => simp at hj; subst hj; simpa [Addr.add] using hz) (by intro u hu; simp at hu; subst hu; rfl) (by unfold maxLen; omega) (by omega) hbase
  unfold Oper.wp
  simp [execOp, ho, resolve, invoke, builtin, hs, hx, hrun, Result.andThen]
  refine h v' w' ⟨by simpa using h1, ?_, by simp; omega⟩ h2
  intro y hy
  simp at hy
  rcases hy with hy | rfl
  · exact hown.2.1 y hy
  · exact hi
/-- 'append(v, z)' at the operation, and where the new slice lies. -/
theorem wpList_append_int_at {w : World} {ops : Array Oper} {rest : List Oper} {o : Oper} {a : Act} {Q : Exit → Act → World → Prop} (hgd : o.guard = none) (s x : Operand) (t : TypeId)
    (ho : o.op = .call { callee := .builtin .append, args := #[s, x], argTypes := #[t, t] }) (e : TypeId) (ht : P.underlying t = some (.slice e))
    (hinfo : (P.info? e).map (fun i => (i.zero, i.size, i.bytes)) = some (some (.int .i64 0), 1, 8)) (base : Nat) (v : Value) (l : List Int) (hs : a.eval s = v) (hown : OwnInts w e base v l)
    (ad : Addr) (c : Nat) (z : Int) (hx : a.eval x = .slice (some ad) 1 c) (hz : w.cell? ad = some (.int .i64 z)) (hi : I64 z) (hl : l.length < 17592186044416) (hbase : base ≤ w.heap.size)
    (h : ∀ v' w', OwnInts w' e base v' (l ++ [z]) → w.grownBy w' v.ownBlock → (v'.ownBlock = v.ownBlock ∨ v'.ownBlock = some w.heap.size) → wpList P ops Q rest (a.put o.dst v') w') : wpList P ops Q (o :: rest) a w := by
  obtain ⟨i, hi0, hz0, hs0, hb0⟩ := info_parts hinfo
  refine wpList_append_own_at w hgd s x t ho base e i (.int .i64 0) 1 8 ht hi0 hz0 hs0 hb0 rfl (by decide) v l.length (l.map (Value.int .i64)) hs hown.1 ad 1 c [.int .i64 z] hx rfl ?_ ?_ (by unfold maxLen; omega) (by omega) hbase ?_
  · intro j u hj
    match j, hj with
    | 0, hj => simp at hj; subst hj; simpa [Addr.add] using hz
  · intro u hu; simp at hu; subst hu; rfl
  · intro v' w' h1 h2 _ h4
    refine h v' w' ⟨by simpa using h1, ?_, by simp; omega⟩ h2 h4
    intro y hy
    simp at hy
    rcases hy with hy | rfl
    · exact hown.2.1 y hy
    · exact hi
end
end Go.Proofs.Ytpjlngkndofjfaa
