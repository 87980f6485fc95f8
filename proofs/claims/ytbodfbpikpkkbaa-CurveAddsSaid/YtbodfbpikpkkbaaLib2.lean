/-
  More laws over any program: appends inside a region that draws its order.
-/
import Derived.Test.YtbodfbpikpkkbaaLib
import Derived.Deep.RegionLaw
namespace Go.Proofs.Ytbodfbpikpkkbaa
open Go.RowKit

section
variable {P : Program}
/-- 'append(v, z)' as one step of a region that draws its order. -/
theorem step_append_int {ops : Array Oper} {o : Oper} {a : Act} {w : World} {K : Act → World → Prop} {Q : Exit → Act → World → Prop} {E : Prop}
    (hgd : o.guard = none) (s x : Operand) (t : TypeId)
    (ho : o.op = .call { callee := .builtin .append, args := #[s, x], argTypes := #[t, t] }) (e : TypeId) (ht : P.underlying t = some (.slice e))
    (hinfo : (P.info? e).map (fun i => (i.zero, i.size, i.bytes)) = some (some (.int .i64 0), 1, 8)) (base : Nat) (v : Value) (l : List Int) (hs : a.eval s = v) (hown : OwnInts w e base v l)
    (ad : Addr) (c : Nat) (z : Int) (hx : a.eval x = .slice (some ad) 1 c) (hz : w.cell? ad = some (.int .i64 z)) (hi : I64 z) (hl : l.length < 17592186044416) (hbase : base ≤ w.heap.size)
    (h : ∀ v' w', OwnInts w' e base v' (l ++ [z]) → w.grownBy w' v.ownBlock → K (a.put o.dst v') w') :
    if Region.wanted o (yielded ops a.tmps) = true then Oper.wp P o a w K Q else E := by
  have hw : Region.wanted o (yielded ops a.tmps) = true := by simp [Region.wanted, hgd]
  rw [if_pos hw]
  obtain ⟨i, hi0, hz0, hs0, hb0⟩ := info_parts hinfo
  obtain ⟨v', w', hrun, h1, h2, _⟩ := run_append_own (P := P) w base t o.type e i (.int .i64 0) 1 8 ht hi0 hz0 hs0 hb0 rfl (by decide) v l.length (l.map (Value.int .i64)) hown.1 ad 1 c [.int .i64 z] rfl (by
    intro j u hj
    match j, hj with
    | 0, hj => simp at hj; subst hj; simpa [Addr.add] using hz) (by intro u hu; simp at hu; subst hu; rfl) (by unfold maxLen; omega) (by omega) hbase
  unfold Oper.wp
  simp [execOp, ho, resolve, invoke, builtin, hs, hx, hrun, Result.andThen]
  refine h v' w' ⟨by simpa using h1, ?_, by simp; omega⟩ h2
  intro y hy
  simp at hy
  rcases hy with hy | rfl
  · exact hown.2.1 y hy
  · exact hi
end
end Go.Proofs.Ytbodfbpikpkkbaa
