/-
  Rows of happenings, rows of rows of numbers; what was saved, in plain Lean.
-/
import Derived.Test.YtnidbghgadnjeaaGreatDoMath
import Derived.Test.YtnidbghgadnjeaaGreatWovens
namespace Go.Proofs.YtnidbghgadnjeaaGreat
open Go.RowKit

def RHap : Rd Hp := fun w cs x => ∃ vd vp, cs = [.int .i64 x.1, .int .i64 x.2.1, .int .i64 x.2.2.1, vd, vp, .int .i64 x.2.2.2.2.2.1, .int .i64 x.2.2.2.2.2.2] ∧ IsInts w vd x.2.2.2.1 ∧ IsInts w vp x.2.2.2.2.1 ∧ I64 x.1 ∧ I64 x.2.1 ∧ I64 x.2.2.1 ∧ I64 x.2.2.2.2.2.1 ∧ I64 x.2.2.2.2.2.2
theorem RHap.stays : RHap.Stays := by
  rintro w cs x ⟨vd, vp, rfl, h1, h2, h⟩ w' hw
  exact ⟨vd, vp, rfl, h1.framed (fun _ _ _ => id) hw, h2.framed (fun _ _ _ => id) hw, h⟩
abbrev IsHaps (w : World) (v : Value) (l : List Hp) : Prop := IsRow 7 RHap w v l
theorem haps_at {w : World} {a : Option Addr} {n cap : Nat} {l : List Hp} (h : IsHaps w (.slice a n cap) l) {i : Nat} {x : Hp} (hx : l[i]? = some x) :
    ∃ g off u c u' c', a = some ⟨g, off, none⟩ ∧ w.cell? ⟨g, off + i * 7, none⟩ = some (.int .i64 x.1) ∧ w.cell? ⟨g, off + i * 7 + 1, none⟩ = some (.int .i64 x.2.1) ∧ w.cell? ⟨g, off + i * 7 + 2, none⟩ = some (.int .i64 x.2.2.1) ∧ w.cell? ⟨g, off + i * 7 + 3, none⟩ = some (.slice u x.2.2.2.1.length c) ∧ w.cell? ⟨g, off + i * 7 + 4, none⟩ = some (.slice u' x.2.2.2.2.1.length c') ∧ w.cell? ⟨g, off + i * 7 + 5, none⟩ = some (.int .i64 x.2.2.2.2.2.1) ∧ w.cell? ⟨g, off + i * 7 + 6, none⟩ = some (.int .i64 x.2.2.2.2.2.2) ∧
      IsInts w (.slice u x.2.2.2.1.length c) x.2.2.2.1 ∧ IsInts w (.slice u' x.2.2.2.2.1.length c') x.2.2.2.2.1 ∧ I64 x.1 ∧ I64 x.2.1 ∧ I64 x.2.2.1 ∧ I64 x.2.2.2.2.2.1 ∧ I64 x.2.2.2.2.2.2 := by
  obtain ⟨g, off, rfl, cs, hl, hc, vd, vp, rfl, hd, hp, h1, h2, h3, h4, h5⟩ := h.at hx
  obtain ⟨u, c, rfl, _⟩ := hd.opened
  obtain ⟨u', c', rfl, _⟩ := hp.opened
  exact ⟨g, off, u, c, u', c', rfl, hc 0 _ rfl, hc 1 _ rfl, hc 2 _ rfl, hc 3 _ rfl, hc 4 _ rfl, hc 5 _ rfl, hc 6 _ rfl, hd, hp, h1, h2, h3, h4, h5⟩
/-- A row of rows of numbers. -/
def RRow : Rd (List Int) := fun w cs x => ∃ v, cs = [v] ∧ IsInts w v x
theorem RRow.stays : RRow.Stays := by
  rintro w cs x ⟨v, rfl, h⟩ w' hw
  exact ⟨v, rfl, h.framed (fun _ _ _ => id) hw⟩
/-- One happening more: the mesh, and what was saved. -/
def tellOne (st : Me × List (List Int)) (x : Hp) : Me × List (List Int) :=
  if doE st.1 x ≠ 0 then st else (doC st.1 x, if x.1 = 1 then st.2 ++ [x.2.2.2.1] else st.2)
def tellL (l : List Hp) (st : Me × List (List Int)) : Me × List (List Int) := l.foldl tellOne st
theorem tellL_step (st : Me × List (List Int)) {l : List Hp} {k : Nat} {x : Hp} (h : l[k]? = some x) : tellL (l.take (k + 1)) st = tellOne (tellL (l.take k) st) x := by
  unfold tellL
  rw [take_get h, List.foldl_append]
  rfl
def savedE (room : List Int) (l : List Hp) : Int := if newE room ≠ 0 then newE room else if 100 < l.length then 1 else 0
def savedC (room : List Int) (l : List Hp) : List (List Int) := if savedE room l = 0 then (tellL l (newC room, [])).2 else []
def toldL : List Hp := [(1, 0, 0, [1, 2], [], 1, 2), (1, 0, 0, [9], [], 3, 4), (1, 0, 0, [3], [0], 1, 1)]
theorem told_facts : savedE [2, 2, 2] toldL = 0 ∧ savedC [2, 2, 2] toldL = [[1, 2], [3]] := by decide +kernel
end Go.Proofs.YtnidbghgadnjeaaGreat
