/-
  The walks of a book's copy, and of what makes one.
  mesh.Copy walked.
  slices.SortStableFunc at a few ints of the call's own, with whatever closure that only reads.
  The walk of place.For.
  share.Split in one contract; what a slice of shares, of ints holds at a place.
-/
import Derived.Test.YtmlkjepfepmcgaaBooks
import Derived.Test.YtmlkjepfepmcgaaRowAll
import Derived.Deep.RegionHeld3
import Derived.Test.YtmlkjepfepmcgaaDeeps
import Derived.Test.YtmlkjepfepmcgaaPlaces
import Derived.Deep.DeepFit
import Derived.Test.YtmlkjepfepmcgaaRows
import Derived.Test.YtmlkjepfepmcgaaBase
import Derived.BigRegion
import Derived.BigQuiet
import Derived.Shelf.Abstract
import Derived.Test.YtmlkjepfepmcgaaShares
namespace Go.Proofs.Ytmlkjepfepmcgaa
open Go.RowKit

theorem RVer.one : RVer.One := by
  rintro w cs x ⟨v, rfl, h, _⟩ c hc
  obtain ⟨a, cp, rfl, _⟩ := h.opened
  simp at hc
  rcases hc with rfl | rfl | rfl | rfl <;> rfl
end Go.Proofs.Ytmlkjepfepmcgaa

namespace Go.Proofs.Ytmlkjepfepmcgaa
open Go.RowKit

section
variable {X Y : Nat → Prop} {w w1 : World} {base b : Nat} {v1 v2 : Value} {m : Me}
end

end Go.Proofs.Ytmlkjepfepmcgaa

namespace Go.Proofs.Ytmlkjepfepmcgaa
open Go.RowKit

end Go.Proofs.Ytmlkjepfepmcgaa

namespace Go.Proofs.Ytmlkjepfepmcgaa
open Go.RowKit

end Go.Proofs.Ytmlkjepfepmcgaa

namespace Go.Proofs.Ytmlkjepfepmcgaa
open Go.RowKit

theorem plan_nat {n o s : Int} (h : planV n o s = 0) : ∃ n' o' s' : Nat, n = n' ∧ o = o' ∧ s = s' := by
  obtain ⟨p1, p2, p3, p4, p5, p6⟩ := planV_bd h
  exact ⟨n.toNat, o.toNat, s.toNat, by omega, by omega, by omega⟩
theorem splitE_zero {n o s : Int} {data : List Int} (h : splitE n o s data = 0) : planV n o s = 0 ∧ (data.length : Int) = s ∧ ∀ z ∈ data, 0 ≤ z ∧ z < 31 := by
  unfold splitE at h
  split at h
  · rename_i h1; exact absurd h h1
  · rename_i h1
    split at h
    · simp at h
    · rename_i h2
      exact ⟨by simpa using h1, by simpa using h2, (allV_ok _).1 h⟩

def splitL (n o s : Int) (data : List Int) : List Sh := if splitE n o s data = 0 then sharesL n.toNat data o.toNat (rowsN n.toNat s.toNat) else []
theorem splitL_ok {n o s : Nat} {data : List Int} (h : splitE n o s data = 0) : splitL n o s data = sharesL n data o (rowsN n s) := by unfold splitL; rw [if_pos h]; simp
theorem splitL_no {n o s : Int} {data : List Int} (h : splitE n o s data ≠ 0) : splitL n o s data = [] := by unfold splitL; rw [if_neg h]
theorem Split_any (n o s : Int) (v : Value) (data : List Int) (W : World) (hd : IsInts W v data) :
    Calls Try.prog 20 #[.agg #[.int .i64 n, .int .i64 o, .int .i64 s], v] W fun e w' => (∃ v', e = .returned (.tuple #[v', .int .i64 (splitE n o s data)]) ∧ IsShares w' v' (splitL n o s data)) ∧ Below W.heap.size W w' := by
  by_cases h : splitE n o s data = 0
  · obtain ⟨n, o, s, rfl, rfl, rfl⟩ := plan_nat (splitE_zero h).1
    rw [h, splitL_ok h]
    exact (Split_ok n o s v data W hd h).mono fun e w' ⟨⟨g, f, he, ho⟩, hb⟩ => ⟨⟨_, he, ho.isShares⟩, hb⟩
  · rw [splitL_no h]
    exact (Split_no n o s v data W hd h).mono fun e w' ⟨he, hb⟩ => ⟨⟨_, he, IsShares.nil _⟩, hb⟩
theorem shares_at {w : World} {a : Option Addr} {n cap : Nat} {ls : List Sh} (h : IsShares w (.slice a n cap) ls) {k : Nat} {s : Sh} (hs : ls[k]? = some s) :
    ∃ b off u c, a = some ⟨b, off, none⟩ ∧ w.cell? ⟨b, off + k * 2, none⟩ = some (.int .i64 s.1) ∧ w.cell? ⟨b, off + k * 2 + 1, none⟩ = some (.slice u s.2.length c) ∧ IsInts w (.slice u s.2.length c) s.2 ∧ I64 s.1 := by
  obtain ⟨a', c', e, _, _, hi⟩ := h
  simp only [Value.slice.injEq] at e
  obtain ⟨rfl, rfl, rfl⟩ := e
  obtain ⟨b, off, v, s', e1, h1, h2, h3, h4, h5⟩ := hi k (List.getElem?_eq_some_iff.1 hs).1
  rw [hs] at h4
  cases h4
  obtain ⟨u, c, rfl, _⟩ := h3.opened
  exact ⟨b, off, u, c, e1, h1, h2, h3, h5⟩
theorem ints_at {w : World} {a : Option Addr} {n cap : Nat} {l : List Int} (h : IsInts w (.slice a n cap) l) {i : Nat} {z : Int} (hz : l[i]? = some z) :
    ∃ b off, a = some ⟨b, off, none⟩ ∧ w.cell? ⟨b, off + i, none⟩ = some (.int .i64 z) ∧ I64 z := by
  obtain ⟨a', c', e, _, _, hi⟩ := h.opened
  simp only [Value.slice.injEq] at e
  obtain ⟨rfl, rfl, rfl⟩ := e
  obtain ⟨b, off, z', e1, h1, h2, h3⟩ := hi i (List.getElem?_eq_some_iff.1 hz).1
  rw [hz] at h2
  cases h2
  exact ⟨b, off, e1, h1, h3⟩
theorem shares_stays {w w' : World} {v : Value} {ls : List Sh} (h : IsShares w v ls) (hb : Below w.heap.size w w') : IsShares w' v ls := by
  obtain ⟨a, c, e, h1, h2, h3⟩ := h
  exact ⟨a, c, e, h1, h2, h3.stays hb⟩
theorem shares_take {w : World} {a : Option Addr} {n cap : Nat} {ls : List Sh} (h : IsShares w (.slice a n cap) ls) (m : Nat) (hm : m ≤ ls.length) : IsShares w (.slice a m cap) (ls.take m) :=
  isShares_of_row ((row_of_isShares h).take m hm)

end Go.Proofs.Ytmlkjepfepmcgaa
