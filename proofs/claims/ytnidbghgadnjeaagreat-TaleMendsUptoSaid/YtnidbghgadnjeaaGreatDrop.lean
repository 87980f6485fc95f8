/-
  The walk of peer.Drop.
-/
import Derived.Test.YtnidbghgadnjeaaGreatDeeps
import Derived.Test.YtnidbghgadnjeaaGreatMends
namespace Go.Proofs.YtnidbghgadnjeaaGreat
open Go.RowKit

/-- What Drop answers. -/
def dropC (b : List Ver) (p : Pr) (v : Int) : Pr := if peerV b p = 0 then (p.1, p.2.1, dropK v p.2.2) else (false, 0, [])
theorem dropK_filter (v : Int) (l : List Kp) : l.filter (fun z => !decide (z.1 = v)) = dropK v l := by
  unfold dropK
  congr 1
  funext z
  simp
theorem rise_one {l : List Kp} (h : l.Pairwise (fun a c => a.1 < c.1)) (v : Int) (i j : Nat) (x y : Kp) (hi : l[i]? = some x) (hj : l[j]? = some y) (hx : decide (x.1 = v) = true) (hy : decide (y.1 = v) = true) : i = j := by
  have hx' : x.1 = v := by simpa using hx
  have hy' : y.1 = v := by simpa using hy
  obtain ⟨hil, rfl⟩ := List.getElem?_eq_some_iff.1 hi
  obtain ⟨hjl, rfl⟩ := List.getElem?_eq_some_iff.1 hj
  rcases Nat.lt_trichotomy i j with hlt | he | hlt
  · have := (List.pairwise_iff_getElem.1 h) i j hil hjl hlt; omega
  · exact he
  · have := (List.pairwise_iff_getElem.1 h) j i hjl hil hlt; omega

set_option maxRecDepth 100000 in
set_option maxHeartbeats 400000 in
theorem DropOne_any (u : Value) (x : Kp) (M : Int) (b : Nat) (W : World) (hx : IsKept W u x) (hc : W.cell? ⟨b, 0, none⟩ = some (.int .i64 M)) :
    Calls Tryz.prog 139 #[u, .pointer (some ⟨b, 0, none⟩)] W fun e w' => e = .returned (.bool (decide (x.1 = M))) ∧ Below W.heap.size W w' := by
  obtain ⟨y, rfl, hy, _⟩ := hx
  obtain ⟨a, c, rfl, _⟩ := hy.opened
  obtain ⟨n, N, l⟩ := x
  have S0 := (Since.refl W).alloc (.cells #[.int .i64 n, .int .i64 N, .slice a l.length c] 85)
  have hc' := (S0.below.cell (p := ⟨b, 0, none⟩) (cell_lt hc)).trans hc
  clear hc hy
  go_enter Tryz.func139, Tryz.ntmps139
  go_wp2_with fail
  go_ret
  exact ⟨ret_bool rfl, S0.below⟩

end Go.Proofs.YtnidbghgadnjeaaGreat
