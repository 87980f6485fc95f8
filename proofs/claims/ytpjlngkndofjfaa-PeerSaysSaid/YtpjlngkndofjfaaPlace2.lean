/-
  The walk of place.For.
-/
import Derived.Test.YtpjlngkndofjfaaPlaceMath
import Derived.Test.YtpjlngkndofjfaaStable
namespace Go.Proofs.Ytpjlngkndofjfaa
open Go.RowKit

theorem dirty_own {w0 w w' : World} {g : Nat} (h : Since w0.heap.size w0 w) (hg : w.grownBy w' (some g)) (hk : w0.heap.size ≤ g) : Dirty (fun _ => False) w0 w' :=
  ⟨Nat.le_trans h.2 hg.size, fun k hk' _ => (hg.block k (Nat.lt_of_lt_of_le hk' h.2) (by intro e; cases e; omega)).trans (h.below.block k hk')⟩

set_option maxRecDepth 100000 in
set_option maxHeartbeats 2000000 in
theorem ForCmp_any (B : Nat) (al : Option Addr) (cl : Nat) (l : List Pr) (i j : Int) (W : World) (hB : W.cell? ⟨B, 0, none⟩ = some (.slice al l.length cl)) (hu : IsPeers W (.slice al l.length cl) l) (hi : 0 ≤ i ∧ i < l.length) (hj : 0 ≤ j ∧ j < l.length)
    (hroom : ∀ p ∈ l, 0 ≤ leftV p ∧ leftV p ≤ 20) :
    Calls Try.prog 27 #[.int .i64 i, .int .i64 j, .pointer (some ⟨B, 0, none⟩)] W fun e w' => e = .returned (.int .i64 (cfP l i j)) ∧ ∃ q, w' = W.drewN q := by
  obtain ⟨i, rfl⟩ := Int.eq_ofNat_of_zero_le hi.1
  obtain ⟨j, rfl⟩ := Int.eq_ofNat_of_zero_le hj.1
  have hi2 : i < l.length := by omega
  have hj2 : j < l.length := by omega
  obtain ⟨g, off, u, cu, rfl, _, k1, k2, hp, i1⟩ := peer_at hu (List.getElem?_eq_getElem hi2)
  obtain ⟨g', off', u', cu', e1, _, k1', k2', hp', i1'⟩ := peer_at hu (List.getElem?_eq_getElem hj2)
  cases e1
  have h1 := hroom _ (List.getElem_mem hi2)
  have h2 := hroom _ (List.getElem_mem hj2)
  have HC := Lib.hid (show cfP l i j = leftV l[j] - leftV l[i] by unfold cfP; rw [leftAt_get (List.getElem?_eq_getElem hi2), leftAt_get (List.getElem?_eq_getElem hj2)])
  generalize l[i] = p at *
  generalize l[j] = q at *
  have wq : IntKind.i64.wrap (q.2.1 - (q.2.2.length : Int)) = leftV q := by unfold leftV at h2 ⊢; exact IntWalk.i64_in _ (by omega)
  have wp : IntKind.i64.wrap (p.2.1 - (p.2.2.length : Int)) = leftV p := by unfold leftV at h1 ⊢; exact IntWalk.i64_in _ (by omega)
  have wd : IntKind.i64.wrap (leftV q - leftV p) = leftV q - leftV p := IntWalk.i64_in _ (by omega)
  have s1 : (i : Int) < (l.length : Int) := by omega
  have s2 : (j : Int) < (l.length : Int) := by omega
  have s3 : (0 : Int) ≤ (i : Int) := by omega
  have s4 : (0 : Int) ≤ (j : Int) := by omega
  clear hu hp hp' hi hj hroom
  go_enter Try.func27, Try.ntmps27
  go_wp2_with (go_quiet (fail))
  go_ret
  exact ⟨ret_int HC.out.symm, _, rfl⟩

set_option maxRecDepth 100000 in
set_option maxHeartbeats 1000000 in
theorem SortStable_nil (F : Nat) (caps : Array Value) (a : Option Addr) (cap : Nat) (W : World) :
    Calls Try.prog 26 #[.slice a 0 cap, .func (.func F) #[] caps] W fun e w' => e = .returned (.tuple #[]) ∧ w' = W := by
  have hi : Calls Try.prog 62 #[.slice a 0 cap, .int .i64 0, .int .i64 0, .func (.func F) #[] caps] W fun e w' => e = .returned (.tuple #[]) ∧ w' = W := by
    go_enter Try.func62, Try.ntmps62
    go_wp2_with fail
    go_loopw [8] (fun i wr => i = .int .i64 1 ∧ wr = W) (fun _ _ => 0)
    case atStart => exact ⟨rfl, rfl⟩
    case round =>
      obtain ⟨rfl, rfl⟩ := hrel
      go_wp2_with fail
      go_end0
      exact ⟨rfl, rfl⟩
  have HI := Lib.hid hi
  clear hi
  have hst : Calls Try.prog 49 #[.slice a 0 cap, .int .i64 0, .func (.func F) #[] caps] W fun e w' => e = .returned (.tuple #[]) ∧ w' = W := by
    go_enter Try.func49, Try.ntmps49
    go_wp2_with fail
    go_loopw [7, 8] (fun a b wr => a = .int .i64 0 ∧ b = .int .i64 20 ∧ wr = W) (fun _ _ _ => 0)
    case atStart => exact ⟨rfl, rfl, rfl⟩
    case round =>
      obtain ⟨rfl, rfl, rfl⟩ := hrel
      go_wp2_with fail
      refine HI.out.mono ?_
      rintro e w1 ⟨rfl, rfl⟩
      go_wp2_with fail
      go_loopw [6, 7, 8, 9] (fun a b c d wr => a = .int .i64 20 ∧ wr = w1) (fun _ _ _ _ _ => 0)
      case atStart => exact ⟨rfl, rfl⟩
      case round =>
        obtain ⟨rfl, rfl⟩ := hrel
        go_wp2_with fail
        go_end0
        exact ⟨rfl, rfl⟩
  have HST := Lib.hid hst
  clear hst
  go_enter Try.func26, Try.ntmps26
  go_wp2_with fail
  refine HST.out.mono ?_
  rintro e w1 ⟨rfl, rfl⟩
  go_wp2_with fail
  go_end0
  exact ⟨rfl, rfl⟩

end Go.Proofs.Ytpjlngkndofjfaa
