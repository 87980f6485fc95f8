/-
  slices.Equal at what was said.
-/
import Derived.Test.YtnidbghgadnjeaaGreatBase
namespace Go.Proofs.YtnidbghgadnjeaaGreat
open Go.RowKit

set_option maxHeartbeats 400000 in
theorem Equal_errs (vx vy : Value) (x y : List Int) (w : World) (hx : IsInts w vx x) (hy : IsInts w vy y) :
    Calls Tryz.prog 23 #[vx, vy] w fun e w' => e = .returned (.bool (eqInts x y)) ∧ Below w.heap.size w w' := by
  obtain ⟨ax, cx, rfl, hcx, hmx, hx⟩ := hx.opened
  obtain ⟨ay, cy, rfl, hcy, hmy, hy⟩ := hy.opened
  by_cases hl : x.length = y.length
  · have hl1 : ((x.length : Int) != (y.length : Int)) = false := by simp [hl]
    have hl2 : y.length ≤ x.length := by omega
    have hl3 : x.length ≤ y.length := by omega
    have HL := Lib.hid hl
    clear hl
    go_enter Tryz.func23, Tryz.ntmps23
    go_wp2
    go_loopw [13] (fun i wr => ∃ k : Nat, k ≤ x.length ∧ i = .int .i64 k ∧ Below w.heap.size w wr ∧ x.take k = y.take k) (fun i _ => x.length - (intOf i).toNat)
    case atStart => exact ⟨0, by omega, rfl, Below.refl _ _, by simp⟩
    case round =>
      rename_i wr
      obtain ⟨k, hk, rfl, hb, hq⟩ := hrel
      have HQ := Lib.hid hq
      clear hq
      by_cases hlt : k < x.length
      · obtain ⟨b1, o1, z1, rfl, hc1, hz1, hi1⟩ := (hx.stays hb) k hlt
        obtain ⟨b2, o2, z2, rfl, hc2, hz2, hi2⟩ := (hy.stays hb) k (by omega)
        have HZ1 := Lib.hid hz1
        have HZ2 := Lib.hid hz2
        clear hz1 hz2
        by_cases he : z1 = z2
        · subst he
          have hne : (z1 != z1) = false := by simp
          go_wp2
          go_quiet (fail)
          go_wp2
          go_roundw
          case rel => exact ⟨k + 1, by omega, by go_num, below_drewN hb _, by rw [take_get HZ1.out, take_get HZ2.out, HQ.out]⟩
          case measure => simp [intOf]; omega
        · have hne : (z1 != z2) = true := by simpa using he
          have HN := Lib.hid he
          clear he
          go_wp2
          go_quiet (fail)
          go_wp2
          go_ret
          refine ⟨ret_bool ?_, below_drewN hb _⟩
          symm
          rw [eqInts, decide_eq_false_iff_not]
          intro e
          subst e
          rw [HZ1.out] at HZ2
          exact HN.out (Option.some.inj HZ2)
      · obtain rfl : k = x.length := by omega
        go_wp2
        go_ret
        refine ⟨ret_bool ?_, hb⟩
        have h := HQ.out
        rw [HL.out] at h
        rw [← HL.out, List.take_length, HL.out, List.take_length] at h
        simp [eqInts, h]
  · have hl1 : ((x.length : Int) != (y.length : Int)) = true := by simp; omega
    have H := Lib.hid (show eqInts x y = false by rw [eqInts, decide_eq_false_iff_not]; intro e; exact hl (by rw [e]))
    clear hl
    go_enter Tryz.func23, Tryz.ntmps23
    go_wp2
    go_ret
    exact ⟨ret_bool H.out.symm, Below.refl _ _⟩
end Go.Proofs.YtnidbghgadnjeaaGreat
