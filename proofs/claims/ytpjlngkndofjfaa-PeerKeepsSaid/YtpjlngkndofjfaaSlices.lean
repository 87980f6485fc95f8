/-
  The walks of package slices at lists of ints.
-/
import Derived.Test.YtpjlngkndofjfaaLib
import Derived.Test.YtpjlngkndofjfaaRows
import Derived.Deep.QuietTactic
import Derived.BigQuiet
import Derived.Lib.SliceRun
namespace Go.Proofs.Ytpjlngkndofjfaa
open Go.RowKit

theorem I64.len {n : Nat} (h : n ≤ 17592186044416) : I64 (n : Int) := ⟨by omega, by omega⟩

set_option maxHeartbeats 400000 in
theorem Equal_ints (vx vy : Value) (x y : List Int) (w : World) (hx : IsInts w vx x) (hy : IsInts w vy y) :
    Calls Try.prog 12 #[vx, vy] w fun e w' => e = .returned (.bool (eqInts x y)) ∧ Below w.heap.size w w' := by
  obtain ⟨ax, cx, rfl, hcx, hmx, hx⟩ := hx.opened
  obtain ⟨ay, cy, rfl, hcy, hmy, hy⟩ := hy.opened
  by_cases hl : x.length = y.length
  · have hl1 : ((x.length : Int) != (y.length : Int)) = false := by simp [hl]
    have hl2 : y.length ≤ x.length := by omega
    have hl3 : x.length ≤ y.length := by omega
    have HL := Lib.hid hl
    clear hl
    go_enter Try.func12, Try.ntmps12
    go_wp2
    go_loopw [13] (fun i wr => ∃ k : Nat, k ≤ x.length ∧ i = .int .i64 k ∧ Below w.heap.size w wr ∧ x.take k = y.take k) (fun i _ => x.length - (intOf i).toNat)
    case atStart => exact ⟨0, by omega, rfl, Below.refl _ _, by simp⟩
    case round =>
      rename_i wr
      obtain ⟨k, hk, rfl, hb, hq⟩ := hrel
      have HQ := Lib.hid hq
      clear hq
      by_cases hlt : k < x.length
      · obtain ⟨b1, o1, z1, rfl, hc1, hz1, hi1⟩ := (hx.stays hb) k hlt
        obtain ⟨b2, o2, z2, rfl, hc2, hz2, hi2⟩ := (hy.stays hb) k (by omega)
        have HZ1 := Lib.hid hz1
        have HZ2 := Lib.hid hz2
        clear hz1 hz2
        by_cases he : z1 = z2
        · subst he
          have hne : (z1 != z1) = false := by simp
          go_wp2
          go_quiet (fail)
          go_wp2
          go_roundw
          case rel => exact ⟨k + 1, by omega, by go_num, below_drewN hb _, by rw [take_get HZ1.out, take_get HZ2.out, HQ.out]⟩
          case measure => simp [intOf]; omega
        · have hne : (z1 != z2) = true := by simpa using he
          have HN := Lib.hid he
          clear he
          go_wp2
          go_quiet (fail)
          go_wp2
          go_ret
          refine ⟨ret_bool ?_, below_drewN hb _⟩
          symm
          rw [eqInts, decide_eq_false_iff_not]
          intro e
          subst e
          rw [HZ1.out] at HZ2
          exact HN.out (Option.some.inj HZ2)
      · obtain rfl : k = x.length := by omega
        go_wp2
        go_ret
        refine ⟨ret_bool ?_, hb⟩
        have h := HQ.out
        rw [HL.out] at h
        rw [← HL.out, List.take_length, HL.out, List.take_length] at h
        simp [eqInts, h]
  · have hl1 : ((x.length : Int) != (y.length : Int)) = true := by simp; omega
    have H := Lib.hid (show eqInts x y = false by rw [eqInts, decide_eq_false_iff_not]; intro e; exact hl (by rw [e]))
    clear hl
    go_enter Try.func12, Try.ntmps12
    go_wp2
    go_ret
    exact ⟨ret_bool H.out.symm, Below.refl _ _⟩

/-- The first place of x, from k on; -1: there is none. -/
def idxFrom (x : Int) : List Int → Nat → Int
  | [], _ => -1
  | y :: l, k => if x = y then (k : Int) else idxFrom x l (k + 1)
theorem idxFrom_nonneg (x : Int) : ∀ (l : List Int) (k : Nat), 0 ≤ idxFrom x l k ↔ x ∈ l
  | [], k => by simp [idxFrom]
  | y :: l, k => by
    by_cases h : x = y
    · simp [idxFrom, h]
    · simp [idxFrom, h, idxFrom_nonneg x l (k + 1)]

theorem info_int : (Try.prog.info? 3).map (fun i => (i.zero, i.size, i.bytes)) = some (some (.int .i64 0), 1, 8) := by kernel_rfl

set_option maxHeartbeats 400000 in
theorem Clone_ints (vx : Value) (x : List Int) (w : World) (hx : IsInts w vx x) :
    Calls Try.prog 55 #[vx] w fun e w' => (∃ v, e = .returned v ∧ OwnInts w' 3 w.heap.size v x) ∧ Below w.heap.size w w' := by
  have hq : ∀ (w : World) (a : Option Addr) (n c n' c' : Nat), (binOp .eql 26 (.slice a n c) (.slice none n' c')).run Try.prog w = .ok (.bool a.isNone) w := fun w a n c n' c' => Lib.run_eql_slice_nil w _ _ a n c n' c' Try.underlying26
  have hx0 := hx
  obtain ⟨ax, cx, rfl, hcx, hmx, hx⟩ := hx.opened
  obtain ⟨hm1, hm2, hm3⟩ := hmx
  cases ax with
  | none =>
    have hc0 := hm3 rfl
    have hl0 : x = [] := by
      cases x with
      | nil => rfl
      | cons y r => obtain ⟨b, off, z, e1, _⟩ := hx 0 (by simp); cases e1
    subst hc0 hl0
    go_enter Try.func55, Try.ntmps55
    go_wp2
    go_ret
    exact ⟨⟨_, rfl, OwnInts.nil _ _ _⟩, Below.refl _ _⟩
  | some ad =>
    have H3 := Lib.hid hm3
    clear hm3
    have hown : OwnInts (w.alloc (.cells #[] 3)) 3 w.heap.size (.slice (some ⟨w.heap.size, 0, none⟩) 0 0) [] := ⟨World.ownsRow_made w #[] 0 (Nat.le_refl _) (by unfold maxLen; omega) rfl, by simp, by simp⟩
    have hx1 := hx0.stays (below_alloc w (.cells #[] 3))
    go_enter Try.func55, Try.ntmps55
    go_wp2_with (at_builtin; refine wpList_append_ints rfl _ _ 26 rfl 3 Try.underlying26 info_int w.heap.size _ [] rfl hown x _ rfl hx1 (by simpa using hm1) (by simp) ?_; intro v' w1 hown1 hg1)
    go_ret
    exact ⟨⟨_, rfl, hown1⟩, below_own (below_alloc _ _) hown hg1 (by simp)⟩

end Go.Proofs.Ytpjlngkndofjfaa
