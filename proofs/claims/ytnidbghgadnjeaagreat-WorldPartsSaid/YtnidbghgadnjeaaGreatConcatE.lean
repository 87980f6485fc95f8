/-
  slices.Concat at two lists of what was said.
-/
import Derived.Test.YtnidbghgadnjeaaGreatBase
import Derived.Test.YtnidbghgadnjeaaGreatRun
import Derived.Lib.AppendZerosOnto
import Derived.Lib.Walk
namespace Go.Proofs.YtnidbghgadnjeaaGreat
open Go.RowKit

theorem replicate_zeroCellsE (n : Nat) : Builtin.zeroCells (Value.int .i64 0).cells n = Array.replicate n (.int .i64 0) := by
  apply Array.ext
  · simp [Builtin.zeroCells, Value.cells]
  · intro i h1 h2
    simp [Builtin.zeroCells, Value.cells, Nat.mod_one]

set_option maxRecDepth 100000 in
set_option maxHeartbeats 1000000 in
theorem Grow_errs (n : Nat) (w : World) (h0 : 1 ≤ n) (hn : n ≤ 1000000) :
    Calls Tryz.prog 59 #[.slice none 0 0, .int .i64 n] w fun e w' => (∃ v, e = .returned v ∧ OwnInts w' 26 w.heap.size v []) ∧ Below w.heap.size w w' := by
  obtain ⟨i0, hi0, hz0, hs0, hb0⟩ := info_parts info_errs
  have hrz : ∀ ty, (Builtin.append_ #[38, 3] ty #[.slice none 0 0, .int .i64 (n : Int)]).run Tryz.prog w =
      .ok (.slice (some ⟨w.heap.size, 0, none⟩) n (grownCap w n 0 26)) (w.drew.alloc (.cells (#[] ++ Builtin.zeroCells (Value.int .i64 0).cells n ++ Builtin.zeroCells (Value.int .i64 0).cells (grownCap w n 0 26 - n)) 26)) := fun ty => by
    have h := Lib.run_append_grow_zeros w 38 3 ty 26 i0 (.int .i64 0) .i64 .i64 Tryz.underlying38 Tryz.underlying3 hi0 hz0 none 0 0 [] (run_firstCells_none w.drew i0.size 0 0 0) n (by omega) (by omega) (by omega) (by omega)
      (by rw [hb0]; omega) (by rw [Nat.zero_add]; exact growslice_fits (by omega) (by rw [hb0]; omega))
    rw [Nat.zero_add] at h
    exact h
  have hGn : n ≤ grownCap w n 0 26 := grownCap_ge w _ _ _
  obtain ⟨G, hG⟩ : ∃ G, G = grownCap w n 0 26 := ⟨_, rfl⟩
  rw [← hG] at hrz hGn
  have hG63 : G ≤ 9223372036854775807 := by
    have := grownCap_le_maxLen w n 0 26 (by unfold maxLen; omega)
    rw [← hG] at this
    unfold maxLen at this
    omega
  clear hG
  have HR := Lib.hid hrz
  have hsz : (#[] ++ Builtin.zeroCells (Value.int .i64 0).cells n ++ Builtin.zeroCells (Value.int .i64 0).cells (G - n)).size = G * 1 := by
    rw [replicate_zeroCellsE, replicate_zeroCellsE]; simp; omega
  obtain ⟨C, hC⟩ : ∃ C, C = (#[] ++ Builtin.zeroCells (Value.int .i64 0).cells n ++ Builtin.zeroCells (Value.int .i64 0).cells (G - n)) := ⟨_, rfl⟩
  rw [← hC] at hsz
  have HR2 : Hid (∀ ty, (Builtin.append_ #[38, 3] ty #[.slice none 0 0, .int .i64 (n : Int)]).run Tryz.prog w = .ok (.slice (some ⟨w.heap.size, 0, none⟩) n G) (w.drew.alloc (.cells C 26))) := Lib.hid (by rw [hC]; exact hrz)
  have HO : Hid (OwnInts (w.drew.alloc (.cells C 26)) 26 w.heap.size (.slice (some ⟨w.heap.size, 0, none⟩) 0 G) []) :=
    Lib.hid ⟨World.ownsRow_made w.drew C G (Nat.le_refl _) (by unfold maxLen; omega) hsz, by simp, by simp⟩
  have HB : Hid (Below w.heap.size w (w.drew.alloc (.cells C 26))) := Lib.hid (((Below.refl _ _).drew).alloc (Nat.le_refl _) _)
  clear hrz HR hC hi0 hz0 hs0 hb0 hsz
  go_enter Tryz.func59, Tryz.ntmps59
  go_wp2_with (at_builtin; refine Lib.wpList_append_run _ rfl _ _ _ _ rfl _ _ rfl rfl _ _ (HR2.out _) ?_)
  go_ret
  exact ⟨⟨_, rfl, HO.out⟩, HB.out⟩

set_option maxRecDepth 100000 in
theorem Grow0_errs (w : World) : Calls Tryz.prog 59 #[.slice none 0 0, .int .i64 0] w fun e w' => e = .returned (.slice none 0 0) ∧ Below w.heap.size w w' := by
  go_enter Tryz.func59, Tryz.ntmps59
  go_wp2_with fail
  go_ret
  exact ⟨rfl, Below.refl _ _⟩
theorem GrowAll_errs (n : Nat) (w : World) (hn : n ≤ 1000000) :
    Calls Tryz.prog 59 #[.slice none 0 0, .int .i64 n] w fun e w' => (∃ v, e = .returned v ∧ OwnInts w' 26 w.heap.size v []) ∧ Below w.heap.size w w' := by
  cases n with
  | zero =>
    refine (show Calls Tryz.prog 59 #[.slice none 0 0, .int .i64 ((0 : Nat) : Int)] w (fun e w' => e = .returned (.slice none 0 0) ∧ Below w.heap.size w w') from Grow0_errs w).mono ?_
    rintro e w' ⟨rfl, hb⟩
    exact ⟨⟨_, rfl, OwnInts.nil _ _ _⟩, hb⟩
  | succ n => exact Grow_errs (n + 1) w (by omega) hn

set_option maxRecDepth 100000 in
set_option maxHeartbeats 2000000 in
theorem Concat_errs (b : Nat) (vx vy : Value) (x y : List Int) (w : World) (h0 : w.cell? ⟨b, 0, none⟩ = some vx) (h1 : w.cell? ⟨b, 1, none⟩ = some vy) (hx : IsInts w vx x) (hy : IsInts w vy y) (hl : x.length + y.length ≤ 1000000) :
    Calls Tryz.prog 24 #[.slice (some ⟨b, 0, none⟩) 2 2] w fun e w' => (∃ v, e = .returned v ∧ OwnInts w' 26 w.heap.size v (x ++ y)) ∧ Below w.heap.size w w' := by
  have hbl : b < w.heap.size := cell_lt h0
  have hx0 := hx
  have hy0 := hy
  obtain ⟨ax, cx, rfl, hcx, hmx, hx⟩ := hx.opened
  obtain ⟨ay, cy, rfl, hcy, hmy, hy⟩ := hy.opened
  clear hmx hmy hx hy
  go_enter Tryz.func24, Tryz.ntmps24
  go_wp2
  go_loop [11, 3] (fun i s => ∃ k : Nat, k ≤ 2 ∧ i = .int .i64 k ∧ s = .int .i64 (if k = 0 then 0 else if k = 1 then (x.length : Int) else (x.length : Int) + (y.length : Int))) (fun i _ => 2 - (intOf i).toNat)
  case atStart => exact ⟨0, by omega, rfl, rfl⟩
  case round =>
    obtain ⟨k, hk, rfl, rfl⟩ := hrel
    rcases (by omega : k = 0 ∨ k = 1 ∨ k = 2) with rfl | rfl | rfl
    · go_wp2
      go_round
      case rel => exact ⟨1, by omega, by go_num, by simp⟩
      case measure => simp [intOf]
    · go_wp2
      go_round
      case rel => exact ⟨2, by omega, by go_num, by simp⟩
      case measure => simp [intOf]
    · simp only [show (2 : Nat) ≠ 0 by omega, show (2 : Nat) ≠ 1 by omega, if_false]
      rw [show (x.length : Int) + (y.length : Int) = ((x.length + y.length : Nat) : Int) by omega]
      go_wp2_with fail
      refine (GrowAll_errs _ _ hl).mono ?_
      rintro e w1 ⟨⟨vg, rfl, hog⟩, hb1⟩
      have S1 := (Since.refl w).step hb1
      clear hb1
      go_wp2_with fail
      go_loopw [27, 6] (fun i v wr => ∃ k : Nat, k ≤ 2 ∧ i = .int .i64 k ∧ OwnInts wr 26 w.heap.size v (if k = 0 then [] else if k = 1 then x else x ++ y) ∧ Since w.heap.size w wr) (fun i _ _ => 2 - (intOf i).toNat)
      case atStart => exact ⟨0, by omega, rfl, hog, S1⟩
      case round =>
        obtain ⟨k, hk, rfl, ho, hS⟩ := hrel
        have c0 := (hS.below.cell (p := ⟨b, 0, none⟩) hbl).trans h0
        have c1 := (hS.below.cell (p := ⟨b, 1, none⟩) hbl).trans h1
        rcases (by omega : k = 0 ∨ k = 1 ∨ k = 2) with rfl | rfl | rfl
        · simp only [if_true] at ho
          go_wp2_with (at_builtin; refine wpList_append_ints rfl _ _ 38 rfl 26 Tryz.underlying38 info_errs w.heap.size _ _ rfl ho x _ rfl (hx0.stays hS.below) (by first | omega | (simp; omega)) hS.2 ?_; intro v' w4 ho4 hg4)
          go_roundw
          case rel => exact ⟨1, by omega, by go_num, by simpa using ho4, hS.own ho hg4⟩
          case measure => simp [intOf]
        · simp only [show (1 : Nat) ≠ 0 by omega, if_false, if_true] at ho
          go_wp2_with (at_builtin; refine wpList_append_ints rfl _ _ 38 rfl 26 Tryz.underlying38 info_errs w.heap.size _ _ rfl ho y _ rfl (hy0.stays hS.below) (by first | omega | (simp; omega)) hS.2 ?_; intro v' w4 ho4 hg4)
          go_roundw
          case rel => exact ⟨2, by omega, by go_num, by simpa using ho4, hS.own ho hg4⟩
          case measure => simp [intOf]
        · simp only [show (2 : Nat) ≠ 0 by omega, show (2 : Nat) ≠ 1 by omega, if_false] at ho
          go_wp2
          go_ret
          exact ⟨⟨_, rfl, ho⟩, hS.below⟩
end Go.Proofs.YtnidbghgadnjeaaGreat
