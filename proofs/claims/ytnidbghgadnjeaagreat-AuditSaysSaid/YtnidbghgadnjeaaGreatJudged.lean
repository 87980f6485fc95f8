/-
  judged, a closed fact of audits, walked.
-/
import Derived.Test.YtnidbghgadnjeaaGreatExtra
import Derived.Test.YtnidbghgadnjeaaGreatWovens
import Derived.Test.YtnidbghgadnjeaaGreatBlamed
import Derived.Test.YtnidbghgadnjeaaGreatLack
namespace Go.Proofs.YtnidbghgadnjeaaGreat
open Go.RowKit

def jdB : Me := ([([], 2, 4, 3)], [(true, 2, [(0, 0, [5, 9])]), (true, 2, [(0, 1, [8, 0])]), (true, 2, [(0, 2, [9, 22])]), (true, 2, [(0, 3, [11, 13])]), (true, 2, [])])
def jdG : Me := ([([], 2, 4, 3)], [(true, 2, [(0, 0, [5, 9])]), (true, 2, [(0, 1, [8, 0])]), (true, 2, [(0, 2, [9, 22])]), (false, 2, [(0, 3, [11, 13])]), (true, 2, [])])
theorem jdB_blame : blamedE jdB 0 = 0 ∧ blamedC jdB 0 = [1] := by decide +kernel
theorem jdG_lack : readyE jdG 0 = 0 ∧ lackV jdG 0 = 1 ∧ readyE jdG 1 = 4 := by decide +kernel

set_option linter.unusedSimpArgs false in
set_option maxRecDepth 100000 in
set_option maxHeartbeats 4000000 in
theorem judged_any (W : World) : Calls Tryz.prog 29 #[] W fun e w' => e = .returned (.bool true) ∧ Below W.heap.size W w' := by
  have E1 := Lib.hid jdB_blame
  have E2 := Lib.hid jdG_lack
  have E8 : Hid (eqInts [1] [1] = true) := Lib.hid (by decide)
  go_enter Tryz.func29, Tryz.ntmps29
  go_upto_region 2 with (go_at_call 47; go_fit (begun_any W); rintro e w1 ⟨⟨y1, y2, rfl, ho1⟩, hb1⟩; obtain ⟨a1, c1, ev1, _⟩ := ho1.vers.opened; rw [show begM.1.length = 1 from rfl] at ev1; subst ev1; obtain ⟨a2, c2, ev2, _⟩ := ho1.peers.opened; rw [show begM.2.length = 5 from rfl] at ev2; subst ev2)
  have S1 := (Since.refl W).step hb1
  have S2 := S1.alloc (.cells #[.slice a1 1 c1, .slice a2 5 c2] 35)
  have ho2 := ho1.toT.stays (below_alloc w1 (.cells #[.slice a1 1 c1, .slice a2 5 c2] 35))
  have b0 : (w1.alloc (.cells #[.slice a1 1 c1, .slice a2 5 c2] 35)).cell? ⟨w1.heap.size, 0, none⟩ = some (.slice a1 1 c1) := by go_simp
  have b1 : (w1.alloc (.cells #[.slice a1 1 c1, .slice a2 5 c2] 35)).cell? ⟨w1.heap.size, 1, none⟩ = some (.slice a2 5 c2) := by go_simp
  generalize w1.alloc (.cells #[.slice a1 1 c1, .slice a2 5 c2] 35) = w2 at *
  obtain ⟨B, hB⟩ : ∃ B, B = w1.heap.size := ⟨_, rfl⟩
  have hWB := S1.2
  rw [← hB] at b0 b1 ho2 hWB ⊢
  clear hB ho1 hb1 S1
  obtain ⟨g, cg, gk, ck, gy, cy, ev, k2, x0, x1, x2, hv, fy, hy1, hy2, hyg, _, _, _, hval⟩ := ho2.kept (k := 1) (q := 0) (p := (true, 2, [(0, 1, [7, 0])])) (x := (0, 1, [7, 0])) rfl rfl (by simp)
  rw [show begM.2.length = 5 from rfl] at ev
  simp only [Value.slice.injEq, true_and] at ev
  obtain ⟨rfl, rfl⟩ := ev
  have k2 : w2.cell? ⟨g, 5, none⟩ = some (.slice (some ⟨gk, 0, none⟩) 1 ck) := k2
  have x2 : w2.cell? ⟨gk, 2, none⟩ = some (.slice (some ⟨gy, 0, none⟩) 2 cy) := by simpa using x2
  have v0 := (hv 0 7 rfl).1
  have f0 := fy 0
  have hBy : B ≠ gy := by omega
  have h4 : OwnT (fun k => k < W.heap.size) (w2.setCell ⟨gy, 0, none⟩ (.int .i64 8)) W.heap.size B (.slice a1 1 c1) (.slice (some ⟨g, 0, none⟩) 5 c2) jdB := hval 0 8 ⟨by decide, by decide⟩
  have d1 : (w2.setCell ⟨gy, 0, none⟩ (.int .i64 8)).cell? ⟨B, 1, none⟩ = some (.slice (some ⟨g, 0, none⟩) 5 c2) := (cell_set_other _ _ _ _ hBy).trans b1
  have d0 : (w2.setCell ⟨gy, 0, none⟩ (.int .i64 8)).cell? ⟨B, 0, none⟩ = some (.slice a1 1 c1) := (cell_set_other _ _ _ _ hBy).trans b0
  have S4 := S2.setCell (a := ⟨gy, 0, none⟩) hy1 (.int .i64 8)
  clear hval hv fy
  go_upto_region 5 with fail
  clear b0 b1 v0 f0 k2 x2 x0 x1
  generalize w2.setCell ⟨gy, 0, none⟩ (.int .i64 8) = w4 at *
  go_upto_region 6 with (go_at_call 25; go_fit (Blamed_any _ _ jdB.1 jdB.2 0 w4 h4.vers h4.peers); rintro e w5 ⟨⟨z1, rfl, hi1, hl1⟩, hb5⟩; rw [show blamedE (jdB.1, jdB.2) 0 = 0 from E1.out.1]; rw [show blamedC (jdB.1, jdB.2) 0 = [1] from E1.out.2] at hi1; obtain ⟨ab, cb, rfl, _⟩ := hi1.opened)
  have S5 := S4.step hb5
  have h5 := h4.stays hb5
  have HL1 := Lib.hid hl1
  have hBw4 := cell_lt d0
  simp only at hBw4
  clear hl1
  have d0 := below_cell hb5 d0
  have d1 := below_cell hb5 d1
  clear h4 hb5
  obtain ⟨g', cg', u0, c0, ev, hg1, hg2, r0, _, _, _, _, fz, hset, _⟩ := h5.peer (k := 3) (p := (true, 2, [(0, 3, [11, 13])])) rfl
  rw [show jdB.2.length = 5 from rfl] at ev
  simp only [Value.slice.injEq, Option.some.injEq, Addr.mk.injEq, and_true, true_and] at ev
  obtain ⟨rfl, rfl⟩ := ev
  have r0 : w5.cell? ⟨g, 9, none⟩ = some (.bool true) := r0
  have f0 := fz 9
  have hBg : B ≠ g := by omega
  have h6 : OwnT (fun k => k < W.heap.size) (w5.setCell ⟨g, 9, none⟩ (.bool false)) W.heap.size B (.slice a1 1 c1) (.slice (some ⟨g, 0, none⟩) 5 c2) jdG := hset false
  have e1 : (w5.setCell ⟨g, 9, none⟩ (.bool false)).cell? ⟨B, 1, none⟩ = some (.slice (some ⟨g, 0, none⟩) 5 c2) := (cell_set_other _ _ _ _ hBg).trans d1
  have e0 : (w5.setCell ⟨g, 9, none⟩ (.bool false)).cell? ⟨B, 0, none⟩ = some (.slice a1 1 c1) := (cell_set_other _ _ _ _ hBg).trans d0
  have S6 := S5.setCell (a := ⟨g, 9, none⟩) hg1 (.bool false)
  have hi6 := hi1.framed (D := fun k => k = g) (fun k hk hne e => by have := HL1.out k hk; omega) ((Dirty.of_grown (grown_setCell w5 ⟨g, 9, none⟩ (.bool false))).mono fun k _ hk => by cases hk; rfl)
  clear hset fz h5 hi1
  go_upto_region 7 with fail
  clear d0 d1 r0 f0
  generalize w5.setCell ⟨g, 9, none⟩ (.bool false) = w6 at *
  go_upto_region 8 with (go_at_call 26; go_fit (Lacking_any _ jdG.1 _ jdG.2 0 w6 h6.vers h6.peers); rintro e w7 ⟨rfl, hb7⟩; rw [show lackV (jdG.1, jdG.2) 0 = 1 from E2.out.2.1, show readyE (jdG.1, jdG.2) 0 = 0 from E2.out.1])
  have S7 := S6.step hb7
  have h7 := h6.stays hb7
  have hi7 := hi6.stays hb7
  have e0 := below_cell hb7 e0
  have e1 := below_cell hb7 e1
  clear h6 hi6 hb7
  go_upto_region 9 with (go_at_call 26; go_fit (Lacking_any _ jdG.1 _ jdG.2 1 w7 h7.vers h7.peers); rintro e w8 ⟨rfl, hb8⟩; rw [show readyE (jdG.1, jdG.2) 1 = 4 from E2.out.2.2])
  have S8 := S7.step hb8
  have hi8 := (hi7.stays hb8).stays (below_alloc w8 (.cells #[.int .i64 1] 3))
  have S9 := S8.alloc (.cells #[.int .i64 1] 3)
  have HI := Lib.hid (IsInts.fresh w8 3 [1] (by decide) (wfNums _ (by decide)) _ rfl)
  clear h7 hi7 hb8 e0 e1
  go_wp2_with fail
  refine (Equal_ints _ _ [1] [1] _ hi8 HI.out).mono ?_
  rintro e w9 ⟨rfl, hb9⟩
  rw [E8.out]
  go_wp2_with fail
  go_ret
  exact ⟨rfl, (S9.step hb9).below⟩
end Go.Proofs.YtnidbghgadnjeaaGreat
