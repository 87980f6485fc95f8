/-
  The walk of the closed fact on a book's family.
-/
import Derived.Test.YtlaabmpadikkjaaFamily
import Derived.Test.YtlaabmpadikkjaaBook7
import Derived.Test.YtlaabmpadikkjaaKinSelfWalk
namespace Go.Proofs.Ytlaabmpadikkjaa
open Go.RowKit

theorem field_book (a : Option Addr) (n c : Nat) (w : World) : (Instr.field 50 (.agg #[.slice a n c]) 0).run Try.prog w = .ok (.slice a n c) w := by
  kernel_rfl

set_option maxRecDepth 100000 in
set_option maxHeartbeats 4000000 in
theorem listed_any (W : World) : Calls Try.prog 43 #[] W fun e w' => e = .returned (.bool true) ∧ Below W.heap.size W w' := by
  have S := Since.refl W
  have F0 := Lib.hid (show bookV famL = 0 from by decide +kernel)
  have F1 := Lib.hid (show headsC famL = [3, 4] from by decide +kernel)
  have F2 := Lib.hid (show behindE famL 3 = 0 from by decide +kernel)
  have F3 := Lib.hid (show behindC famL 3 = [0, 1, 2, 3] from by decide +kernel)
  have F4 := Lib.hid (show addVE famL ([5], 1, 1, 1) = 4 from by decide +kernel)
  have F5 := Lib.hid (show addVE famL ([3, 4], 1, 1, 1) = 0 from by decide +kernel)
  obtain ⟨L6, hL6⟩ : ∃ L6, L6 = famL ++ [(([3, 4], 1, 1, 1) : Ver)] := ⟨_, rfl⟩
  have F6 := Lib.hid (show addC famL ([3, 4], 1, 1, 1) = L6 from by rw [hL6]; decide +kernel)
  have F7 := Lib.hid (show bookV L6 = 0 from by rw [hL6]; decide +kernel)
  have F8 := Lib.hid (show eqBy verEq L6 L6 = true from by rw [hL6]; decide +kernel)
  have FL : L6.length = 6 := by rw [hL6]; decide +kernel
  have FN : famL.length = 5 := by decide +kernel
  have FG : famL[0]? = some ([], 1, 1, 1) := by decide +kernel
  have HFL := Lib.hid FL
  have HFN := Lib.hid FN
  have HFG := Lib.hid FG
  clear FL FN FG hL6
  have hfb := field_book
  go_enter Try.func43, Try.ntmps43
  go_wp2_with fail
  refine (family_any _).mono ?_
  rintro e w1a ⟨⟨v1, rfl, hv1⟩, hb1⟩
  have S1a := S.step hb1
  go_wp2_with fail
  refine (Heads_any _ famL _ hv1).mono ?_
  rintro e w1 ⟨⟨u1, rfl, ho1⟩, hc1⟩
  rw [F0.out]
  rw [F1.out] at ho1
  have S1 := S1a.step hc1
  have hi1 := ho1.isInts
  clear S hb1 hc1 ho1 hv1 S1a
  go_wp2_with fail
  refine (family_any _).mono ?_
  rintro e w2a ⟨⟨v2, rfl, hv2⟩, hb2⟩
  have S2a := S1.step hb2
  go_wp2_with fail
  refine (Behind_any _ famL 3 _ hv2).mono ?_
  rintro e w2 ⟨⟨u2, rfl, ho2⟩, hc2⟩
  rw [F2.out]
  rw [F3.out] at ho2
  have S2 := S2a.step hc2
  have hi2 := ho2.isInts
  have hi12 := (hi1.stays hb2).stays hc2
  clear S1 hb2 hc2 ho2 hv2 S2a hi1
  go_wp2_with fail
  refine (family_any _).mono ?_
  rintro e w3a ⟨⟨v3, rfl, hv3⟩, hb3⟩
  have S3a := S2.step hb3
  go_wp2_with fail
  refine (family_any _).mono ?_
  rintro e w3b ⟨⟨v3', rfl, hv3'⟩, hb3'⟩
  have S3b := (S3a.alloc (.cells #[.int .i64 5] 3)).step hb3'
  have U3 := ((Since.refl w3a).alloc (.cells #[.int .i64 5] 3)).step hb3'
  have hq3 := (IsInts.fresh w3a 3 [5] (by decide) (wfNums _ (by decide)) _ rfl).stays hb3'
  obtain ⟨a3, c3, rfl, hcc3, _⟩ := hv3'.opened
  obtain ⟨g, off, u, cu, rfl, k0, k1, k2, k3, _⟩ := vers_at hv3' HFG.out
  rw [HFN.out] at hcc3 ⊢
  have hv33 := hv3.later RVer.stays (Dirty.old U3.below _)
  go_wp2_with fail
  refine (bookAdd_any _ _ famL ([5], 1, 1, 1) _ hv33 ⟨_, rfl, hq3, i64_small (by decide), i64_small (by decide), i64_small (by decide)⟩).mono ?_
  rintro e w3 ⟨⟨u3, rfl, ho3⟩, hc3⟩
  rw [F4.out]
  have S3 := S3b.step hc3
  obtain ⟨a4, c4, rfl, _⟩ := ho3.opened
  have hi13 := (hi12.stays hb3).stays ((U3.step hc3).below)
  have hi23 := (hi2.stays hb3).stays ((U3.step hc3).below)
  clear S2 hb3 hb3' hc3 ho3 hv3 hv3' S3a S3b U3 hi12 hi2 k0 k1 k2 k3 hq3 hv33
  go_wp2_with fail
  have S3' := S3.alloc (.cells #[.slice a4 (addC famL ([5], 1, 1, 1)).length c4] 50)
  have hi13' := hi13.stays (below_alloc _ (.cells #[.slice a4 (addC famL ([5], 1, 1, 1)).length c4] 50))
  have hi23' := hi23.stays (below_alloc _ (.cells #[.slice a4 (addC famL ([5], 1, 1, 1)).length c4] 50))
  generalize w3.alloc (.cells #[.slice a4 (addC famL ([5], 1, 1, 1)).length c4] 50) = w4 at *
  clear S3 hi13 hi23
  refine (family_any _).mono ?_
  rintro e w5a ⟨⟨v5, rfl, hv5⟩, hb5⟩
  have S5a := S3'.step hb5
  go_wp2_with fail
  refine (family_any _).mono ?_
  rintro e w5b ⟨⟨v5', rfl, hv5'⟩, hb5'⟩
  have S5b := (S5a.alloc (.cells #[.int .i64 3, .int .i64 4] 3)).step hb5'
  have U5 := ((Since.refl w5a).alloc (.cells #[.int .i64 3, .int .i64 4] 3)).step hb5'
  have hq5 := (IsInts.fresh w5a 3 [3, 4] (by decide) (wfNums _ (by decide)) _ rfl).stays hb5'
  obtain ⟨a5, c5, rfl, hcc5, _⟩ := hv5'.opened
  obtain ⟨g, off, u, cu, rfl, k0, k1, k2, k3, _⟩ := vers_at hv5' HFG.out
  rw [HFN.out] at hcc5 ⊢
  have hv55 := hv5.later RVer.stays (Dirty.old U5.below _)
  go_wp2_with fail
  refine (bookAdd_any _ _ famL ([3, 4], 1, 1, 1) _ hv55 ⟨_, rfl, hq5, i64_small (by decide), i64_small (by decide), i64_small (by decide)⟩).mono ?_
  rintro e w6 ⟨⟨u6, rfl, ho6⟩, hc6⟩
  rw [F5.out]
  rw [F6.out] at ho6
  have S6 := S5b.step hc6
  have HO6 := Lib.hid ho6
  obtain ⟨a6, c6, rfl, _⟩ := ho6.opened
  rw [HFL.out]
  have hi16 := (hi13'.stays hb5).stays ((U5.step hc6).below)
  have hi26 := (hi23'.stays hb5).stays ((U5.step hc6).below)
  clear S3' hb5 hb5' hc6 ho6 hv5 hv5' S5a S5b U5 hi13' hi23' k0 k1 k2 k3 hq5 hv55
  have E1 := Lib.hid (show eqInts [3, 4] [3, 4] = true from by decide)
  have E2 := Lib.hid (show eqInts [0, 1, 2, 3] [0, 1, 2, 3] = true from by decide)
  have S7 := S6.alloc (.cells #[.slice a6 6 c6] 50)
  have c7 : (w6.alloc (.cells #[.slice a6 6 c6] 50)).cell? ⟨w6.heap.size, 0, none⟩ = some (.slice a6 6 c6) := by go_simp
  have hi17 := hi16.stays (below_alloc _ (.cells #[.slice a6 6 c6] 50))
  have hi27 := hi26.stays (below_alloc _ (.cells #[.slice a6 6 c6] 50))
  have hv7 := HO6.out.later RVer.stays (Dirty.old (below_alloc w6 (.cells #[.slice a6 6 c6] 50)) _)
  have l7 : w6.heap.size < (w6.alloc (.cells #[.slice a6 6 c6] 50)).heap.size := by simp
  clear S6 hi16 hi26
  go_wp2_with fail
  have hw7s : w6.heap.size + 1 = (w6.alloc (.cells #[.slice a6 6 c6] 50)).heap.size := by simp
  generalize w6.alloc (.cells #[.slice a6 6 c6] 50) = w7 at *
  obtain ⟨B, hB⟩ : ∃ B, B = w6.heap.size := ⟨_, rfl⟩
  rw [← hB] at c7 l7 hw7s ⊢
  have HV7 : Hid (IsVers w7 (.slice a6 6 c6) L6) := Lib.hid (by
    have := hv7
    rw [HFL.out] at this
    exact this)
  clear hB hv7
  refine (Equal_ints _ _ [3, 4] [3, 4] _ (hi17.stays (below_alloc _ _)) (IsInts.fresh w7 3 [3, 4] (by decide) (wfNums _ (by decide)) (B + 1) hw7s)).mono ?_
  rintro e w8 ⟨rfl, hb8⟩
  rw [E1.out]
  clear hw7s
  have U8 := ((Since.refl w7).alloc (.cells #[.int .i64 3, .int .i64 4] 3)).step hb8
  go_wp2_with fail
  refine (Equal_ints _ _ [0, 1, 2, 3] [0, 1, 2, 3] _ ((hi27.stays U8.below).stays (below_alloc _ _)) (IsInts.fresh _ 3 [0, 1, 2, 3] (by decide) (wfNums _ (by decide)) _ rfl)).mono ?_
  rintro e w9 ⟨rfl, hb9⟩
  rw [E2.out]
  have U9 := (U8.alloc (.cells #[.int .i64 0, .int .i64 1, .int .i64 2, .int .i64 3] 3)).step hb9
  have c9 := (U9.below.cell (p := ⟨B, 0, none⟩) l7).trans c7
  clear c7 hb8 hb9 U8 hi17 hi27
  go_wp2_with fail
  refine (bookCheck_any _ L6 _ (HV7.out.later RVer.stays (Dirty.old U9.below _))).mono ?_
  rintro e w10 ⟨rfl, hb10⟩
  rw [F7.out]
  have U10 := U9.step hb10
  have c10 := below_cell hb10 c9
  clear c9 U9 hb10
  go_wp2_with fail
  refine (Same_book _ _ L6 L6 _ (HV7.out.later RVer.stays (Dirty.old U10.below _)) (HV7.out.later RVer.stays (Dirty.old U10.below _))).mono ?_
  rintro e w11 ⟨rfl, hb11⟩
  rw [F8.out]
  go_wp2_with fail
  go_ret
  exact ⟨rfl, (S7.step (U10.step hb11).below).below⟩

end Go.Proofs.Ytlaabmpadikkjaa
