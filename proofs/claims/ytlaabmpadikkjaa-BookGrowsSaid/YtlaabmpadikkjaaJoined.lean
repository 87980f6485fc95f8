/-
  The walk of the closed fact on versions that come together.
-/
import Derived.Test.YtlaabmpadikkjaaFamily
namespace Go.Proofs.Ytlaabmpadikkjaa
open Go.RowKit

set_option maxRecDepth 100000 in
set_option maxHeartbeats 4000000 in
theorem joined_any (W : World) : Calls Try.prog 34 #[] W fun e w' => e = .returned (.bool true) ∧ Below W.heap.size W w' := by
  have S := Since.refl W
  go_enter Try.func34, Try.ntmps34
  go_wp2_with fail
  refine (family_any _).mono ?_
  rintro e w1a ⟨⟨v1, rfl, hv1⟩, hb1⟩
  have S1a := S.step hb1
  go_wp2_with fail
  refine (Common_any _ famL 3 4 _ hv1).mono ?_
  rintro e w1 ⟨⟨u1, rfl, ho1⟩, hc1⟩
  rw [show commonE famL 3 4 = 0 from by decide +kernel]
  rw [show commonC famL 3 4 = [2] from by decide +kernel] at ho1
  have S1 := S1a.step hc1
  have hi1 := ho1.isInts
  clear S hb1 hc1 ho1 hv1 S1a
  go_wp2_with fail
  refine (family_any _).mono ?_
  rintro e w2a ⟨⟨v2, rfl, hv2⟩, hb2⟩
  have S2a := S1.step hb2
  go_wp2_with fail
  refine (Common_any _ famL 1 2 _ hv2).mono ?_
  rintro e w2 ⟨⟨u2, rfl, ho2⟩, hc2⟩
  rw [show commonE famL 1 2 = 0 from by decide +kernel]
  rw [show commonC famL 1 2 = [0] from by decide +kernel] at ho2
  have S2 := S2a.step hc2
  have hi2 := ho2.isInts
  have hi12 := (hi1.stays hb2).stays hc2
  clear S1 hb2 hc2 ho2 hv2 S2a hi1
  go_wp2_with fail
  refine (family_any _).mono ?_
  rintro e w3a ⟨⟨v3, rfl, hv3⟩, hb3⟩
  have S3a := S2.step hb3
  go_wp2_with fail
  refine (Apart_any _ famL 3 4 _ hv3).mono ?_
  rintro e w3 ⟨rfl, hc3⟩
  rw [show commonE famL 3 4 = 0 from by decide +kernel, show apartC famL 3 4 = true from by decide +kernel]
  have S3 := S3a.step hc3
  have hi13 := (hi12.stays hb3).stays hc3
  have hi23 := (hi2.stays hb3).stays hc3
  clear S2 hb3 hc3 hv3 S3a hi12 hi2
  go_wp2_with fail
  refine (family_any _).mono ?_
  rintro e w4a ⟨⟨v4, rfl, hv4⟩, hb4⟩
  have S4a := S3.step hb4
  go_wp2_with fail
  refine (Apart_any _ famL 3 1 _ hv4).mono ?_
  rintro e w4 ⟨rfl, hc4⟩
  rw [show commonE famL 3 1 = 0 from by decide +kernel, show apartC famL 3 1 = false from by decide +kernel]
  have S4 := S4a.step hc4
  have hi14 := (hi13.stays hb4).stays hc4
  have hi24 := (hi23.stays hb4).stays hc4
  clear S3 hb4 hc4 hv4 S4a hi13 hi23
  go_wp2_with fail
  refine (family_any _).mono ?_
  rintro e w5a ⟨⟨v5, rfl, hv5⟩, hb5⟩
  have S5a := S4.step hb5
  go_wp2_with fail
  refine (Apart_any _ famL 3 5 _ hv5).mono ?_
  rintro e w5 ⟨rfl, hc5⟩
  rw [show commonE famL 3 5 = 4 from by decide +kernel, show apartC famL 3 5 = false from by decide +kernel]
  have S5 := S5a.step hc5
  have hi15 := (hi14.stays hb5).stays hc5
  have hi25 := (hi24.stays hb5).stays hc5
  clear S4 hb5 hc5 hv5 S5a hi14 hi24
  have E1 := Lib.hid (show eqInts [2] [2] = true from by decide)
  have E2 := Lib.hid (show eqInts [0] [0] = true from by decide)
  go_wp2_with fail
  refine (Equal_ints _ _ [2] [2] _ (hi15.stays (below_alloc _ _)) (IsInts.fresh _ 3 [2] (by decide) (wfNums _ (by decide)) _ (by simp))).mono ?_
  rintro e w6 ⟨rfl, hb6⟩
  rw [E1.out]
  have S6 := (S5.alloc (.cells #[.int .i64 2] 3)).step hb6
  have hi26 := (hi25.stays (below_alloc w5 (.cells #[.int .i64 2] 3))).stays hb6
  clear hb6 S5 hi25 hi15
  go_wp2_with fail
  refine (Equal_ints _ _ [0] [0] _ (hi26.stays (below_alloc _ _)) (IsInts.fresh _ 3 [0] (by decide) (wfNums _ (by decide)) _ (by simp))).mono ?_
  rintro e w7 ⟨rfl, hb7⟩
  rw [E2.out]
  have S7 := (S6.alloc (.cells #[.int .i64 0] 3)).step hb7
  clear hb7 S6 hi26
  go_wp2_with fail
  go_ret
  exact ⟨rfl, S7.below⟩

end Go.Proofs.Ytlaabmpadikkjaa
