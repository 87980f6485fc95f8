/-
  The walk of the closed fact on three peers.
-/
import Derived.Test.YtpjlngkndofjfaaBooks
import Derived.Test.YtpjlngkndofjfaaPlace4
namespace Go.Proofs.Ytpjlngkndofjfaa
open Go.RowKit

theorem elem_peer {w : World} {g o : Nat} {u : Value} {x : Pr} (h0 : w.cell? ⟨g, o, none⟩ = some (.bool x.1)) (h1 : w.cell? ⟨g, o + 1, none⟩ = some (.int .i64 x.2.1)) (h2 : w.cell? ⟨g, o + 2, none⟩ = some u)
    (hu : IsKepts w u x.2.2) (i : I64 x.2.1) : ElemAt 3 RPeer w g o x := by
  refine ⟨[.bool x.1, .int .i64 x.2.1, u], rfl, fun j c hj => ?_, u, rfl, hu, i⟩
  match j, hj with
  | 0, hj => simp at hj; subst hj; exact h0
  | 1, hj => simp at hj; subst hj; exact h1
  | 2, hj => simp at hj; subst hj; exact h2
theorem elem_kept {w : World} {g o : Nat} {u : Value} {x : Kp} (h0 : w.cell? ⟨g, o, none⟩ = some (.int .i64 x.1)) (h1 : w.cell? ⟨g, o + 1, none⟩ = some (.int .i64 x.2.1)) (h2 : w.cell? ⟨g, o + 2, none⟩ = some u)
    (hu : IsInts w u x.2.2) (i : I64 x.1 ∧ I64 x.2.1) : ElemAt 3 RKept w g o x := by
  refine ⟨[.int .i64 x.1, .int .i64 x.2.1, u], rfl, fun j c hj => ?_, u, rfl, hu, i⟩
  match j, hj with
  | 0, hj => simp at hj; subst hj; exact h0
  | 1, hj => simp at hj; subst hj; exact h1
  | 2, hj => simp at hj; subst hj; exact h2

set_option maxRecDepth 100000 in
set_option maxHeartbeats 1000000 in
theorem kept_any (v : Int) (W : World) : Calls Try.prog 29 #[.int .i64 v] W fun e w' => (∃ u, e = .returned (.agg #[.int .i64 v, .int .i64 0, .slice (some u) 1 1]) ∧ IsInts w' (.slice (some u) 1 1) [7]) ∧ Below W.heap.size W w' := by
  go_enter Try.func29, Try.ntmps29
  go_wp2_with fail
  refine bodyPost_ret (v := .agg #[.int .i64 v, .int .i64 0, .slice (some ⟨W.heap.size + 1, 0, none⟩) 1 1]) (by simp [results, Try.results29, go_sem]) rfl ⟨⟨_, rfl, IsInts.one (by go_simp) (i64_small (by decide))⟩, (((Since.refl W).alloc _).alloc _).below⟩

/-- The peers of the closed fact. -/
def chP : List Pr := [(true, 1, []), (true, 3, []), (false, 9, []), (true, 3, [(1, 0, [7])]), (true, 0, [])]

theorem IsKepts.one {w : World} {g : Nat} {u : Value} {x : Kp} (h : ElemAt 3 RKept w g 0 x) (hu : u = .slice (some ⟨g, 0, none⟩) 1 1) : IsKepts w u [x] := by
  refine ⟨some ⟨g, 0, none⟩, 1, hu, Nat.le_refl _, ⟨by simp, by omega, fun e => by cases e⟩, fun i y hy => ?_⟩
  match i, hy with
  | 0, hy =>
    simp only [List.getElem?_cons_zero, Option.some.injEq] at hy
    subst hy
    refine ⟨_, 0, rfl, ?_⟩
    show ElemAt 3 RKept _ _ 0 _
    exact h
  | i + 1, hy => simp at hy

set_option maxRecDepth 100000 in
set_option maxHeartbeats 1000000 in
theorem chP_at (w : World) (u : Addr) (hu : IsInts w (.slice (some u) 1 1) [7]) :
    IsPeers ((w.alloc (.cells #[.int .i64 1, .int .i64 0, .slice (some u) 1 1] 44)).alloc (.cells #[.bool true, .int .i64 1, .slice none 0 0, .bool true, .int .i64 3, .slice none 0 0, .bool false, .int .i64 9, .slice none 0 0, .bool true, .int .i64 3, .slice (some ⟨w.heap.size, 0, none⟩) 1 1, .bool true, .int .i64 0, .slice none 0 0] 37)) (.slice (some ⟨w.heap.size + 1, 0, none⟩) 5 5) chP := by
  refine ⟨some ⟨w.heap.size + 1, 0, none⟩, 5, rfl, by decide, ⟨by decide, by omega, fun e => by cases e⟩, fun i x hx => ?_⟩
  have hi0 : IsInts ((w.alloc (.cells #[.int .i64 1, .int .i64 0, .slice (some u) 1 1] 44)).alloc (.cells #[.bool true, .int .i64 1, .slice none 0 0, .bool true, .int .i64 3, .slice none 0 0, .bool false, .int .i64 9, .slice none 0 0, .bool true, .int .i64 3, .slice (some ⟨w.heap.size, 0, none⟩) 1 1, .bool true, .int .i64 0, .slice none 0 0] 37)) (.slice (some u) 1 1) [7] := hu.stays (((Since.refl w).alloc _).alloc _).below
  match i, hx with
  | 0, hx =>
    simp only [chP, List.getElem?_cons_zero, Option.some.injEq] at hx
    subst hx
    refine ⟨_, 0, rfl, ?_⟩
    show ElemAt 3 RPeer _ _ 0 _
    exact elem_peer (u := .slice none 0 0) (by go_simp) (by go_simp) (by go_simp) (IsRow.nil _) (i64_small (by decide))
  | 1, hx =>
    simp only [chP, List.getElem?_cons_zero, List.getElem?_cons_succ, Option.some.injEq] at hx
    subst hx
    refine ⟨_, 0, rfl, ?_⟩
    show ElemAt 3 RPeer _ _ 3 _
    exact elem_peer (u := .slice none 0 0) (by go_simp) (by go_simp) (by go_simp) (IsRow.nil _) (i64_small (by decide))
  | 2, hx =>
    simp only [chP, List.getElem?_cons_zero, List.getElem?_cons_succ, Option.some.injEq] at hx
    subst hx
    refine ⟨_, 0, rfl, ?_⟩
    show ElemAt 3 RPeer _ _ 6 _
    exact elem_peer (u := .slice none 0 0) (by go_simp) (by go_simp) (by go_simp) (IsRow.nil _) (i64_small (by decide))
  | 3, hx =>
    simp only [chP, List.getElem?_cons_zero, List.getElem?_cons_succ, Option.some.injEq] at hx
    subst hx
    refine ⟨_, 0, rfl, ?_⟩
    show ElemAt 3 RPeer _ _ 9 _
    exact elem_peer (u := .slice (some ⟨w.heap.size, 0, none⟩) 1 1) (by go_simp) (by go_simp) (by go_simp) (IsKepts.one (elem_kept (u := .slice (some u) 1 1) (by go_simp) (by go_simp) (by go_simp) hi0 ⟨i64_small (by decide), i64_small (by decide)⟩) rfl) (i64_small (by decide))
  | 4, hx =>
    simp only [chP, List.getElem?_cons_zero, List.getElem?_cons_succ, Option.some.injEq] at hx
    subst hx
    refine ⟨_, 0, rfl, ?_⟩
    show ElemAt 3 RPeer _ _ 12 _
    exact elem_peer (u := .slice none 0 0) (by go_simp) (by go_simp) (by go_simp) (IsRow.nil _) (i64_small (by decide))
  | i + 5, hx => simp [chP] at hx

set_option maxRecDepth 100000 in
set_option maxHeartbeats 4000000 in
theorem chosen_any (W : World) : Calls Try.prog 9 #[] W fun e w' => e = .returned (.bool true) ∧ Below W.heap.size W w' := by
  have S := Since.refl W
  obtain ⟨FM, hFM⟩ : ∃ FM, FM = famL := ⟨_, rfl⟩
  obtain ⟨CP, hCP⟩ : ∃ CP, CP = chP := ⟨_, rfl⟩
  have F1 := Lib.hid (show forE FM CP 2 3 = 0 from by rw [hFM, hCP]; decide +kernel)
  have F2 := Lib.hid (show forC FM CP 2 3 = [1, 3, 0] from by rw [hFM, hCP]; decide +kernel)
  have F3 := Lib.hid (show forE FM CP 1 2 = 0 from by rw [hFM, hCP]; decide +kernel)
  have F4 := Lib.hid (show forC FM CP 1 2 = [1, 0] from by rw [hFM, hCP]; decide +kernel)
  have F5 := Lib.hid (show forE FM CP 1 3 = 7 from by rw [hFM, hCP]; decide +kernel)
  have F6 := Lib.hid (show placeV FM CP = 0 from by rw [hFM, hCP]; decide +kernel)
  have HFM := Lib.hid hFM.symm
  have HCP := Lib.hid hCP.symm
  clear hFM hCP
  go_enter Try.func9, Try.ntmps9
  go_upto_region 2 with (refine (kept_any _ _).mono ?_; rintro e w1 ⟨⟨u1, rfl, hu1⟩, hb1⟩)
  have hl := chP_at w1 u1 hu1
  rw [HCP.out] at hl
  have S1 := (((S.step hb1).alloc (.cells #[.int .i64 1, .int .i64 0, .slice (some u1) 1 1] 44)).alloc (.cells #[.bool true, .int .i64 1, .slice none 0 0, .bool true, .int .i64 3, .slice none 0 0, .bool false, .int .i64 9, .slice none 0 0, .bool true, .int .i64 3, .slice (some ⟨w1.heap.size, 0, none⟩) 1 1, .bool true, .int .i64 0, .slice none 0 0] 37))
  generalize (w1.alloc (.cells #[.int .i64 1, .int .i64 0, .slice (some u1) 1 1] 44)).alloc (.cells #[.bool true, .int .i64 1, .slice none 0 0, .bool true, .int .i64 3, .slice none 0 0, .bool false, .int .i64 9, .slice none 0 0, .bool true, .int .i64 3, .slice (some ⟨w1.heap.size, 0, none⟩) 1 1, .bool true, .int .i64 0, .slice none 0 0] 37) = w2 at *
  obtain ⟨Bl, hBl⟩ : ∃ Bl, Bl = w1.heap.size + 1 := ⟨_, rfl⟩
  rw [← hBl] at hl ⊢
  clear hu1 hb1 S hBl
  go_upto_region 3 with (first
    | (go_at_call 30; refine (family_any _).mono ?_; rintro e w3 ⟨⟨v3, rfl, hv3⟩, hb3⟩; rw [HFM.out] at hv3; have hl3 := hl.stays RPeer.stays hb3; have S3 := S1.step hb3)
    | (go_at_call 7; refine (For_any _ FM _ CP 2 3 _ hv3 hl3).mono ?_; rintro e w4 ⟨⟨u4, rfl, hi4⟩, hb4⟩; rw [F1.out]; rw [F2.out] at hi4))
  have hl4 := hl3.stays RPeer.stays hb4
  have S4 := S3.step hb4
  clear S1 hl hb3 hl3 S3 hb4 hv3
  go_upto_region 4 with (first
    | (go_at_call 30; refine (family_any _).mono ?_; rintro e w5 ⟨⟨v5, rfl, hv5⟩, hb5⟩; rw [HFM.out] at hv5; have hl5 := hl4.stays RPeer.stays hb5; have S5 := S4.step hb5)
    | (go_at_call 7; refine (For_any _ FM _ CP 1 2 _ hv5 hl5).mono ?_; rintro e w6 ⟨⟨u6, rfl, hi6⟩, hb6⟩; rw [F3.out]; rw [F4.out] at hi6))
  have hl6 := hl5.stays RPeer.stays hb6
  have S6 := S5.step hb6
  have hi46 := (hi4.stays hb5).stays hb6
  clear S4 hl4 hb5 hl5 S5 hb6 hv5 hi4
  go_upto_region 5 with (first
    | (go_at_call 30; refine (family_any _).mono ?_; rintro e w7 ⟨⟨v7, rfl, hv7⟩, hb7⟩; rw [HFM.out] at hv7; have hl7 := hl6.stays RPeer.stays hb7; have S7 := S6.step hb7)
    | (go_at_call 7; refine (For_any _ FM _ CP 1 3 _ hv7 hl7).mono ?_; rintro e w8 ⟨⟨u8, rfl, hi8⟩, hb8⟩; rw [F5.out]))
  have HL8 := Lib.hid (hl7.stays RPeer.stays hb8)
  have S8 := S7.step hb8
  have HI4 := Lib.hid ((hi46.stays hb7).stays hb8)
  have HI6 := Lib.hid ((hi6.stays hb7).stays hb8)
  clear S6 hl6 hb7 hl7 S7 hb8 hv7 hi46 hi6 hi8
  go_wp2_with fail
  refine (Equal_ints _ _ [1, 3, 0] [1, 3, 0] _ (HI4.out.stays (below_alloc w8 _)) (IsInts.fresh w8 3 [1, 3, 0] (by decide) (wfNums _ (by decide)) w8.heap.size rfl)).mono ?_
  rintro e w9 ⟨rfl, hb9⟩
  have S9 := (S8.alloc (.cells #[.int .i64 1, .int .i64 3, .int .i64 0] 3)).step hb9
  have B9 := ((Since.refl w8).alloc (.cells #[.int .i64 1, .int .i64 3, .int .i64 0] 3)).step hb9
  have e9 : eqInts [1, 3, 0] [1, 3, 0] = true := by decide
  rw [e9]
  clear hb9
  go_wp2_with fail
  refine (Equal_ints _ _ [1, 0] [1, 0] _ ((HI6.out.stays B9.below).stays (below_alloc w9 _)) (IsInts.fresh w9 3 [1, 0] (by decide) (wfNums _ (by decide)) w9.heap.size rfl)).mono ?_
  rintro e w10 ⟨rfl, hb10⟩
  have S10 := (S9.alloc (.cells #[.int .i64 1, .int .i64 0] 3)).step hb10
  have B10 := (B9.alloc (.cells #[.int .i64 1, .int .i64 0] 3)).step hb10
  have e10 : eqInts [1, 0] [1, 0] = true := by decide
  rw [e10]
  clear hb10
  go_wp2_with (first
    | (go_at_call 30; refine (family_any _).mono ?_; rintro e w11 ⟨⟨v11, rfl, hv11⟩, hb11⟩; rw [HFM.out] at hv11; have S11 := S10.step hb11; have hl11 := (HL8.out.stays RPeer.stays B10.below).stays RPeer.stays hb11)
    | (go_at_call 10; refine (placeCheck_any _ FM _ CP _ hv11 hl11).mono ?_; rintro e w12 ⟨rfl, hb12⟩; rw [F6.out]))
  go_ret
  exact ⟨rfl, (S11.step hb12).below⟩

end Go.Proofs.Ytpjlngkndofjfaa
