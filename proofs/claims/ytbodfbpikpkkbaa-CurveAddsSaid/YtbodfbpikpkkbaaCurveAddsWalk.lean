/-
  The walk of CurveAdds.
-/
import Derived.Test.YtbodfbpikpkkbaaCurve2
import Derived.Test.YtbodfbpikpkkbaaReverse
import Derived.Test.YtbodfbpikpkkbaaLib2
namespace Go.Proofs.Ytbodfbpikpkkbaa
open Go.RowKit

set_option maxRecDepth 100000 in
set_option maxHeartbeats 1000000 in
theorem curveAdds_no (v0 : Value) (x : List Int) (v1 : Value) (y : List Int) (v2 : Value) (z : List Int) (x3 : Int) (W : World) (hx : IsInts W v0 x) (hy : IsInts W v1 y) (hz : IsInts W v2 z) (h : ptsV x y ≠ 0 ∨ ptsV x z ≠ 0) :
    Calls Try.prog 8 #[v0, v1, v2, .int .i64 x3] W fun e w' => e = .returned (.bool true) ∧ Below W.heap.size W w' := by
  have S := Since.refl W
  by_cases h1 : ptsV x y = 0
  · have h2 : (ptsV x z != 0) = true := by simp; intro e; rcases h with h | h <;> exact h (by assumption)
    have HK := Lib.hid h1
    clear h h1
    go_enter Try.func8, Try.ntmps8
    go_wp2_with fail
    refine (curved_any _).mono ?_
    rintro e w1 ⟨rfl, hb1⟩
    have S1 := S.step hb1
    have hx1 := hx.stays hb1
    have hy1 := hy.stays hb1
    have hz1 := hz.stays hb1
    clear S hb1 hx hy hz
    go_wp2_with fail
    refine (ptsCheck_any _ _ x y _ hx1 hy1).mono ?_
    rintro e w2 ⟨rfl, hb2⟩
    rw [HK.out]
    have S2 := S1.step hb2
    have hx2 := hx1.stays hb2
    have hz2 := hz1.stays hb2
    clear S1 hb2 hx1 hy1 hz1
    go_wp2_with fail
    refine (ptsCheck_any _ _ x z _ hx2 hz2).mono ?_
    rintro e w3 ⟨rfl, hb3⟩
    have S3 := S2.step hb3
    clear S2 hb3 hx2 hz2
    go_wp2_with fail
    refine (curved_any _).mono ?_
    rintro e w4 ⟨rfl, hb4⟩
    have S4 := S3.step hb4
    clear S3 hb4
    go_wp2_with fail
    go_ret
    exact ⟨rfl, S4.below⟩
  · have h2 : (ptsV x y != 0) = true := by simpa using h1
    clear h h1
    go_enter Try.func8, Try.ntmps8
    go_wp2_with fail
    refine (curved_any _).mono ?_
    rintro e w1 ⟨rfl, hb1⟩
    have S1 := S.step hb1
    have hx1 := hx.stays hb1
    have hy1 := hy.stays hb1
    clear S hb1 hx hy hz
    go_wp2_with fail
    refine (ptsCheck_any _ _ x y _ hx1 hy1).mono ?_
    rintro e w2 ⟨rfl, hb2⟩
    have S2 := S1.step hb2
    clear S1 hb2 hx1 hy1
    go_wp2_with fail
    refine (curved_any _).mono ?_
    rintro e w4 ⟨rfl, hb4⟩
    have S4 := S2.step hb4
    clear S2 hb4
    go_wp2_with fail
    go_ret
    exact ⟨rfl, S4.below⟩

set_option maxRecDepth 100000 in
set_option maxHeartbeats 2000000 in
theorem curveAdds_ok (v0 : Value) (x : List Int) (v1 : Value) (y : List Int) (v2 : Value) (z : List Int) (x3 : Int) (W : World) (hx : IsInts W v0 x) (hy : IsInts W v1 y) (hz : IsInts W v2 z) (i3 : I64 x3) (hk1 : ptsV x y = 0) (hk2 : ptsV x z = 0) :
    Calls Try.prog 8 #[v0, v1, v2, .int .i64 x3] W fun e w' => e = .returned (.bool true) ∧ Below W.heap.size W w' := by
  have S := Since.refl W
  have p1 := ptsV_ok.1 hk1
  have p2 := ptsV_ok.1 hk2
  have K1 := Lib.hid hk1
  have K2 := Lib.hid hk2
  have P1 := Lib.hid p1
  have P2 := Lib.hid p2
  have hyl : y.length ≤ 8 := by have := p1.len; have := p1.top; omega
  have hzl : y.length ≤ z.length := by have := p1.len; have := p2.len; omega
  have SM := Lib.hid (atV_sum p1 p2)
  have RV := Lib.hid (atV_rev p1)
  clear hk1 hk2 p1 p2
  obtain ⟨i30, i31⟩ := i3
  have hp := modV_bd x3 (n := 31) (by omega)
  obtain ⟨hp0, hp1⟩ := hp
  go_enter Try.func8, Try.ntmps8
  go_wp2_with fail
  refine (curved_any _).mono ?_
  rintro e w1 ⟨rfl, hb1⟩
  have S1 := S.step hb1
  have hx1 := hx.stays hb1
  have hy1 := hy.stays hb1
  have hz1 := hz.stays hb1
  clear S hb1 hx hy hz
  go_wp2_with fail
  refine (ptsCheck_any _ _ x y _ hx1 hy1).mono ?_
  rintro e w2 ⟨rfl, hb2⟩
  rw [K1.out]
  have S2 := S1.step hb2
  have hx2 := hx1.stays hb2
  have hy2 := hy1.stays hb2
  have hz2 := hz1.stays hb2
  clear S1 hb2 hx1 hy1 hz1
  go_wp2_with fail
  refine (ptsCheck_any _ _ x z _ hx2 hz2).mono ?_
  rintro e w3 ⟨rfl, hb3⟩
  rw [K2.out]
  have S3 := S2.step hb3
  have hx3 := hx2.stays hb3
  have hy3 := hy2.stays hb3
  have hz3 := hz2.stays hb3
  clear S2 hb3 hx2 hy2 hz2
  go_wp2_with fail
  refine (at_any _ _ _ (by omega) (by omega) (by omega) (by omega)).mono ?_
  rintro e w' ⟨rfl, rfl⟩
  generalize modV x3 31 = p at *
  have hy30 := hy3
  have hz30 := hz3
  obtain ⟨ay, cy, rfl, hcy, hmy, hy⟩ := hy3.opened
  obtain ⟨az, cz, rfl, hcz, hmz, hz⟩ := hz3.opened
  clear hmy hmz hy3 hz3
  obtain ⟨g, hg⟩ : ∃ g, g = w3.heap.size := ⟨_, rfl⟩
  have HG := Lib.hid hg
  clear hg
  go_wp2_with fail
  go_loopw [40, 9] (fun i s wr => ∃ k : Nat, k ≤ y.length ∧ i = .int .i64 k ∧ OwnInts wr 3 g s ((sumL y z).take k) ∧ Since g w3 wr) (fun i _ _ => y.length - (intOf i).toNat)
  case atStart => exact ⟨0, by omega, rfl, OwnInts.nil _ _ _, by rw [HG.out]; exact Since.refl _⟩
  case round =>
    obtain ⟨k, hk, rfl, ho, hS⟩ := hrel
    by_cases hlt : k < y.length
    · obtain ⟨b1, o1, z1, rfl, hc1, hz1, hi1⟩ := (hy.stays (by rw [← HG.out]; exact hS.below)) k hlt
      obtain ⟨b2, o2, z2, rfl, hc2, hz2, hi2⟩ := (hz.stays (by rw [← HG.out]; exact hS.below)) k (by omega)
      have n1 := P1.out.numy z1 (List.mem_of_getElem? hz1)
      have n2 := P2.out.numy z2 (List.mem_of_getElem? hz2)
      obtain ⟨n10, n11⟩ := n1
      obtain ⟨n20, n21⟩ := n2
      have HT := Lib.hid (take_get (l := sumL y z) (k := k) (z := (z1 + z2) % 31) (by simp [sumL, List.getElem?_zipWith, hz1, hz2]))
      have hlen : ((sumL y z).take k).length ≤ 8 := by simp; omega
      have iz : I64 ((z1 + z2) % 31) := ⟨by omega, by omega⟩
      clear hz1 hz2
      go_wp2_with fail
      have s1 : (k : Int) < (y.length : Int) := by omega
      have s2 : (k : Int) < (z.length : Int) := by omega
      have s3 : (0 : Int) ≤ (k : Int) := by omega
      have s4 : IntKind.i64.wrap (z1 + z2) = z1 + z2 := IntWalk.i64_in _ (by omega)
      have s5 : (z1 + z2).tmod 31 = (z1 + z2) % 31 := IntWalk.rem_in _ _ (by omega)
      have hgs := hS.2
      go_region_law (refine step_append_int rfl _ _ 24 rfl 3 Try.underlying24 info_int g _ _ rfl (ho.stays (Below.drew (below_alloc wr _))) ⟨wr.heap.size, 0, none⟩ 1 ((z1 + z2) % 31) rfl (by simp) iz (by omega) (by simp; omega) ?_; intro v' w4 ho4 hg4)
      all_goals
        clear s1 s2 s3 s4 s5
        go_wp2_with fail
        go_roundw
        case rel => exact ⟨k + 1, by omega, by go_num, by rw [HT.out]; exact ho4, (hS.step (Below.drew (below_alloc wr _))).own (ho.stays (Below.drew (below_alloc wr _))) hg4⟩
        case measure => simp [intOf]; omega
    · obtain rfl : k = y.length := by omega
      rw [List.take_of_length_le (by simp [sumL]; omega)] at ho
      have S4 := S3.step (show Below w3.heap.size w3 wr by rw [← HG.out]; exact hS.below)
      have hx4 := hx3.stays (show Below w3.heap.size w3 wr by rw [← HG.out]; exact hS.below)
      have hy4 := hy30.stays (show Below w3.heap.size w3 wr by rw [← HG.out]; exact hS.below)
      have hz4 := hz30.stays (show Below w3.heap.size w3 wr by rw [← HG.out]; exact hS.below)
      have hs4 := ho.isInts
      clear hx3 hy30 hz30 hS hy hz ho S3
      go_wp2_with fail
      refine (At_ok _ _ x y p _ hx4 hy4 K1.out hp0 hp1).mono ?_
      rintro e w5 ⟨rfl, hb5⟩
      have S5 := S4.step hb5
      have hx5 := hx4.stays hb5
      have hy5 := hy4.stays hb5
      have hz5 := hz4.stays hb5
      have hs5 := hs4.stays hb5
      clear hx4 hy4 hz4 hs4 hb5 S4
      go_wp2_with fail
      refine (At_ok _ _ x z p _ hx5 hz5 K2.out hp0 hp1).mono ?_
      rintro e w6 ⟨rfl, hb6⟩
      have S6 := S5.step hb6
      have hx6 := hx5.stays hb6
      have hy6 := hy5.stays hb6
      have hs6 := hs5.stays hb6
      clear hx5 hy5 hz5 hs5 hb6 S5
      go_wp2_with fail
      refine (At_ok _ _ x (sumL y z) p _ hx6 hs6 (ptsV_ok.2 SM.out.1) hp0 hp1).mono ?_
      rintro e w7 ⟨rfl, hb7⟩
      rw [SM.out.2 p]
      have S7 := S6.step hb7
      have hx7 := hx6.stays hb7
      have hy7 := hy6.stays hb7
      clear hx6 hy6 hs6 hb7 S6
      go_wp2_with fail
      refine (Clone_ints _ x _ hx7).mono ?_
      rintro e w8 ⟨⟨vu, rfl, hu⟩, hb8⟩
      have S8 := S7.step hb8
      have hy8 := hy7.stays hb8
      have hs7 := S7.2
      clear hx7 hy7 S7
      go_wp2_with fail
      refine (Clone_ints _ y _ hy8).mono ?_
      rintro e w9 ⟨⟨vv, rfl, hv⟩, hb9⟩
      have S9 := S8.step hb9
      have hu9 := hu.stays hb9
      have hug := fun k hk => (hu.1.lt k hk).2
      have hvg := fun k hk => (hv.1.lt k hk).1
      have hub := fun k hk => (hu.1.lt k hk).1
      have hs77 := hb8.size
      clear hy8 hb9 hb8 S8 hu
      go_wp2_with fail
      refine (Reverse_ints _ _ x _ hu9).mono ?_
      rintro e w10 ⟨rfl, hu10, hg10⟩
      have hv10 := hv.kept hg10 (by
        cases hvo : vv.ownBlock with
        | none => exact Or.inl rfl
        | some j =>
          right
          intro e
          have h1 := hvg j hvo
          have h2 := hug j e.symm
          omega)
      have S10 := S9.grown hg10 (fun k hk => Nat.le_trans hs7 (hub k hk))
      have hdiff : vu.ownBlock = none ∨ vu.ownBlock ≠ vv.ownBlock := by
        cases huo : vu.ownBlock with
        | none => exact Or.inl rfl
        | some j =>
          right
          intro e
          have h1 := hvg j e.symm
          have h2 := hug j huo
          omega
      have HD := Lib.hid hdiff
      have HVG := Lib.hid hvg
      clear S9 hu9 hv hug hub hg10 hdiff hvg
      go_wp2_with fail
      refine (Reverse_ints _ _ y _ hv10).mono ?_
      rintro e w11 ⟨rfl, hv11, hg11⟩
      have S11 := S10.grown hg11 (fun k hk => Nat.le_trans hs7 (Nat.le_trans hs77 (HVG.out k hk)))
      have hu11 := (hu10.kept hg11 HD.out).isInts
      have hv12 := hv11.isInts
      clear S10 hv10 hu10 hg11 hv11
      go_wp2_with fail
      refine (At_ok _ _ x.reverse y.reverse p _ hu11 hv12 (ptsV_ok.2 RV.out.1) hp0 hp1).mono ?_
      rintro e w12 ⟨rfl, hb12⟩
      rw [RV.out.2 p]
      have S12 := S11.step hb12
      clear S11 hb12 hu11 hv12
      have q1 : (atV x y p == atV x y p) = true := by simp
      have q2 : ((atV x y p + atV x z p) % 31 == (atV x y p + atV x z p) % 31) = true := by simp
      have q3 := atV_bd x y p
      have q4 := atV_bd x z p
      obtain ⟨q30, q31⟩ := q3
      obtain ⟨q40, q41⟩ := q4
      go_wp2_with fail
      go_ret
      exact ⟨rfl, S12.below⟩

theorem CurveAdds_walk (v0 : Value) (x : List Int) (v1 : Value) (y : List Int) (v2 : Value) (z : List Int) (v3 : Value) (x3 : Int) (W : World) (hx : IsInts W v0 x) (hy : IsInts W v1 y) (hz : IsInts W v2 z) (h3 : IsInt v3 x3) :
    Calls Try.prog 8 #[v0, v1, v2, v3] W fun e w' => e = .returned (.bool true) ∧ Below W.heap.size W w' := by
  obtain ⟨rfl, i3⟩ := h3
  by_cases h : ptsV x y ≠ 0 ∨ ptsV x z ≠ 0
  · exact curveAdds_no v0 x v1 y v2 z x3 W hx hy hz h
  · exact curveAdds_ok v0 x v1 y v2 z x3 W hx hy hz i3 (by omega) (by omega)

end Go.Proofs.Ytbodfbpikpkkbaa
