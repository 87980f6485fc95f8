/-
  The walk of BookGrows.
-/
import Derived.Test.YtlaabmpadikkjaaListed
import Derived.Test.YtlaabmpadikkjaaSorted
import Derived.Test.YtlaabmpadikkjaaReadBook
namespace Go.Proofs.Ytlaabmpadikkjaa
open Go.RowKit

theorem nodup_len {l r : List Int} (hl : l.Nodup) (hr : r.Nodup) (h : ∀ z, z ∈ l ↔ z ∈ r) : l.length = r.length :=
  List.Perm.length_eq ((List.perm_ext_iff_of_nodup hl hr).2 h)
/-- What is in the set behind the loops is what is behind the new one. -/
theorem grows_len {b : List Ver} {x : Ver} (h1 : BookOk b) (h2 : BookOk (b ++ [x])) {S : List Int} (hS : S = underL b x) : (onceL S).length = (behindL (b ++ [x]) b.length).length := by
  refine nodup_len (onceL_nodup _) ((behind_sorted _ _).imp (by omega)) fun z => ?_
  rw [mem_onceL, mem_under h1 h2, hS]

section
open Go.Maps
theorem OwnsSet.lenOf {P : Program} {k e t : TypeId} {w : World} {b : Nat} {l : List Int} (h : OwnsSet P k e w b l) (ht : P.underlying t = some (.map k e)) (ty : TypeId) :
    (Builtin.len_ #[t] ty #[.map (some b)]).run P w = .ok (.int .i64 ((onceL l).length : Int)) w := by
  have h2 := World.ownsMap.len h ht ty
  rw [size_setOf _ _ (keyLit_ints l)] at h2
  have := addKey_map l []
  rw [List.map_nil] at this
  rw [this, List.length_map] at h2
  exact h2
end

set_option maxRecDepth 100000 in
set_option maxHeartbeats 1000000 in
theorem GrowsIn_any (z : Int) (B Bm : Nat) (S : List Int) (w : World) (hc : w.cell? ⟨B, 0, none⟩ = some (.map (some Bm))) (hm : OwnsSet Try.prog 3 4 w Bm S) (hz : I64 z) :
    Calls Try.prog 50 #[.int .i64 z, .pointer (some ⟨B, 0, none⟩)] w fun e w' => e = .returned (.bool (!decide (z ∈ S))) ∧ Below w.heap.size w w' := by
  have hlk := hm.lookup (t := 58) Try.underlying3 Try.underlying4 Try.underlying58 (zero_boolB _) z hz
  obtain ⟨T, hT⟩ : ∃ T, T = decide (z ∈ S) := ⟨_, rfl⟩
  rw [← hT] at hlk ⊢
  clear hT hm
  go_enter Try.func50, Try.ntmps50
  go_wp2_with fail
  go_ret
  exact ⟨rfl, Below.refl _ _⟩

set_option maxRecDepth 100000 in
set_option maxHeartbeats 4000000 in
theorem bookGrows_no (v : Value) (b : List Ver) (x : Ver) (k : Int) (vx : Value) (W : World) (hv : IsVers W v b) (hx : IsVer W vx x) (h : addVE b x ≠ 0) :
    Calls Try.prog 12 #[.agg #[v], vx, .int .i64 k] W fun e w' => e = .returned (.bool true) ∧ Below W.heap.size W w' := by
  obtain ⟨vp, rfl, hp, ip⟩ := hx
  obtain ⟨ap, cp, rfl, _⟩ := hp.opened
  obtain ⟨a, n, rfl, _⟩ := hv.opened
  have HIP := Lib.hid ip
  have hne : (addVE b x != 0) = true := by simpa using h
  have S0 := ((Since.refl W).alloc (.cells #[.slice a b.length n] 50)).alloc (.cells #[.slice ap x.1.length cp, .int .i64 x.2.1, .int .i64 x.2.2.1, .int .i64 x.2.2.2] 63)
  have hv0 := hv.later RVer.stays (Dirty.old S0.below _)
  have hp0 := hp.stays S0.below
  clear hv hp h ip
  go_enter Try.func12, Try.ntmps12
  go_wp2_with fail
  refine (bookAdd_any _ _ b x _ hv0 ⟨_, rfl, hp0, HIP.out⟩).mono ?_
  rintro e w1 ⟨⟨v1, rfl, hv1⟩, hb1⟩
  have S1 := S0.step hb1
  obtain ⟨E, hE⟩ : ∃ E, E = addVE b x := ⟨_, rfl⟩
  rw [← hE] at hne ⊢
  obtain ⟨a1, n1, rfl, _⟩ := hv1.opened
  have S2 := S1.alloc (.cells #[.slice a1 (addC b x).length n1] 50)
  clear hb1 hv1 hE S1
  go_wp2_with fail
  refine (listed_any _).mono ?_
  rintro e w2 ⟨rfl, hb2⟩
  have S3 := S2.step hb2
  clear hb2
  go_wp2_with fail
  refine (listed_any _).mono ?_
  rintro e w3 ⟨rfl, hb3⟩
  have S4 := S3.step hb3
  clear hb3
  go_wp2_with fail
  go_ret
  exact ⟨rfl, S4.below⟩

set_option maxRecDepth 100000 in
set_option maxHeartbeats 8000000 in
theorem bookGrows_ok (v : Value) (b : List Ver) (x : Ver) (k0 : Int) (vx : Value) (W : World) (hv : IsVers W v b) (hx : IsVer W vx x) (hk0 : I64 k0) (h : addVE b x = 0) :
    Calls Try.prog 12 #[.agg #[v], vx, .int .i64 k0] W fun e w' => e = .returned (.bool true) ∧ Below W.heap.size W w' := by
  obtain ⟨hok1, hok2, hlt12⟩ := addVE_ok h
  have HO1 := Lib.hid hok1
  have HO2 := Lib.hid hok2
  have HB1 := Lib.hid (bookV_ok.2 hok1)
  have HB2 := Lib.hid (bookV_ok.2 hok2)
  have HE := Lib.hid h
  have HC := Lib.hid (addC_ok h)
  obtain ⟨kk0, kk1⟩ := hk0
  obtain ⟨vp, rfl, hp, ip⟩ := hx
  obtain ⟨ap, cp, rfl, hcap, ⟨hmp, hmp', _⟩, _⟩ := hp.opened
  obtain ⟨a, n, rfl, _⟩ := hv.opened
  have HIP := Lib.hid ip
  obtain ⟨w0, hw0⟩ : ∃ w0, w0 = (W.alloc (.cells #[.slice a b.length n] 50)).alloc (.cells #[.slice ap x.1.length cp, .int .i64 x.2.1, .int .i64 x.2.2.1, .int .i64 x.2.2.2] 63) := ⟨_, rfl⟩
  have S0 : Since W.heap.size W w0 := by rw [hw0]; exact ((Since.refl W).alloc _).alloc _
  have c0 : w0.cell? ⟨W.heap.size, 0, none⟩ = some (.slice a b.length n) := by rw [hw0]; go_simp
  have q0 : w0.cell? ⟨W.heap.size + 1, 0, none⟩ = some (.slice ap x.1.length cp) := by rw [hw0]; go_simp
  have q1 : w0.cell? ⟨W.heap.size + 1, 1, none⟩ = some (.int .i64 x.2.1) := by rw [hw0]; go_simp
  have q2 : w0.cell? ⟨W.heap.size + 1, 2, none⟩ = some (.int .i64 x.2.2.1) := by rw [hw0]; go_simp
  have q3 : w0.cell? ⟨W.heap.size + 1, 3, none⟩ = some (.int .i64 x.2.2.2) := by rw [hw0]; go_simp
  have hv0 := hv.later RVer.stays (Dirty.old S0.below _)
  have hp0 := hp.stays S0.below
  have HW := Lib.hid hw0
  obtain ⟨B0, hB0⟩ : ∃ B, B = W.heap.size := ⟨_, rfl⟩
  obtain ⟨B1, hB1⟩ : ∃ B, B = W.heap.size + 1 := ⟨_, rfl⟩
  rw [← hB0] at c0
  rw [← hB1] at q0 q1 q2 q3
  have HB0 := Lib.hid hB0
  have HBB1 := Lib.hid hB1
  have l0 := cell_lt c0
  have l1 := cell_lt q0
  have hmm := @run_makeMap Try.prog
  clear hw0 hv hp hB0 hB1 ip h hok1 hok2
  go_enter Try.func12, Try.ntmps12
  go_wp2_with fail
  rw [← HW.out, ← HBB1.out, ← HB0.out]
  refine (bookAdd_any _ _ b x _ hv0 ⟨_, rfl, hp0, HIP.out⟩).mono ?_
  rintro e w1 ⟨⟨v1, rfl, hv1⟩, hb1⟩
  rw [HE.out]
  rw [HC.out] at hv1
  obtain ⟨X, hX⟩ : ∃ X, X = b ++ [x] := ⟨_, rfl⟩
  rw [← hX] at hv1
  have HX := Lib.hid hX
  have HXL := Lib.hid (show X.length = b.length + 1 by rw [hX]; simp)
  clear hX
  obtain ⟨a1, n1, rfl, _⟩ := hv1.opened
  have T1 := ((Since.refl w0).step hb1).alloc (.cells #[.slice a1 X.length n1] 50)
  have hv1' := hv1.stays RVer.stays (below_alloc _ (.cells #[.slice a1 X.length n1] 50))
  have m1 : (w1.alloc (.cells #[.slice a1 X.length n1] 50)).cell? ⟨w1.heap.size, 0, none⟩ = some (.slice a1 X.length n1) := by go_simp
  clear hb1 hv1 q1 q2 q3
  go_wp2_with fail
  generalize w1.alloc (.cells #[.slice a1 X.length n1] 50) = w1' at *
  obtain ⟨B7, hB7⟩ : ∃ B, B = w1.heap.size := ⟨_, rfl⟩
  rw [← hB7] at m1 ⊢
  have l7 := cell_lt m1
  have HM1 := Lib.hid m1
  have HC0 := Lib.hid c0
  have HQ0 := Lib.hid q0
  clear hB7 m1 c0 q0
  have U1 := Since.refl w1'
  refine (listed_any _).mono ?_
  rintro e w2 ⟨rfl, hb2⟩
  have U2 := U1.step hb2
  have d0 := ((T1.step U2.below).below.cell (p := ⟨B0, 0, none⟩) l0).trans HC0.out
  have d7 := below_cell U2.below HM1.out
  clear hb2 U1
  go_wp2_with fail
  refine (Heads_any _ X _ (hv1'.later RVer.stays (Dirty.old U2.below _))).mono ?_
  rintro e w3 ⟨⟨v3, rfl, ho3⟩, hb3⟩
  rw [show bookV X = 0 by rw [HX.out]; exact HB2.out]
  rw [show headsC X = headsL X by rw [HX.out]; exact headsC_ok HB2.out] at ho3
  have U3 := U2.step hb3
  have HI3 := Lib.hid ho3.isInts
  obtain ⟨a3, n3, rfl, _⟩ := ho3.isInts.opened
  have HN := Lib.hid (show memB (b.length : Int) (headsL X) = true by rw [HX.out]; simp [memB, heads_new HO2.out])
  have HPN : Hid (∀ p ∈ x.1, memB p (headsL X) = false) := Lib.hid (fun p hp => by rw [HX.out]; simp [memB, heads_parent hp])
  clear hb3 ho3 U2 d0 d7
  go_wp2_with fail
  refine (Contains_ints _ (headsL X) b.length _ HI3.out).mono ?_
  rintro e w' ⟨rfl, rfl⟩
  rw [HN.out]
  have ibl : I64 (b.length : Int) := ⟨by omega, by omega⟩
  have hm0 : OwnsSet Try.prog 3 4 (w3.alloc (.map #[] 0)) w3.heap.size [] := OwnsSet.made w3
  go_wp2_with (refine wpList_insert_set _ rfl _ _ (.const (.bool true)) 58 rfl Try.underlying3 Try.underlying4 Try.underlying58 _ _ rfl hm0 (by simp) _ rfl rfl ibl ?_; intro w4 hm4 hg4; have hs3 := U3.2; have U4 := (U3.alloc (.map #[] 0)).grown hg4 (fun q hq => by cases hq; exact hs3); have e0 := ((T1.step U4.below).below.cell (p := ⟨B1, 0, none⟩) l1).trans HQ0.out; have lt1 := cell_lt e0)
  rw [List.nil_append] at hm4
  obtain ⟨Bm, hBm⟩ : ∃ Bm, Bm = w3.heap.size := ⟨_, rfl⟩
  have hBm1 : w1'.heap.size ≤ Bm := by omega
  rw [← hBm] at hm4 ⊢
  have V4 := ((Since.refl w3).alloc (.map #[] 0)).grown hg4 (fun q hq => by cases hq; exact Nat.le_refl _)
  have V5 := V4.alloc (.cells #[.map (some Bm)] 58)
  have hm5 := hm4.below (below_alloc w4 (.cells #[.map (some Bm)] 58))
  have m11 : (w4.alloc (.cells #[.map (some Bm)] 58)).cell? ⟨w4.heap.size, 0, none⟩ = some (.map (some Bm)) := by go_simp
  have U5 := U4.alloc (.cells #[.map (some Bm)] 58)
  have hs4 := U4.2
  have hBmw := hm4.lt
  generalize w4.alloc (.cells #[.map (some Bm)] 58) = w5 at *
  obtain ⟨B11, hB11⟩ : ∃ B, B = w4.heap.size := ⟨_, rfl⟩
  have h11m : B11 ≠ Bm := by omega
  rw [← hB11] at m11 ⊢
  have l11 := cell_lt m11
  have h11 : w1'.heap.size ≤ B11 := by omega
  have HSS : Hid (∀ (w : World), Since w3.heap.size w3 w → Since w1'.heap.size w1' w) := Lib.hid (fun w V => U3.step V.below)
  have HP : Hid (∀ (w : World), Since w3.heap.size w3 w → IsInts w (.slice ap x.1.length cp) x.1) := Lib.hid (fun w V => hp0.stays (T1.step (HSS.out w V).below).below)
  have HVB : Hid (∀ (w : World), Since w3.heap.size w3 w → IsVers w (.slice a b.length n) b) := Lib.hid (fun w V => hv0.later RVer.stays (Dirty.old (T1.step (HSS.out w V).below).below _))
  have HVX : Hid (∀ (w : World), Since w3.heap.size w3 w → IsVers w (.slice a1 X.length n1) X) := Lib.hid (fun w V => hv1'.later RVer.stays (Dirty.old (HSS.out w V).below _))
  have HD0 : Hid (∀ (w : World), Since w3.heap.size w3 w → w.cell? ⟨B0, 0, none⟩ = some (.slice a b.length n)) := Lib.hid (fun w V => ((T1.step (HSS.out w V).below).below.cell (p := ⟨B0, 0, none⟩) l0).trans HC0.out)
  have HD7 : Hid (∀ (w : World), Since w3.heap.size w3 w → w.cell? ⟨B7, 0, none⟩ = some (.slice a1 X.length n1)) := Lib.hid (fun w V => below_cell (HSS.out w V).below HM1.out)
  have HL3 : Hid (∀ (w : World), Since w3.heap.size w3 w → IsInts w (.slice a3 (headsL X).length n3) (headsL X)) := Lib.hid (fun w V => HI3.out.stays V.below)
  have hB33 : w3.heap.size ≤ Bm := by omega
  have hB3l : w3.heap.size ≤ B11 := by omega
  clear hBm hB11 hm4 hg4 hm0 U4 U3 e0 lt1 hs3 hs4 hBmw hv0 hv1' hp0 V4
  have hpar : ∀ p ∈ x.1, 0 ≤ p ∧ p < (b.length : Int) := (HO2.out.par b.length x (by simp)).1
  have HPAR := Lib.hid hpar
  clear hpar
  go_loopw [57] (fun q wr => ∃ k : Nat, k ≤ x.1.length ∧ q = .int .i64 k ∧ Since w3.heap.size w3 wr ∧ wr.cell? ⟨B11, 0, none⟩ = some (.map (some Bm)) ∧ OwnsSet Try.prog 3 4 wr Bm ([(b.length : Int)] ++ (x.1.take k).flatMap (behindL b)) ∧ ((x.1.take k).flatMap (behindL b)).length ≤ k * 13) (fun q _ => x.1.length - (intOf q).toNat)
  case atStart => exact ⟨0, by omega, rfl, V5, m11, by simpa using hm5, by simp⟩
  case round =>
    obtain ⟨k, hk, rfl, hS, hb11, hm, hml⟩ := hrel
    clear hm5 V5 m11
    by_cases hlt : k < x.1.length
    · obtain ⟨_, _, e1, _, _, hxi⟩ := (HP.out wr hS).opened
      simp only [Value.slice.injEq, true_and] at e1
      obtain ⟨rfl, rfl⟩ := e1
      obtain ⟨b1, o1, z, e2, hc1, hz1, hiz⟩ := hxi k hlt
      subst e2
      have hzm := List.mem_of_getElem? hz1
      have hzb := HPAR.out z hzm
      have G1 := Lib.hid (HPN.out z hzm)
      have G3 := Lib.hid (behindE_ok HB1.out hzb.1 hzb.2)
      have G4 := Lib.hid (behindC_ok G3.out)
      have hbl : (behindL b z).length ≤ 13 := by have := behind_len b z; omega
      have HZ := Lib.hid (take_get hz1)
      have dB := HD0.out wr hS
      clear hz1 hxi hzm
      go_wp2_with fail
      refine (Behind_any _ b z _ (HVB.out wr hS)).mono ?_
      rintro e w9 ⟨⟨v9, rfl, ho9⟩, hb9⟩
      rw [G3.out]
      rw [G4.out] at ho9
      have S9 := hS.step hb9
      have hm9 := hm.below hb9
      have hc11 := below_cell hb9 hb11
      have hlt9 := ho9.1.lt
      obtain ⟨a9, c9, rfl, hc9, ⟨hm9a, hm9b, _⟩, _⟩ := ho9.isInts.opened
      have hne9 : (Value.slice a9 (behindL b z).length c9).ownBlock ≠ some Bm := fun e => by have := (hlt9 _ e).1; have := hm.lt; omega
      have HO9 := Lib.hid ho9
      clear hb9 ho9 hlt9 hm hc1 dB hb11
      go_wp2_with fail
      refine (Contains_ints _ (headsL X) z _ (HL3.out _ S9)).mono ?_
      rintro e w' ⟨rfl, rfl⟩
      rw [G1.out]
      have HZL := Lib.hid (show (([(b.length : Int)] ++ (x.1.take k).flatMap (behindL b)) ++ behindL b z) = [(b.length : Int)] ++ (x.1.take (k + 1)).flatMap (behindL b) by rw [HZ.out]; simp)
      have HZ3 := Lib.hid (show ((x.1.take (k + 1)).flatMap (behindL b)).length = ((x.1.take k).flatMap (behindL b)).length + (behindL b z).length by rw [HZ.out]; simp)
      have hSl : ([(b.length : Int)] ++ (x.1.take k).flatMap (behindL b)).length ≤ 1 + k * 13 := by rw [List.length_append, List.length_singleton]; omega
      generalize behindL b z = Z at *
      generalize [(b.length : Int)] ++ (x.1.take k).flatMap (behindL b) = S at *
      obtain ⟨BO, ho9⟩ : ∃ BO, OwnInts w9 3 BO (.slice a9 Z.length c9) Z := ⟨_, HO9.out⟩
      go_wp2_with fail
      go_loopw [76] (fun q wr => ∃ m : Nat, m ≤ Z.length ∧ q = .int .i64 m ∧ Since w3.heap.size w3 wr ∧ wr.cell? ⟨B11, 0, none⟩ = some (.map (some Bm)) ∧ OwnInts wr 3 BO (.slice a9 Z.length c9) Z ∧ OwnsSet Try.prog 3 4 wr Bm (S ++ Z.take m)) (fun q _ => Z.length - (intOf q).toNat)
      case atStart => exact ⟨0, by omega, rfl, S9, hc11, ho9, by simpa using hm9⟩
      case round =>
        obtain ⟨m, hm1, rfl, hS, hb11, ho, hm⟩ := hrel
        by_cases hlm : m < Z.length
        · obtain ⟨_, _, e6, _, _, hpi⟩ := ho.isInts.opened
          simp only [Value.slice.injEq, true_and] at e6
          obtain ⟨rfl, rfl⟩ := e6
          obtain ⟨b2, o2, z2, e7, hc2, hz2, hi2⟩ := hpi m hlm
          subst e7
          have HZ2 := Lib.hid (take_get hz2)
          have hlS : (S ++ Z.take m).length < 1000000000000000 := by simp; omega
          clear hz2 hpi
          go_wp2_with (at_mapUpdate; refine wpList_store_set _ rfl _ _ _ 58 rfl Try.underlying3 Try.underlying4 Try.underlying58 _ _ rfl hm hlS _ rfl rfl hi2 ?_; intro w10 hm10 hg10)
          have S10 := hS.grown hg10 (fun q hq => by cases hq; exact hB33)
          have ho10 := ho.kept hg10 (Or.inr hne9)
          have hc10 := hg10.cell hb11 (fun e => h11m (by simpa using e))
          have HM10 := Lib.hid hm10
          clear hm10 hg10 hc2 hb11
          go_roundw
          case rel => exact ⟨m + 1, by omega, by go_num, S10, hc10, ho10, by rw [HZ2.out, ← List.append_assoc]; exact HM10.out⟩
          case measure => simp [intOf]; omega
        · obtain rfl : Z.length = m := by omega
          rw [List.take_length] at hm
          have HM := Lib.hid hm
          have HB11 := Lib.hid hb11
          clear hm ho hb11
          go_wp2_with fail
          go_roundw
          case rel => exact ⟨k + 1, by omega, by go_num, hS, HB11.out, by rw [← HZL.out]; exact HM.out, by rw [HZ3.out]; omega⟩
          case measure => simp [intOf]; omega
    · obtain rfl : x.1.length = k := by omega
      rw [List.take_length] at hm hml
      have dX := HD7.out wr hS
      obtain ⟨S, hSS⟩ : ∃ S, S = [(b.length : Int)] ++ x.1.flatMap (behindL b) := ⟨_, rfl⟩
      rw [← hSS] at hm
      have HSU := Lib.hid (show S = underL b x by rw [hSS]; rfl)
      obtain ⟨Y, hY⟩ : ∃ Y, Y = behindL X b.length := ⟨_, rfl⟩
      have HYE := Lib.hid (show behindE X b.length = 0 by rw [HX.out]; exact behindE_ok HB2.out (by omega) (by simp; omega))
      have HYC := Lib.hid (show behindC X b.length = Y by rw [hY]; exact behindC_ok HYE.out)
      have HYS := Lib.hid (show Y.Pairwise (· < ·) by rw [hY]; exact behind_sorted _ _)
      have HYL := Lib.hid (show (onceL S).length = Y.length by rw [hY, HX.out]; exact grows_len HO1.out HO2.out HSU.out)
      have HYM : Hid (∀ z ∈ Y, z ∈ S ∧ I64 z) := Lib.hid (fun z hz => by
        rw [hY, HX.out] at hz
        have h1 := (mem_under HO1.out HO2.out z).1 hz
        have ht := HO2.out.top
        simp at ht
        have hf := from_bd HO2.out (by omega) (by omega) ((mem_behind HO2.out (by omega) (by omega)).1 hz)
        exact ⟨by rw [HSU.out]; exact h1, by omega, by omega⟩)
      have HYA := Lib.hid (show (Y.any fun o => !decide (o ∈ S)) = false by rw [List.any_eq_false]; intro z hz; simp [(HYM.out z hz).1])
      have hyy : ((Y.length : Int) != (Y.length : Int)) = false := by simp
      clear hSS hY hml
      go_wp2_with fail
      refine (Behind_any _ X b.length _ (HVX.out wr hS)).mono ?_
      rintro e w12 ⟨⟨v12, rfl, ho12⟩, hb12⟩
      rw [HYE.out]
      rw [HYC.out] at ho12
      have S12 := hS.step hb12
      have hm12 := hm.below hb12
      have hc12 := below_cell hb12 hb11
      have HI12 := Lib.hid ho12.isInts
      obtain ⟨a12, c12, rfl, _⟩ := ho12.isInts.opened
      have hlen := hm12.lenOf (t := 58) Try.underlying58 3
      rw [HYL.out] at hlen
      have hmf := run_makeFuncR
      clear hb12 ho12 hm hb11 dX hS
      go_wp2_with fail
      clear hlen
      refine (IsSorted_any _ Y _ HI12.out HYS.out).mono ?_
      rintro e w13 ⟨rfl, hb13⟩
      have S13 := S12.step hb13
      have hm13 := hm12.below hb13
      have hc13 := below_cell hb13 hc12
      have HI13 := Lib.hid (HI12.out.stays hb13)
      clear hb13 hm12 hc12 HI12 S12
      go_wp2_with fail
      refine (ContainsFuncInts_any 50 (fun _ _ => rfl) #[.pointer (some ⟨B11, 0, none⟩)] (fun o => !decide (o ∈ S)) _ Y _ HI13.out (fun z w hz q => GrowsIn_any z B11 Bm S w (below_cell q.below hc13) (hm13.below q.below) (HYM.out z hz).2)).mono ?_
      rintro e w14 ⟨rfl, hb14⟩
      rw [HYA.out]
      have S14 := S13.step hb14
      have dB := HD0.out w14 S14
      clear hb14 hm13 hc13 S13
      by_cases hn : b.length = 0
      · have hn0 : ((b.length : Int) == 0) = true := by rw [hn]; rfl
        clear hn
        go_wp2_with fail
        go_ret
        exact ⟨rfl, (S0.step (T1.step (HSS.out _ S14).below).below).below⟩
      · have hn0 : ((b.length : Int) == 0) = false := beq_eq_false_iff_ne.2 (by omega)
        have hmb := modV_bd k0 (n := b.length) (by omega)
        go_wp2_with fail
        refine (at_any _ _ _ (by omega) (by omega) (by omega) (by omega)).mono ?_
        rintro e w' ⟨rfl, rfl⟩
        generalize modV k0 b.length = kk at *
        obtain ⟨hk1, hk2⟩ := hmb
        have G1 := Lib.hid (behindE_ok HB1.out hk1 hk2)
        have G2 := Lib.hid (behindC_ok G1.out)
        have G3 := Lib.hid (show behindE X kk = 0 by rw [HX.out]; exact behindE_ok HB2.out hk1 (by simp; omega))
        have G4 := Lib.hid (show behindC X kk = behindL b kk by rw [behindC_ok G3.out, HX.out]; exact behind_old HO1.out x hk1 hk2)
        have GQ := Lib.hid (show eqInts (behindL b kk) (behindL b kk) = true by simp [eqInts])
        go_wp2_with fail
        refine (Behind_any _ b kk _ (HVB.out _ S14)).mono ?_
        rintro e w15 ⟨⟨v15, rfl, ho15⟩, hb15⟩
        rw [G1.out]
        rw [G2.out] at ho15
        have S15 := S14.step hb15
        have HI15 := Lib.hid ho15.isInts
        obtain ⟨a15, c15, rfl, _⟩ := ho15.isInts.opened
        have dX := HD7.out _ S15
        clear hb15 ho15 dB S14
        go_wp2_with fail
        refine (Behind_any _ X kk _ (HVX.out _ S15)).mono ?_
        rintro e w16 ⟨⟨v16, rfl, ho16⟩, hb16⟩
        rw [G3.out]
        rw [G4.out] at ho16
        have S16 := S15.step hb16
        have HI16 := Lib.hid ho16.isInts
        obtain ⟨a16, c16, rfl, _⟩ := ho16.isInts.opened
        have HI15' := Lib.hid (HI15.out.stays hb16)
        clear hb16 ho16 dX S15
        go_wp2_with fail
        refine (Equal_ints _ _ (behindL b kk) (behindL b kk) _ HI15'.out HI16.out).mono ?_
        rintro e w17 ⟨rfl, hb17⟩
        rw [GQ.out]
        have S17 := S16.step hb17
        go_wp2_with fail
        go_ret
        exact ⟨rfl, (S0.step (T1.step (HSS.out _ S17).below).below).below⟩

theorem BookGrows_walk (v0 : Value) (b : List Ver) (v1 : Value) (x : Ver) (v2 : Value) (k : Int) (W : World) (h0 : IsBook W v0 b) (h1 : IsVersion W v1 x) (h2 : IsInt v2 k) :
    Calls Try.prog 12 #[v0, v1, v2] W fun e w' => e = .returned (.bool true) ∧ Below W.heap.size W w' := by
  obtain ⟨v, rfl, hv⟩ := h0
  obtain ⟨rfl, hk⟩ := h2
  by_cases h : addVE b x = 0
  · exact bookGrows_ok v b x k v1 W hv h1 hk h
  · exact bookGrows_no v b x k v1 W hv h1 h

end Go.Proofs.Ytlaabmpadikkjaa
