/-
  The walk of KinBoth.
-/
import Derived.Test.YtlaabmpadikkjaaKinSaysWalk
import Derived.Deep.QuietTactic
namespace Go.Proofs.Ytlaabmpadikkjaa
open Go.RowKit

theorem Since.drewN {g : Nat} {W w : World} (h : Since g W w) : ∀ n, Since g W (w.drewN n)
  | 0 => h
  | n + 1 => (Since.drewN h n).drew
theorem behind_len (b : List Ver) (k : Int) : (behindL b k).length ≤ k.toNat + 1 := by
  unfold behindL
  exact Nat.le_trans (List.length_filter_le _ _) (by simp)
theorem common_len (b : List Ver) (i j : Int) : (commonL b i j).length ≤ i.toNat + 1 := by
  unfold commonL bothL
  exact Nat.le_trans (List.length_filter_le _ _) (Nat.le_trans (List.length_filter_le _ _) (behind_len b i))

/-- What the walk of KinBoth asks of the lists. -/
structure BothFacts (b : List Ver) (i j : Int) (L X Y : List Int) : Prop where
  len : L.length ≤ 13
  at_ : ∀ (k : Nat) q, L[k]? = some q → memB q X = true ∧ memB q Y = true ∧ behindE b q = 0 ∧ (behindL b q).length ≤ 13 ∧ decide (q ∈ (L.take k).flatMap (behindL b)) = false
  all : ∀ q ∈ X, memB q Y = true → decide (q ∈ L.flatMap (behindL b)) = true
  last : memB j X = true → eqInts L [j] = true
theorem both_facts {b : List Ver} (h : BookOk b) {i j : Int} (i0 : 0 ≤ i) (i1 : i < b.length) (j0 : 0 ≤ j) (j1 : j < b.length) : BothFacts b i j (commonL b i j) (behindL b i) (behindL b j) := by
  have ht := h.top
  refine ⟨?_, ?_, ?_, ?_⟩
  · have := common_len b i j
    omega
  · intro k q hq
    have hm := List.mem_of_getElem? hq
    have hc := (mem_common h i0 (by omega) j0 (by omega)).1 hm
    have qb := from_bd h i0 (by omega) hc.1.1
    refine ⟨by simp [memB, mem_behind h i0 (show i ≤ 12 by omega), hc.1.1], by simp [memB, mem_behind h j0 (show j ≤ 12 by omega), hc.1.2], behindE_ok (bookV_ok.2 h) qb.1 (by omega), by have := behind_len b q; omega, ?_⟩
    rw [decide_eq_false_iff_not, List.mem_flatMap]
    rintro ⟨o, ho, hqo⟩
    have ho' := List.mem_of_mem_take ho
    have oc := (mem_common h i0 (by omega) j0 (by omega)).1 ho'
    have ob := from_bd h i0 (by omega) oc.1.1
    have e := hc.2 o oc.1.1 oc.1.2 ((mem_behind h ob.1 (by omega)).1 hqo)
    subst e
    obtain ⟨m, hm1, hm2⟩ := List.getElem_of_mem ho
    simp only [List.length_take] at hm1
    have hp := List.pairwise_iff_getElem.1 (common_sorted b i j)
    obtain ⟨hk, hk2⟩ := List.getElem?_eq_some_iff.1 hq
    have := hp m k (by omega) hk (by omega)
    simp only [List.getElem_take] at hm2
    rw [hm2, hk2] at this
    omega
  · intro q hq hY
    have hi := (mem_behind h i0 (by omega)).1 hq
    have hj : fromV b j q = true := (mem_behind h j0 (by omega)).1 (by simpa [memB] using hY)
    obtain ⟨o, ho, hoq⟩ := common_above h i0 (by omega) j0 (by omega) (12 - q).toNat (k := q) (by omega) hi hj
    have oc := (mem_common h i0 (by omega) j0 (by omega)).1 ho
    have ob := from_bd h i0 (by omega) oc.1.1
    rw [decide_eq_true_eq, List.mem_flatMap]
    exact ⟨o, ho, (mem_behind h ob.1 (by omega)).2 hoq⟩
  · intro hX
    have hij : fromV b i j = true := (mem_behind h i0 (by omega)).1 (by simpa [memB] using hX)
    rw [common_from h i0 (by omega) hij]
    simp [eqInts]

set_option maxRecDepth 100000 in
set_option maxHeartbeats 4000000 in
theorem kinBoth_no (v : Value) (b : List Ver) (i j : Int) (W : World) (hv : IsVers W v b) (h : bookV b ≠ 0 ∨ bookV b = 0 ∧ b = []) :
    Calls Try.prog 9 #[.agg #[v], .int .i64 i, .int .i64 j] W fun e w' => e = .returned (.bool true) ∧ Below W.heap.size W w' := by
  obtain ⟨a, c, rfl, _⟩ := hv.opened
  have S0 := (Since.refl W).alloc (.cells #[.slice a b.length c] 50)
  have hv0 := hv.stays RVer.stays (below_alloc _ (.cells #[.slice a b.length c] 50))
  have c0 : (W.alloc (.cells #[.slice a b.length c] 50)).cell? ⟨W.heap.size, 0, none⟩ = some (.slice a b.length c) := by go_simp
  clear hv
  go_enter Try.func9, Try.ntmps9
  go_wp2_with fail
  generalize W.alloc (.cells #[.slice a b.length c] 50) = w0 at *
  obtain ⟨B, hBB⟩ : ∃ B, B = W.heap.size := ⟨_, rfl⟩
  rw [← hBB] at c0 ⊢
  clear hBB
  have l0 := cell_lt c0
  refine (joined_any _).mono ?_
  rintro e w1 ⟨rfl, hb1⟩
  have T1 := (Since.refl w0).step hb1
  have d1 := (T1.below.cell (p := ⟨B, 0, none⟩) l0).trans c0
  clear hb1
  go_wp2_with fail
  refine (bookCheck_any _ b _ (hv0.later RVer.stays (Dirty.old T1.below _))).mono ?_
  rintro e w2 ⟨rfl, hb2⟩
  have T2 := T1.step hb2
  have d2 := (T2.below.cell (p := ⟨B, 0, none⟩) l0).trans c0
  clear hb2 d1
  rcases h with h | ⟨h, hn⟩
  · have hne : (bookV b != 0) = true := by simpa using h
    clear h
    go_wp2_with fail
    refine (joined_any _).mono ?_
    rintro e w3 ⟨rfl, hb3⟩
    have T3 := T2.step hb3
    clear hb3
    go_wp2_with fail
    go_ret
    exact ⟨rfl, (S0.step T3.below).below⟩
  · rw [h]
    have hne : ((b.length : Int) == 0) = true := by rw [hn]; rfl
    clear h hn
    go_wp2_with fail
    refine (joined_any _).mono ?_
    rintro e w3 ⟨rfl, hb3⟩
    have T3 := T2.step hb3
    clear hb3
    go_wp2_with fail
    go_ret
    exact ⟨rfl, (S0.step T3.below).below⟩

set_option maxRecDepth 100000 in
set_option maxHeartbeats 8000000 in
theorem kinBoth_ok (v : Value) (b : List Ver) (i0 j0 : Int) (W : World) (hv : IsVers W v b) (h : bookV b = 0) (hl : 0 < b.length) (ii : I64 i0) (ij : I64 j0) :
    Calls Try.prog 9 #[.agg #[v], .int .i64 i0, .int .i64 j0] W fun e w' => e = .returned (.bool true) ∧ Below W.heap.size W w' := by
  have hok := bookV_ok.1 h
  have ht := hok.top
  have HOK := Lib.hid hok
  have HB := Lib.hid h
  obtain ⟨ii0, ii1⟩ := ii
  obtain ⟨ij0, ij1⟩ := ij
  have hne : ((b.length : Int) == 0) = false := beq_eq_false_iff_ne.2 (by omega)
  have m1 := modV_bd i0 (n := b.length) (by omega)
  have m2 := modV_bd j0 (n := b.length) (by omega)
  obtain ⟨a, c, rfl, _⟩ := hv.opened
  have S0 := (Since.refl W).alloc (.cells #[.slice a b.length c] 50)
  have hv0 := hv.stays RVer.stays (below_alloc _ (.cells #[.slice a b.length c] 50))
  have c0 : (W.alloc (.cells #[.slice a b.length c] 50)).cell? ⟨W.heap.size, 0, none⟩ = some (.slice a b.length c) := by go_simp
  have hmm := @run_makeMap Try.prog
  clear hv h hok
  go_enter Try.func9, Try.ntmps9
  go_wp2_with fail
  generalize W.alloc (.cells #[.slice a b.length c] 50) = w0 at *
  obtain ⟨B, hBB⟩ : ∃ B, B = W.heap.size := ⟨_, rfl⟩
  rw [← hBB] at c0 ⊢
  clear hBB
  have l0 := cell_lt c0
  refine (joined_any _).mono ?_
  rintro e w1 ⟨rfl, hb1⟩
  have T1 := (Since.refl w0).step hb1
  have d1 := (T1.below.cell (p := ⟨B, 0, none⟩) l0).trans c0
  clear hb1
  go_wp2_with fail
  refine (bookCheck_any _ b _ (hv0.later RVer.stays (Dirty.old T1.below _))).mono ?_
  rintro e w2 ⟨rfl, hb2⟩
  rw [HB.out]
  have T2 := T1.step hb2
  have d2 := (T2.below.cell (p := ⟨B, 0, none⟩) l0).trans c0
  clear hb2 d1
  go_wp2_with (go_quiet (refine Calls.quiet_of_same ((at_any _ _ _ (by omega) (by omega) (by omega) (by omega)).mono fun e w' h => ⟨h.1, h.2.symm⟩)))
  generalize modV i0 b.length = i at *
  generalize modV j0 b.length = j at *
  obtain ⟨i1, i2⟩ := m1
  obtain ⟨j1, j2⟩ := m2
  have HE1 := Lib.hid (commonE_good HB.out i1 i2 j1 j2)
  have HC1 := Lib.hid (commonC_ok HE1.out)
  have HE2 := Lib.hid (commonE_good HB.out j1 j2 i1 i2)
  have HC2 := Lib.hid ((commonC_ok HE2.out).trans (common_comm HOK.out j1 (by omega) i1 (by omega)))
  have HX1 := Lib.hid (behindE_ok HB.out i1 i2)
  have HX2 := Lib.hid (behindC_ok HX1.out)
  have HY1 := Lib.hid (behindE_ok HB.out j1 j2)
  have HY2 := Lib.hid (behindC_ok HY1.out)
  have F := both_facts HOK.out i1 i2 j1 j2
  have hFl := F.len
  have HF := Lib.hid F
  have HQ := Lib.hid (show eqInts (commonL b i j) (commonL b i j) = true by simp [eqInts])
  have T3 := T2.drewN nq
  clear F T2
  refine (Common_any _ b i j _ (hv0.later RVer.stays (Dirty.old T3.below _))).mono ?_
  rintro e w4 ⟨⟨v4, rfl, ho4⟩, hb4⟩
  rw [HE1.out]
  rw [HC1.out] at ho4
  have T4 := T3.step hb4
  have d4 := (T4.below.cell (p := ⟨B, 0, none⟩) l0).trans c0
  have HI4 := Lib.hid ho4.isInts
  obtain ⟨a4, c4, rfl, _⟩ := ho4.isInts.opened
  clear hb4 ho4 d2 T3
  go_wp2_with fail
  refine (Common_any _ b j i _ (hv0.later RVer.stays (Dirty.old T4.below _))).mono ?_
  rintro e w5 ⟨⟨v5, rfl, ho5⟩, hb5⟩
  rw [HE2.out]
  rw [HC2.out] at ho5
  have T5 := T4.step hb5
  have d5 := (T5.below.cell (p := ⟨B, 0, none⟩) l0).trans c0
  have HI45 := Lib.hid (HI4.out.stays hb5)
  have HI5 := Lib.hid ho5.isInts
  obtain ⟨a5, c5, rfl, _⟩ := ho5.isInts.opened
  clear hb5 ho5 d4 T4 HI4
  go_wp2_with fail
  refine (Behind_any _ b i _ (hv0.later RVer.stays (Dirty.old T5.below _))).mono ?_
  rintro e w6 ⟨⟨v6, rfl, ho6⟩, hb6⟩
  rw [HX1.out]
  rw [HX2.out] at ho6
  have T6 := T5.step hb6
  have d6 := (T6.below.cell (p := ⟨B, 0, none⟩) l0).trans c0
  have HI46 := Lib.hid (HI45.out.stays hb6)
  have HI56 := Lib.hid (HI5.out.stays hb6)
  have HI6 := Lib.hid ho6.isInts
  obtain ⟨a6, c6, rfl, _⟩ := ho6.isInts.opened
  clear hb6 ho6 d5 T5 HI45 HI5
  go_wp2_with fail
  refine (Behind_any _ b j _ (hv0.later RVer.stays (Dirty.old T6.below _))).mono ?_
  rintro e w7 ⟨⟨v7, rfl, ho7⟩, hb7⟩
  rw [HY1.out]
  rw [HY2.out] at ho7
  have T7 := T6.step hb7
  have d7 := (T7.below.cell (p := ⟨B, 0, none⟩) l0).trans c0
  have HI47 := Lib.hid (HI46.out.stays hb7)
  have HI57 := Lib.hid (HI56.out.stays hb7)
  have HI67 := Lib.hid (HI6.out.stays hb7)
  have HI7 := Lib.hid ho7.isInts
  obtain ⟨a7, c7, rfl, _⟩ := ho7.isInts.opened
  clear hb7 ho7 d6 T6 HI46 HI56 HI6
  go_wp2_with fail
  refine (Equal_ints _ _ (commonL b i j) (commonL b i j) _ HI47.out HI57.out).mono ?_
  rintro e w8 ⟨rfl, hb8⟩
  rw [HQ.out]
  have T8 := T7.step hb8
  have d8 := (T8.below.cell (p := ⟨B, 0, none⟩) l0).trans c0
  have HIL := Lib.hid (HI47.out.stays hb8)
  have HIX := Lib.hid (HI67.out.stays hb8)
  have HIY := Lib.hid (HI7.out.stays hb8)
  have HV8 := Lib.hid (hv0.later RVer.stays (Dirty.old T8.below _))
  have l8 := cell_lt d8
  have hm0 : OwnsSet Try.prog 3 4 (w8.alloc (.map #[] 0)) w8.heap.size [] := OwnsSet.made w8
  clear hb8 d7 T7 HI47 HI57 HI67 HI7 c0
  generalize commonL b i j = L at *
  obtain ⟨X, hX⟩ : ∃ X, X = behindL b i := ⟨_, rfl⟩
  obtain ⟨Y, hY⟩ : ∃ Y, Y = behindL b j := ⟨_, rfl⟩
  rw [← hX, ← hY] at HF
  rw [← hX] at HIX ⊢
  rw [← hY] at HIY ⊢
  clear hX hY
  obtain ⟨_, _, e4, hc4, ⟨hm4, hm4', _⟩, _⟩ := HIL.out.opened
  obtain ⟨_, _, e6, hc6, ⟨hm6, hm6', _⟩, _⟩ := HIX.out.opened
  clear e4 e6
  go_wp2_with fail
  have U0 := (Since.refl w8).alloc (.map #[] 0)
  obtain ⟨Bm, hBm⟩ : ∃ Bm, Bm = w8.heap.size := ⟨_, rfl⟩
  have hBm1 : w8.heap.size ≤ Bm := by omega
  rw [← hBm] at hm0 ⊢
  have d8' := Lib.hid d8
  clear hBm d8
  go_loopw [97] (fun q wr => ∃ k : Nat, k ≤ L.length ∧ q = .int .i64 k ∧ Since w8.heap.size w8 wr ∧ OwnsSet Try.prog 3 4 wr Bm ((L.take k).flatMap (behindL b)) ∧ ((L.take k).flatMap (behindL b)).length ≤ k * 13) (fun q _ => L.length - (intOf q).toNat)
  case atStart => exact ⟨0, by omega, rfl, U0, by simpa using hm0, by simp⟩
  case round =>
    obtain ⟨k, hk, rfl, hS, hm, hml⟩ := hrel
    clear hm0 U0
    by_cases hlt : k < L.length
    · obtain ⟨_, _, e1, _, _, hxi⟩ := (HIL.out.stays hS.below).opened
      simp only [Value.slice.injEq, true_and] at e1
      obtain ⟨rfl, rfl⟩ := e1
      obtain ⟨b1, o1, z, e2, hc1, hz1, hiz⟩ := hxi k hlt
      subst e2
      obtain ⟨f1, f2, f3, f4, f5⟩ := HF.out.at_ k z hz1
      have G1 := Lib.hid f1
      have G2 := Lib.hid f2
      have G3 := Lib.hid f3
      have G4 := Lib.hid (behindC_ok f3)
      have G5 := Lib.hid f5
      have HZ := Lib.hid (take_get hz1)
      have dB := (hS.below.cell (p := ⟨B, 0, none⟩) l8).trans d8'.out
      clear f1 f2 f3 f5 hz1 hxi
      go_wp2_with fail
      refine (Behind_any _ b z _ (HV8.out.later RVer.stays (Dirty.old hS.below _))).mono ?_
      rintro e w9 ⟨⟨v9, rfl, ho9⟩, hb9⟩
      rw [G3.out]
      rw [G4.out] at ho9
      have S9 := hS.step hb9
      have hm9 := hm.below hb9
      have hlt9 := ho9.1.lt
      obtain ⟨a9, c9, rfl, hc9, ⟨hm9a, hm9b, _⟩, _⟩ := ho9.isInts.opened
      have hne9 : (Value.slice a9 (behindL b z).length c9).ownBlock ≠ some Bm := fun e => by have := (hlt9 _ e).1; have := hm.lt; omega
      have HO9 := Lib.hid ho9
      clear hb9 ho9 hlt9 hm hc1 dB
      go_wp2_with fail
      refine (Contains_ints _ X z _ (HIX.out.stays S9.below)).mono ?_
      rintro e w' ⟨rfl, rfl⟩
      rw [G1.out]
      go_wp2_with fail
      refine (Contains_ints _ Y z _ (HIY.out.stays S9.below)).mono ?_
      rintro e w' ⟨rfl, rfl⟩
      rw [G2.out]
      have hlk := hm9.lookup (t := 58) Try.underlying3 Try.underlying4 Try.underlying58 (zero_boolB _) z hiz
      rw [G5.out] at hlk
      go_wp2_with fail
      clear hlk
      have HZL := Lib.hid (show ((L.take k).flatMap (behindL b) ++ behindL b z) = (L.take (k + 1)).flatMap (behindL b) by rw [HZ.out]; simp)
      generalize behindL b z = Z at *
      generalize (L.take k).flatMap (behindL b) = S at *
      obtain ⟨BO, ho9⟩ : ∃ BO, OwnInts w9 3 BO (.slice a9 Z.length c9) Z := ⟨_, HO9.out⟩
      go_loopw [128] (fun q wr => ∃ m : Nat, m ≤ Z.length ∧ q = .int .i64 m ∧ Since w8.heap.size w8 wr ∧ OwnInts wr 3 BO (.slice a9 Z.length c9) Z ∧ OwnsSet Try.prog 3 4 wr Bm (S ++ Z.take m)) (fun q _ => Z.length - (intOf q).toNat)
      case atStart => exact ⟨0, by omega, rfl, S9, ho9, by simpa using hm9⟩
      case round =>
        obtain ⟨m, hm1, rfl, hS, ho, hm⟩ := hrel
        by_cases hlm : m < Z.length
        · obtain ⟨_, _, e6, _, _, hpi⟩ := ho.isInts.opened
          simp only [Value.slice.injEq, true_and] at e6
          obtain ⟨rfl, rfl⟩ := e6
          obtain ⟨b2, o2, z2, e7, hc2, hz2, hi2⟩ := hpi m hlm
          subst e7
          have HZ2 := Lib.hid (take_get hz2)
          have hlS : (S ++ Z.take m).length < 1000000000000000 := by simp; omega
          clear hz2 hpi
          go_wp2_with (at_mapUpdate; refine wpList_store_set _ rfl _ _ _ 58 rfl Try.underlying3 Try.underlying4 Try.underlying58 _ _ rfl hm hlS _ rfl rfl hi2 ?_; intro w10 hm10 hg10)
          have S10 := hS.grown hg10 (fun q hq => by cases hq; exact hBm1)
          have ho10 := ho.kept hg10 (Or.inr hne9)
          have HM10 := Lib.hid hm10
          clear hm10 hg10 hc2
          go_roundw
          case rel => exact ⟨m + 1, by omega, by go_num, S10, ho10, by rw [HZ2.out, ← List.append_assoc]; exact HM10.out⟩
          case measure => simp [intOf]; omega
        · obtain rfl : Z.length = m := by omega
          rw [List.take_length] at hm
          have HM := Lib.hid hm
          clear hm ho
          go_wp2_with fail
          go_roundw
          case rel => exact ⟨k + 1, by omega, by go_num, hS, by rw [← HZL.out]; exact HM.out, by rw [← HZL.out]; simp; omega⟩
          case measure => simp [intOf]; omega
    · obtain rfl : L.length = k := by omega
      rw [List.take_length] at hm hml
      have hmX := hm
      go_wp2_with fail
      have SX := hS
      clear hm hS
      go_loopw [138] (fun q wr => ∃ m : Nat, m ≤ X.length ∧ q = .int .i64 m ∧ Since w8.heap.size w8 wr ∧ OwnsSet Try.prog 3 4 wr Bm (L.flatMap (behindL b))) (fun q _ => X.length - (intOf q).toNat)
      case atStart => exact ⟨0, by omega, rfl, SX, hmX⟩
      case round =>
        obtain ⟨m, hm1, rfl, hS, hm⟩ := hrel
        clear SX hmX
        by_cases hlm : m < X.length
        · obtain ⟨_, _, e6, _, _, hpi⟩ := (HIX.out.stays hS.below).opened
          simp only [Value.slice.injEq, true_and] at e6
          obtain ⟨rfl, rfl⟩ := e6
          obtain ⟨b2, o2, z2, e7, hc2, hz2, hi2⟩ := hpi m hlm
          subst e7
          have HA := Lib.hid (HF.out.all z2 (List.mem_of_getElem? hz2))
          clear hz2 hpi
          go_wp2_with fail
          refine (Contains_ints _ Y z2 _ (HIY.out.stays hS.below)).mono ?_
          rintro e w' ⟨rfl, rfl⟩
          cases hyz : memB z2 Y with
          | true =>
            have HD := Lib.hid (HA.out hyz)
            clear hyz
            have hlk := hm.lookup (t := 58) Try.underlying3 Try.underlying4 Try.underlying58 (zero_boolB _) z2 hi2
            rw [HD.out] at hlk
            go_wp2_with fail
            clear hlk
            go_roundw
            case rel => exact ⟨m + 1, by omega, by go_num, hS, hm⟩
            case measure => simp [intOf]; omega
          | false =>
            clear hyz
            go_wp2_with fail
            go_roundw
            case rel => exact ⟨m + 1, by omega, by go_num, hS, hm⟩
            case measure => simp [intOf]; omega
        · go_wp2_with fail
          refine (Contains_ints _ X j _ (HIX.out.stays hS.below)).mono ?_
          rintro e w' ⟨rfl, rfl⟩
          cases hjx : memB j X with
          | true =>
            have HL := Lib.hid (HF.out.last hjx)
            have iij : I64 j := ⟨by omega, by omega⟩
            clear hjx
            go_wp2_with fail
            refine (Equal_ints _ _ L [j] _ ((HIL.out.stays hS.below).stays (below_alloc _ _)) (IsInts.fresh _ 3 [j] (by simp) (by intro x hx; simp at hx; subst hx; exact iij) _ (by simp))).mono ?_
            rintro e w11 ⟨rfl, hb11⟩
            rw [HL.out]
            have S11 := (hS.alloc (.cells #[.int .i64 j] 3)).step hb11
            go_wp2_with fail
            go_ret
            exact ⟨rfl, (S0.step (T8.step S11.below).below).below⟩
          | false =>
            clear hjx
            go_wp2_with fail
            go_ret
            exact ⟨rfl, (S0.step (T8.step hS.below).below).below⟩

theorem KinBoth_walk (v0 : Value) (b : List Ver) (v1 : Value) (i : Int) (v2 : Value) (j : Int) (W : World) (h0 : IsBook W v0 b) (h1 : IsInt v1 i) (h2 : IsInt v2 j) :
    Calls Try.prog 9 #[v0, v1, v2] W fun e w' => e = .returned (.bool true) ∧ Below W.heap.size W w' := by
  obtain ⟨u, rfl, hv⟩ := h0
  obtain ⟨rfl, hi⟩ := h1
  obtain ⟨rfl, hj⟩ := h2
  by_cases h : bookV b = 0
  · by_cases hb : b = []
    · exact kinBoth_no u b i j W hv (Or.inr ⟨h, hb⟩)
    · exact kinBoth_ok u b i j W hv h (List.length_pos_iff.2 hb) hi hj
  · exact kinBoth_no u b i j W hv (Or.inl h)

end Go.Proofs.Ytlaabmpadikkjaa
