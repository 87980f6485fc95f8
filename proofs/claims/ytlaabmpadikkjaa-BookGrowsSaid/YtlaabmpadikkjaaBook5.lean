/-
  The walks of Behind and Heads.
-/
import Derived.Test.YtlaabmpadikkjaaBook2
import Derived.Test.YtlaabmpadikkjaaRow2
import Derived.Test.YtlaabmpadikkjaaReverse
namespace Go.Proofs.Ytlaabmpadikkjaa
open Go.RowKit

theorem zero_boolB (w : World) : (zeroValue 4).run Try.prog w = .ok (.bool false) w := by kernel_rfl
theorem ret_nilB {v : Value} {a b : Int} (h : a = b) : Ending.returned (.tuple #[v, .int .i64 a]) = .returned (.tuple #[v, .int .i64 b]) := by rw [h]

set_option maxRecDepth 100000 in
set_option maxHeartbeats 2000000 in
theorem Behind_no (v : Value) (b : List Ver) (k : Int) (W : World) (hv : IsVers W v b) (hE : behindE b k ≠ 0) :
    Calls Try.prog 38 #[.agg #[v], .int .i64 k] W fun e w' => e = .returned (.tuple #[.slice none 0 0, .int .i64 (behindE b k)]) ∧ Below W.heap.size W w' := by
  obtain ⟨a, c, rfl, hc, ⟨hm, hcm, _⟩, _⟩ := hv.opened
  have S0 := (Since.refl W).alloc (.cells #[.slice a b.length c] 50)
  have hv0 := hv.stays RVer.stays (below_alloc _ (.cells #[.slice a b.length c] 50))
  have c0 : (W.alloc (.cells #[.slice a b.length c] 50)).cell? ⟨W.heap.size, 0, none⟩ = some (.slice a b.length c) := by go_simp
  clear hv
  by_cases h0 : bookV b = 0
  · have H0 := Lib.hid h0
    have hk : k < 0 ∨ (b.length : Int) ≤ k := by
      apply Classical.byContradiction
      intro hn
      exact hE (behindE_ok h0 (by omega) (by omega))
    have HE := Lib.hid (behindE_who h0 hk)
    clear h0 hE
    go_enter Try.func38, Try.ntmps38
    go_wp2_with fail
    refine (bookCheck_any _ b _ hv0).mono ?_
    rintro e w1 ⟨rfl, hb1⟩
    rw [H0.out]
    have d0 := (hb1.cell (p := ⟨W.heap.size, 0, none⟩) (cell_lt c0)).trans c0
    have S1 := S0.step hb1
    clear c0
    rcases hk with hk | hk
    · go_wp2_with fail
      go_ret2
      exact ⟨ret_nilB HE.out.symm, S1.below⟩
    · by_cases hk0 : k < 0
      · go_wp2_with fail
        go_ret2
        exact ⟨ret_nilB HE.out.symm, S1.below⟩
      · go_wp2_with fail
        go_ret2
        exact ⟨ret_nilB HE.out.symm, S1.below⟩
  · have HE := Lib.hid (behindE_chk k h0)
    have hne : (bookV b != 0) = true := by simpa using h0
    clear h0 hE
    go_enter Try.func38, Try.ntmps38
    go_wp2_with fail
    refine (bookCheck_any _ b _ hv0).mono ?_
    rintro e w1 ⟨rfl, hb1⟩
    have S1 := S0.step hb1
    clear c0
    go_wp2_with fail
    go_ret2
    exact ⟨ret_nilB HE.out.symm, S1.below⟩

set_option maxRecDepth 100000 in
set_option maxHeartbeats 4000000 in
theorem Behind_ok (v : Value) (b : List Ver) (k : Nat) (W : World) (hv : IsVers W v b) (h0 : bookV b = 0) (hk : k < b.length) :
    Calls Try.prog 38 #[.agg #[v], .int .i64 k] W fun e w' => (∃ v', e = .returned (.tuple #[v', .int .i64 0]) ∧ OwnInts w' 3 W.heap.size v' (behindL b k)) ∧ Below W.heap.size W w' := by
  have HB := Lib.hid (bookV_ok.1 h0)
  have ht := HB.out.top
  have H0 := Lib.hid h0
  clear h0
  obtain ⟨a, c, rfl, hc, ⟨hm, hcm, _⟩, _⟩ := hv.opened
  have S0 := (Since.refl W).alloc (.cells #[.slice a b.length c] 50)
  have hv0 := hv.stays RVer.stays (below_alloc _ (.cells #[.slice a b.length c] 50))
  have c0 : (W.alloc (.cells #[.slice a b.length c] 50)).cell? ⟨W.heap.size, 0, none⟩ = some (.slice a b.length c) := by go_simp
  obtain ⟨B, hB⟩ : ∃ B, B = W.heap.size := ⟨_, rfl⟩
  obtain ⟨w0, hw0⟩ : ∃ w0, w0 = W.alloc (.cells #[.slice a b.length c] 50) := ⟨_, rfl⟩
  rw [← hw0] at S0 hv0 c0
  rw [← hB] at c0
  have HW := Lib.hid hw0
  have HBB := Lib.hid hB
  have l0 := cell_lt c0
  have ik : I64 (k : Int) := ⟨by omega, by omega⟩
  have hmm := @run_makeMap Try.prog
  clear hv hw0 hB
  go_enter Try.func38, Try.ntmps38
  go_wp2_with fail
  rw [← HW.out, ← HBB.out]
  refine (bookCheck_any _ b _ hv0).mono ?_
  rintro e w1 ⟨rfl, hb1⟩
  rw [H0.out]
  have T1 := (Since.refl w0).step hb1
  have hv1 := hv0.stays RVer.stays hb1
  have d0 := (T1.below.cell (p := ⟨B, 0, none⟩) l0).trans c0
  have hm0 : OwnsSet Try.prog 3 4 (w1.alloc (.map #[] 0)) w1.heap.size [] := OwnsSet.made w1
  have hs1 := T1.2
  go_wp2_with (refine wpList_insert_set _ rfl (.tmp 26) (.tmp 27) (.const (.bool true)) 58 rfl Try.underlying3 Try.underlying4 Try.underlying58 _ _ rfl hm0 (by simp) _ rfl rfl ik ?_; intro w2 hm2 hg2)
  obtain ⟨B2, hB2⟩ : ∃ B2, B2 = w1.heap.size := ⟨_, rfl⟩
  have T2 : Since w0.heap.size w0 w2 := (T1.alloc (.map #[] 0)).grown hg2 (fun m hm => by cases hm; exact hs1)
  have hB2w : w0.heap.size ≤ B2 := by omega
  have hB2l : B2 < w2.heap.size := by rw [hB2]; exact hm2.lt
  rw [List.nil_append] at hm2
  rw [← hB2] at hm2 ⊢
  clear hB2 hm0 hg2 hv1 d0 T1 hs1 hb1
  go_loopw [9, 8] (fun i o wr => ∃ j : Int, ∃ S : List Int, i = .int .i64 j ∧ -1 ≤ j ∧ j ≤ k ∧ Since w0.heap.size w0 wr ∧ B2 < wr.heap.size ∧ OwnInts wr 3 w0.heap.size o (downL b k j) ∧ o.ownBlock ≠ some B2 ∧ OwnsSet Try.prog 3 4 wr B2 S ∧ (S.length : Int) ≤ 1 + (k - j) * 17592186044416 ∧ Known b k j S) (fun i _ _ => (intOf i + 1).toNat)
  case atStart => exact ⟨k, [(k : Int)], rfl, by omega, by omega, T2, hB2l, by rw [downL_start b (by omega)]; exact OwnInts.nil _ _ _, by simp [Value.ownBlock], hm2, by simp, Known.start b k⟩
  case round =>
    obtain ⟨j, S, rfl, hj0, hj1, hS, hBl, ho, hne, hm, hSl, hkn⟩ := hrel
    have HKN := Lib.hid hkn
    have hdl := downL_len b k j
    clear hkn hm2 T2 hB2l
    by_cases hlt : 0 ≤ j
    · obtain ⟨n, rfl⟩ := Int.eq_ofNat_of_zero_le hlt
      have hnb : n < b.length := by omega
      have hx : b[n]? = some b[n] := List.getElem?_eq_getElem hnb
      have HP := Lib.hid (pars_get hx)
      generalize b[n] = x at *
      obtain ⟨g, off, u, cu, e1, k00, _, _, _, hp0, _⟩ := vers_at hv0 hx
      subst e1
      have lg := cell_lt k00
      obtain ⟨_, _, e5, _, ⟨hpm, hpcm, _⟩, _⟩ := hp0.opened
      simp only [Value.slice.injEq, true_and] at e5
      obtain ⟨rfl, rfl⟩ := e5
      have HX := Lib.hid hx
      clear hx
      have inn : I64 (n : Int) := ⟨by omega, by omega⟩
      have hgs := hS.2
      have s1 : (0 : Int) ≤ (n : Int) := by omega
      have s2 : (n : Int) < (b.length : Int) := by omega
      by_cases hf : fromV b k n = true
      · have HF := Lib.hid hf
        have hdec := HKN.out.from HB.out (by omega) (by omega)
        rw [hf] at hdec
        have HDEC := Lib.hid hdec
        clear hf hdec
        go_wp2_with (first
          | (at_lookup; refine wpList_lookup_set _ rfl _ _ 58 rfl Try.underlying3 Try.underlying4 Try.underlying58 (zero_boolB _) _ _ rfl hm _ rfl inn true HDEC.out ?_)
          | (at_builtin; refine wpList_append_int_at rfl _ _ 24 rfl 3 Try.underlying24 info_int w0.heap.size _ (downL b k n) rfl (ho.stays (below_alloc wr _)) ⟨wr.heap.size, 0, none⟩ 1 (n : Int) rfl (by simp) inn (by omega) (by simp; omega) ?_; intro v' w4 ho4 hg4 hat4; have S4 := (hS.alloc _).own (ho.stays (below_alloc wr _)) hg4; have e4 := (S4.below.cell (p := ⟨B, 0, none⟩) l0).trans c0; have k0 := (S4.below.cell (p := ⟨g, off + n * 4, none⟩) lg).trans k00; obtain ⟨av, cv, rfl, hcv, ⟨_, hcmv, _⟩, _⟩ := ho4.isInts.opened))
        have hne4 : (Value.slice av (downL b k n ++ [(n : Int)]).length cv).ownBlock ≠ some B2 := by
          rcases hat4 with h | h
          · rw [h]; exact hne
          · rw [h]; simp; omega
        have hm4 := (hm.below (below_alloc wr (.cells #[.int .i64 (n : Int)] 3)))
        have hm5 : OwnsSet Try.prog 3 4 w4 B2 S := hm4.block (hg4.block B2 (by simp; omega) (fun e => hne e.symm))
        have hd5 := downL_yes HB.out (k := k) (i := n) (by omega) (by omega) HF.out
        have hL : (downL b k n ++ [(n : Int)]).length = (downL b k n).length + 1 := by simp
        rw [hL] at ho4 hne4 hcv
        rw [← hd5] at ho4
        clear hL
        have HD5 := Lib.hid hd5
        have hB4 : B2 < w4.heap.size := hm5.lt
        clear hd5 hm4 hg4 hat4 hm
        obtain ⟨wo, hwo⟩ : ∃ wo : World, wo = wr := ⟨_, rfl⟩
        rw [← hwo] at *
        clear hwo
        go_loopw [48] (fun i wr => ∃ m : Nat, m ≤ x.1.length ∧ i = .int .i64 m ∧ Since w0.heap.size w0 wr ∧ B2 < wr.heap.size ∧ OwnInts wr 3 w0.heap.size (.slice av ((downL b k n).length + 1) cv) (downL b k (n - 1)) ∧ OwnsSet Try.prog 3 4 wr B2 (S ++ x.1.take m)) (fun i _ => x.1.length - (intOf i).toNat)
        case atStart => exact ⟨0, by omega, rfl, S4, hB4, ho4, by simpa using hm5⟩
        case round =>
          obtain ⟨m, hm1, rfl, hS, hBl, ho, hm⟩ := hrel
          by_cases hlm : m < x.1.length
          · obtain ⟨_, _, e6, _, _, hpi⟩ := (hp0.stays hS.below).opened
            simp only [Value.slice.injEq, true_and] at e6
            obtain ⟨rfl, rfl⟩ := e6
            obtain ⟨b1, o1, z1, e7, hc1, hz1, hi1⟩ := hpi m hlm
            subst e7
            have HZ := Lib.hid (take_get hz1)
            have hlS : (S ++ x.1.take m).length < 1000000000000000 := by simp; omega
            clear hz1 hpi
            have hgB := hS.2
            go_wp2_with (at_mapUpdate; refine wpList_store_set _ rfl _ _ _ 58 rfl Try.underlying3 Try.underlying4 Try.underlying58 _ _ rfl hm hlS _ rfl rfl hi1 ?_; intro w6 hm6 hg6)
            have S6 := hS.grown hg6 (fun q hq => by cases hq; exact hB2w)
            have hB6 := hm6.lt
            have ho6 := ho.kept hg6 (Or.inr hne4)
            have HM6 := Lib.hid hm6
            clear hm6 hg6 hc1
            go_roundw
            case rel => exact ⟨m + 1, by omega, by go_num, S6, hB6, ho6, by rw [HZ.out, ← List.append_assoc]; exact HM6.out⟩
            case measure => simp [intOf]; omega
          · obtain rfl : x.1.length = m := by omega
            rw [List.take_length] at hm
            have hkn2 := HKN.out.yes (by omega) HF.out
            rw [show ((n : Int)).toNat = n by omega, HP.out] at hkn2
            have HK2 := Lib.hid hkn2
            clear hkn2
            go_wp2_with fail
            go_roundw
            case rel => exact ⟨(n : Int) - 1, S ++ x.1, by go_num, by omega, by omega, hS, hBl, ho, hne4, hm, by simp; omega, HK2.out⟩
            case measure => simp [intOf]
      · have hff : fromV b k n = false := by simpa using hf
        have HK2 := Lib.hid (HKN.out.no hff)
        have hdec := HKN.out.from HB.out (by omega) (by omega)
        rw [hff] at hdec
        have HDEC := Lib.hid hdec
        have HD5 := Lib.hid (downL_no HB.out (k := k) (i := n) (by omega) (by omega) hff)
        clear hf hff hdec
        go_wp2_with (at_lookup; refine wpList_lookup_set _ rfl _ _ 58 rfl Try.underlying3 Try.underlying4 Try.underlying58 (zero_boolB _) _ _ rfl hm _ rfl inn false HDEC.out ?_)
        go_roundw
        case rel => exact ⟨(n : Int) - 1, S, by go_num, by omega, by omega, hS, hBl, by rw [HD5.out]; exact ho, hne, hm, by omega, HK2.out⟩
        case measure => simp [intOf]
    · obtain rfl : j = -1 := by omega
      go_wp2_with fail
      refine (Reverse_ints w0.heap.size _ _ _ ho).mono ?_
      rintro e w3 ⟨rfl, ho3, hg3⟩
      have S3 := hS.own ho hg3
      rw [downL_done] at ho3
      have HO3 := Lib.hid ho3
      clear hm ho3 ho hg3
      go_wp2_with fail
      go_ret2
      exact ⟨⟨_, rfl, HO3.out.mono S0.2⟩, (S0.step S3.below).below⟩

end Go.Proofs.Ytlaabmpadikkjaa
