/-
  The walks of Common and Apart.
-/
import Derived.Test.YtlaabmpadikkjaaKin
namespace Go.Proofs.Ytlaabmpadikkjaa
open Go.RowKit

theorem run_makeFuncK (fn : Fn) (first cap : Array Value) (w : World) : (Instr.makeFunc fn first cap).run Try.prog w = .ok (.func fn first cap) w := rfl

set_option maxRecDepth 100000 in
set_option maxHeartbeats 4000000 in
theorem Common_ok (v : Value) (b : List Ver) (i j : Int) (W : World) (hv : IsVers W v b) (hi : behindE b i = 0) (hj : behindE b j = 0) :
    Calls Try.prog 31 #[.agg #[v], .int .i64 i, .int .i64 j] W fun e w' => (∃ v', e = .returned (.tuple #[v', .int .i64 0]) ∧ OwnInts w' 3 W.heap.size v' (commonL b i j)) ∧ Below W.heap.size W w' := by
  obtain ⟨a, c, rfl, _⟩ := hv.opened
  have HI := Lib.hid hi
  have HJ := Lib.hid hj
  have HCI := Lib.hid (behindC_ok hi)
  have HCJ := Lib.hid (behindC_ok hj)
  have HST := Lib.hid (common_step (j := j) hi)
  have hz := behindE_zero hi
  have ht := (bookV_ok.1 hz.1).top
  have S0 := (Since.refl W).alloc (.cells #[.slice a b.length c] 50)
  have hv0 := hv.stays RVer.stays (below_alloc _ (.cells #[.slice a b.length c] 50))
  have c0 : (W.alloc (.cells #[.slice a b.length c] 50)).cell? ⟨W.heap.size, 0, none⟩ = some (.slice a b.length c) := by go_simp
  obtain ⟨w0, hw0⟩ : ∃ w0, w0 = W.alloc (.cells #[.slice a b.length c] 50) := ⟨_, rfl⟩
  obtain ⟨B, hB⟩ : ∃ B, B = W.heap.size := ⟨_, rfl⟩
  rw [← hw0] at S0 hv0 c0
  rw [← hB] at c0
  have HW := Lib.hid hw0
  have HB := Lib.hid hB
  have l0 := cell_lt c0
  obtain ⟨_, hz0, hz1⟩ := hz
  clear hv hi hj hw0 hB
  have hmf := run_makeFuncK
  go_enter Try.func31, Try.ntmps31
  go_wp2_with fail
  rw [← HW.out, ← HB.out]
  refine (Behind_any _ b i _ hv0).mono ?_
  rintro e w1 ⟨⟨v1, rfl, ho1⟩, hb1⟩
  rw [HI.out]
  rw [HCI.out] at ho1
  have T1 := (Since.refl w0).step hb1
  have d0 := (T1.below.cell (p := ⟨B, 0, none⟩) l0).trans c0
  have hv1 := hv0.stays RVer.stays hb1
  go_wp2_with fail
  refine (Behind_any _ b j _ hv1).mono ?_
  rintro e w2 ⟨⟨v2, rfl, ho2⟩, hb2⟩
  rw [HJ.out]
  rw [HCJ.out] at ho2
  have T2 := T1.step hb2
  have ho12 := ho1.stays hb2
  obtain ⟨a1, c1, rfl, _⟩ := ho12.isInts.opened
  obtain ⟨a2, c2, rfl, _⟩ := ho2.isInts.opened
  have hlt1 := ho1.1.lt
  have hlt2 := ho2.1.lt
  have ho13 := ho12.stays (below_alloc w2 (.cells #[.slice a2 (behindL b j).length c2] 24))
  have ho23 := ho2.stays (below_alloc w2 (.cells #[.slice a2 (behindL b j).length c2] 24))
  have T3 := T2.alloc (.cells #[.slice a2 (behindL b j).length c2] 24)
  have cy : (w2.alloc (.cells #[.slice a2 (behindL b j).length c2] 24)).cell? ⟨w2.heap.size, 0, none⟩ = some (.slice a2 (behindL b j).length c2) := by go_simp
  have hs2 : w1.heap.size ≤ w2.heap.size := hb2.size
  clear d0 hv1 ho1 ho12 ho2 hb1 hb2 T1 T2
  go_wp2_with fail
  obtain ⟨By, hBy⟩ : ∃ By, By = w2.heap.size := ⟨_, rfl⟩
  rw [← hBy] at cy ⊢
  have hB1 : w1.heap.size ≤ By := by omega
  have hl2 : ∀ k, (Value.slice a2 (behindL b j).length c2).ownBlock = some k → w1.heap.size ≤ k := fun k hk => (hlt2 k hk).1
  have HL1 := Lib.hid hlt1
  have HL2 := Lib.hid hl2
  clear hlt1 hlt2 hl2 hBy hs2
  generalize w2.alloc (.cells #[.slice a2 (behindL b j).length c2] 24) = w3 at *
  refine (DeleteFuncInts_any 64 (fun _ _ => rfl) #[.pointer (some ⟨By, 0, none⟩)] (fun z => !memB z (behindL b j)) w0.heap.size _ (behindL b i) _ ho13 (fun z w hz hg => CommonNot_any z By _ (behindL b j) w (hg.cell cy (fun e => by have := (HL1.out By e.symm).2; omega)) (ho23.kept hg (by
    cases hk : (Value.slice a2 (behindL b j).length c2).ownBlock with
    | none => exact Or.inl rfl
    | some k => right; intro e; have h1 := HL2.out k hk; have h2 := (HL1.out k e.symm).2; omega)).isInts)).mono ?_
  rintro e w4 ⟨⟨v4, rfl, ho4⟩, hg4⟩
  have hboth : (behindL b i).filter (fun z => !(fun z => !memB z (behindL b j)) z) = bothL b i j := by unfold bothL; simp
  rw [hboth] at ho4
  have T4 := T3.own ho13 hg4
  obtain ⟨a4, c4, rfl, hc4, ⟨_, hcm4, _⟩, _⟩ := ho4.isInts.opened
  have hbl : (bothL b i j).length ≤ 1000000 := by have := ho4.2.2; unfold bothL behindL at *; exact Nat.le_trans (List.length_filter_le _ _) (Nat.le_trans (List.length_filter_le _ _) (by simp; omega))
  have HIB := Lib.hid ho4.isInts
  clear hboth ho13 ho23 hg4 T3 cy ho4
  go_wp2_with fail
  have hB4 : B < w4.heap.size := Nat.lt_of_lt_of_le l0 T4.2
  have cB := (T4.below.cell (p := ⟨B, 0, none⟩) l0).trans c0
  have hv4 := hv0.later RVer.stays (Dirty.old T4.below _)
  go_loopw [38, 12] (fun q o wr => ∃ k : Nat, k ≤ (bothL b i j).length ∧ q = .int .i64 k ∧ Since w4.heap.size w4 wr ∧ OwnInts wr 3 w4.heap.size o (((bothL b i j).take k).filter fun k => !((bothL b i j).any fun o => lowerV b k o))) (fun q _ _ => (bothL b i j).length - (intOf q).toNat)
  case atStart => exact ⟨0, by omega, rfl, Since.refl w4, OwnInts.nil _ _ _⟩
  case round =>
    obtain ⟨k, hk, rfl, hS, ho⟩ := hrel
    by_cases hlt : k < (bothL b i j).length
    · obtain ⟨_, _, e1, _, _, hxi⟩ := (HIB.out.stays hS.below).opened
      simp only [Value.slice.injEq, true_and] at e1
      obtain ⟨rfl, rfl⟩ := e1
      obtain ⟨b1, o1, z, e2, hc1, hz1', hiz⟩ := hxi k hlt
      subst e2
      have HFS := Lib.hid (filter_take_step (p := fun k => !((bothL b i j).any fun o => lowerV b k o)) hz1')
      clear hz1' hxi
      have S5 := hS.alloc (.cells #[.int .i64 z] 3)
      have ck : (wr.alloc (.cells #[.int .i64 z] 3)).cell? ⟨wr.heap.size, 0, none⟩ = some (.int .i64 z) := by go_simp
      have ho5 := ho.stays (below_alloc wr (.cells #[.int .i64 z] 3))
      have hs5 : wr.heap.size < (wr.alloc (.cells #[.int .i64 z] 3)).heap.size := by simp
      go_wp2_with fail
      obtain ⟨Bk, hBk⟩ : ∃ Bk, Bk = wr.heap.size := ⟨_, rfl⟩
      rw [← hBk] at ck hs5 ⊢
      clear hBk hc1
      generalize wr.alloc (.cells #[.int .i64 z] 3) = w5 at *
      have hib5 := HIB.out.stays S5.below
      refine (ContainsFuncInts_any 65 (fun _ _ => rfl) #[.pointer (some ⟨Bk, 0, none⟩), .pointer (some ⟨B, 0, none⟩)] (fun o => lowerV b z o) _ (bothL b i j) _ hib5 (fun o w _ hSw => CommonLower_any o z Bk B _ b w ((hSw.below.cell (p := ⟨Bk, 0, none⟩) hs5).trans ck) (((S5.step hSw.below).below.cell (p := ⟨B, 0, none⟩) hB4).trans cB) (hv4.later RVer.stays (Dirty.old (S5.step hSw.below).below _)))).mono ?_
      rintro e w6 ⟨rfl, hb6⟩
      have S6 := S5.step hb6
      have ho6 := ho5.stays hb6
      have ck6 := (hb6.cell (p := ⟨Bk, 0, none⟩) hs5).trans ck
      clear ck ho5 hib5 hb6 hS ho
      have hgs := S6.2
      have hfl : (((bothL b i j).take k).filter fun k => !((bothL b i j).any fun o => lowerV b k o)).length ≤ 1000000 := Nat.le_trans (List.length_filter_le _ _) (by simp; omega)
      obtain ⟨T, hT⟩ : ∃ T, T = (bothL b i j).any fun o => lowerV b z o := ⟨_, rfl⟩
      rw [← hT]
      have HT := Lib.hid hT
      clear hT
      cases T with
      | true =>
        go_wp2_with fail
        go_roundw
        case rel => exact ⟨k + 1, by omega, by go_num, S6, by rw [HFS.out]; simpa [← HT.out] using ho6⟩
        case measure => simp [intOf]; omega
      | false =>
        go_wp2_with (at_builtin; refine wpList_append_int rfl _ _ 24 rfl 3 Try.underlying24 info_int w4.heap.size _ (((bothL b i j).take k).filter fun k => !((bothL b i j).any fun o => lowerV b k o)) rfl (ho6.stays (below_alloc w6 _)) ⟨w6.heap.size, 0, none⟩ 1 z rfl (by simp) hiz (by omega) (by simp; omega) ?_; intro v' w7 ho7 hg7)
        have S7 := (S6.alloc (.cells #[.int .i64 z] 3)).own (ho6.stays (below_alloc w6 _)) hg7
        have HO7 := Lib.hid ho7
        clear ho7 hg7 ho6 ck6
        go_roundw
        case rel => exact ⟨k + 1, by omega, by go_num, S7, by rw [HFS.out]; simpa [← HT.out] using HO7.out⟩
        case measure => simp [intOf]; omega
    · obtain rfl : (bothL b i j).length = k := by omega
      rw [List.take_length, ← HST.out] at ho
      have HO := Lib.hid ho
      clear ho
      go_wp2_with fail
      go_ret2
      exact ⟨⟨_, rfl, HO.out.mono (Nat.le_trans S0.2 T4.2)⟩, (S0.step (T4.step hS.below).below).below⟩

set_option maxHeartbeats 1000000 in
theorem Common_any (v : Value) (b : List Ver) (i j : Int) (W : World) (hv : IsVers W v b) :
    Calls Try.prog 31 #[.agg #[v], .int .i64 i, .int .i64 j] W fun e w' => (∃ v', e = .returned (.tuple #[v', .int .i64 (commonE b i j)]) ∧ OwnInts w' 3 W.heap.size v' (commonC b i j)) ∧ Below W.heap.size W w' := by
  by_cases h : commonE b i j = 0
  · have hi : behindE b i = 0 := Classical.byContradiction fun hi => by rw [commonE_i j hi] at h; exact hi h
    have hj : behindE b j = 0 := by rw [commonE_j j hi] at h; exact h
    rw [h, commonC_ok h]
    exact Common_ok v b i j W hv hi hj
  · rw [commonC_no h]
    exact (Common_no v b i j W hv h).mono fun e w' ⟨he, hb⟩ => ⟨⟨_, he, OwnInts.nil _ _ _⟩, hb⟩

theorem ret_bi {a b : Bool} {c d : Int} (h : a = b) (g : c = d) : Ending.returned (.tuple #[.bool a, .int .i64 c]) = .returned (.tuple #[.bool b, .int .i64 d]) := by rw [h, g]
/-- Apart's answer. -/
def apartC (b : List Ver) (i j : Int) : Bool := decide (commonE b i j = 0) && apartV b i j
set_option maxHeartbeats 1000000 in
theorem Apart_any (v : Value) (b : List Ver) (i j : Int) (W : World) (hv : IsVers W v b) :
    Calls Try.prog 32 #[.agg #[v], .int .i64 i, .int .i64 j] W fun e w' => e = .returned (.tuple #[.bool (apartC b i j), .int .i64 (commonE b i j)]) ∧ Below W.heap.size W w' := by
  obtain ⟨a, c, rfl, _⟩ := hv.opened
  have S0 := (Since.refl W).alloc (.cells #[.slice a b.length c] 50)
  have hv0 := hv.stays RVer.stays (below_alloc _ (.cells #[.slice a b.length c] 50))
  clear hv
  by_cases h : commonE b i j = 0
  · have HC := Lib.hid (commonC_ok h)
    have HA := Lib.hid (show apartC b i j = apartV b i j by simp [apartC, h])
    have HE := Lib.hid h
    clear h
    go_enter Try.func32, Try.ntmps32
    go_wp2_with fail
    refine (Common_any _ b i j _ hv0).mono ?_
    rintro e w1 ⟨⟨v1, rfl, ho1⟩, hb1⟩
    rw [HE.out]
    rw [HC.out] at ho1
    have S1 := S0.step hb1
    go_wp2_with fail
    refine (Contains_ints _ (commonL b i j) i _ ho1.isInts).mono ?_
    rintro e w' ⟨rfl, rfl⟩
    obtain ⟨T, hT⟩ : ∃ T, T = memB i (commonL b i j) := ⟨_, rfl⟩
    rw [← hT]
    have HT := Lib.hid hT
    clear hT
    cases T with
    | true =>
      go_wp2_with fail
      go_ret2
      exact ⟨ret_bi (by rw [HA.out, apartV, ← HT.out]; rfl) HE.out.symm, S1.below⟩
    | false =>
      go_wp2_with fail
      refine (Contains_ints _ (commonL b i j) j _ ho1.isInts).mono ?_
      rintro e w' ⟨rfl, rfl⟩
      go_wp2_with fail
      go_ret2
      exact ⟨ret_bi (by rw [HA.out, apartV, ← HT.out]; rfl) HE.out.symm, S1.below⟩
  · have HA := Lib.hid (show apartC b i j = false by simp [apartC, h])
    have hne : (commonE b i j != 0) = true := by simpa using h
    clear h
    go_enter Try.func32, Try.ntmps32
    go_wp2_with fail
    refine (Common_any _ b i j _ hv0).mono ?_
    rintro e w1 ⟨⟨v1, rfl, ho1⟩, hb1⟩
    have S1 := S0.step hb1
    go_wp2_with fail
    go_ret2
    exact ⟨ret_bi HA.out.symm rfl, S1.below⟩

end Go.Proofs.Ytlaabmpadikkjaa
