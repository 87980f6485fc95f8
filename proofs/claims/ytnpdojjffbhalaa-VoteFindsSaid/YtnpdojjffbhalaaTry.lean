/-
  vote.Most's inner function, which calls itself, walked.
-/
import Derived.Test.YtnpdojjffbhalaaTryMath
import Derived.Test.YtnpdojjffbhalaaJoin
import Derived.Deep.RegionLaw
import Derived.Deep.DeepFit
namespace Go.Proofs.Ytnpdojjffbhalaa
open Go.RowKit

/-- What a call of it does, from place i on. -/
def TryDo (W : World) (z : Tb) (n o s : Nat) (al : Option Addr) (cl : Nat) (ls : List Sh) (i : Nat) : Prop :=
  ∀ (x : Int), x = (i : Int) → ∀ (pk : List Sh) (vp : Value) (w : World) (st : Vs), pk.length ≤ n → pk.Sublist (ls.take i) → OwnRow 2 (RAt W RShare) z.E w 33 W.heap.size vp pk → Since W.heap.size W w → TryC z n o s al ls.length cl w → TryB z w st →
    Calls Try.prog 49 #[.int .i64 x, vp, .pointer (some ⟨z.p, 0, none⟩), .pointer (some ⟨z.l, 0, none⟩), .pointer (some ⟨z.w, 0, none⟩), .pointer (some ⟨z.b, 0, none⟩), .pointer (some ⟨z.t, 0, none⟩)] w fun e w' =>
      e = .returned (.tuple #[]) ∧ Since W.heap.size W w' ∧ Dirty z.E w w' ∧ TryB z w' (tryN n (castV n o s ls) pk (ls.drop i) st)

theorem box_cell {w : World} {g : Nat} {v : Value} {T : TypeId} (h : w.heap[g]? = some (.cells #[v] T (0, 0))) : w.cell? ⟨g, 0, none⟩ = some v := by simp [World.cell?, h]
theorem box_free {w : World} {g : Nat} {v : Value} {T : TypeId} (h : w.heap[g]? = some (.cells #[v] T (0, 0))) : w.frozen? ⟨g, 0, none⟩ = false := by simp [World.frozen?, h]

set_option maxRecDepth 100000 in
set_option maxHeartbeats 4000000 in
theorem try_vote (W : World) (z : Tb) (hz : z.ok W.heap.size) (n o s : Nat) (al : Option Addr) (cl : Nat) (ls : List Sh) (hL : IsShares W (.slice al ls.length cl) ls) (hR : Right n o s ls) (i : Nat)
    (pk : List Sh) (vp : Value) (w : World) (st : Vs) (hpn : pk.length = n) (hpk : pk.Sublist (ls.take i)) (hp : OwnRow 2 (RAt W RShare) z.E w 33 W.heap.size vp pk) (hS : Since W.heap.size W w) (hC : TryC z n o s al ls.length cl w) (hB : TryB z w st) :
    Calls Try.prog 49 #[.int .i64 (i : Int), vp, .pointer (some ⟨z.p, 0, none⟩), .pointer (some ⟨z.l, 0, none⟩), .pointer (some ⟨z.w, 0, none⟩), .pointer (some ⟨z.b, 0, none⟩), .pointer (some ⟨z.t, 0, none⟩)] w fun e w' =>
      e = .returned (.tuple #[]) ∧ Since W.heap.size W w' ∧ Dirty z.E w w' ∧ TryB z w' (castV n o s ls pk st) := by
  have hRp := hR.sub (hpk.trans (List.take_sublist _ _)) (by omega)
  have HRP := Lib.hid hRp
  have HR := Lib.hid hR
  have HZ := Lib.hid hz
  have hq : ((pk.length : Int) == (n : Int)) = true := by simp [hpn]
  have HPS := Lib.hid (isShares_of_row (hp.isRow.ofAt RShare.stays (Dirty.old hS.below _)))
  have HLS := Lib.hid (shares_stays hL hS.below)
  obtain ⟨a, c, rfl, _⟩ := hp.isRow.opened
  have HC := Lib.hid hC
  have HB := Lib.hid hB
  have hll := hR.many
  obtain ⟨c0, c1, c2, c3, _⟩ := hC
  obtain ⟨aw, cw, ab, nb, cb, g1, _⟩ := hB
  have g3 := box_cell g1
  have HCV := Lib.hid (show castV n o s ls pk st = if joinE n o s pk ≠ 0 then st else if st.2.length < (idxF (ofD n (rowsN n s) (joinC n o s pk)) 0 ls).length then (joinC n o s pk, idxF (ofD n (rowsN n s) (joinC n o s pk)) 0 ls) else st from rfl)
  clear hRp hR hz hpn hpk hp hL g1
  go_enter Try.func49, Try.ntmps49
  go_upto_region 2 with (go_at_call 22; refine (Join_ok n o s _ pk _ HPS.out HRP.out HRP.out.check).mono ?_; rintro e w1 ⟨⟨v1, rfl, hi1⟩, hb1⟩)
  have q1 := (Since.refl w).step hb1
  have d0 := below_cell q1.below c0
  have d1 := below_cell q1.below c1
  have d2 := below_cell q1.below c2
  have d3 := below_cell q1.below c3
  have e3 := below_cell q1.below g3
  have HI1 := Lib.hid hi1
  obtain ⟨a1, k1, rfl, _⟩ := hi1.opened
  clear c0 c1 c2 c3 g3 hb1 hi1
  by_cases hj : joinE n o s pk = 0
  · have HJ := Lib.hid (join_split HRP.out hj)
    have HJ0 := Lib.hid hj
    rw [hj]
    clear hj
    generalize hD : joinC n o s pk = D at *
    have HD := Lib.hid hD
    clear hD
    go_upto_region 4 with (go_at_call 50; refine (fit_any n o s _ _ D ls _ HI1.out (shares_stays HLS.out q1.below) HJ.out HR.out.num hll).mono ?_; rintro e w2 ⟨⟨v2, rfl, ho2⟩, hb2⟩)
    have q2 := q1.step hb2
    have f3 := below_cell hb2 e3
    have HI2 := Lib.hid (HI1.out.stays hb2)
    have HO2 := Lib.hid ho2.isInts
    obtain ⟨a2, k2, rfl, _⟩ := ho2.isInts.opened
    clear d0 d1 d2 d3 e3 hb2 ho2
    generalize hF : idxF (ofD n (rowsN n s) D) 0 ls = F at *
    have HF := Lib.hid hF
    clear hF
    have HB2 := Lib.hid (HB.out.stays q2.below)
    have HCZ : Hid (castV n o s ls pk st = if st.2.length < F.length then (D, F) else st) := Lib.hid (by rw [HCV.out, if_neg (by simpa using HJ0.out)])
    by_cases hlt : st.2.length < F.length
    · obtain ⟨aw', cw', ab', nb', cb', k1', k2', _⟩ := HB2.out
      have m1 := box_free k1'
      have m2 := box_free k2'
      have m3 := box_cell k1'
      have m4 := box_cell k2'
      have hne : F ≠ [] := by intro e; subst e; simp at hlt
      have HV := Lib.hid (HB2.out.vote HZ.out HI2.out HO2.out hne)
      have HCY : Hid (castV n o s ls pk st = (D, F)) := Lib.hid (by rw [HCZ.out, if_pos hlt])
      have hgt : (st.2.length : Int) < (F.length : Int) := by omega
      have S4 := ((hS.step q2.below).setCell (a := ⟨z.b, 0, none⟩) HZ.out.2.2.2.2.2.2.2.2 (.slice a1 D.length k1)).setCell (a := ⟨z.w, 0, none⟩) HZ.out.2.2.2.2.2.2.2.1 (.slice a2 F.length k2)
      have m5 : (w2.setCell ⟨z.b, 0, none⟩ (.slice a1 D.length k1)).frozen? ⟨z.w, 0, none⟩ = false := (free_set_other _ _ _ _ HZ.out.2.2.2.2.2.2.1).trans m1
      have m6 : (w2.setCell ⟨z.b, 0, none⟩ (.slice a1 D.length k1)).cell? ⟨z.w, 0, none⟩ = _ := (cell_set_other _ _ _ _ HZ.out.2.2.2.2.2.2.1).trans m3
      clear k1' k2' hne hlt
      go_wp2_with fail
      refine bodyPost_ret (results_none rfl _ _ _) rfl ?_
      exact ⟨rfl, S4, (Dirty.old q2.below _).trans HV.out.2, by rw [HCY.out]; exact HV.out.1⟩
    · have HCY : Hid (castV n o s ls pk st = st) := Lib.hid (by rw [HCZ.out, if_neg hlt])
      have hgt : ¬ (st.2.length : Int) < (F.length : Int) := by omega
      clear hlt
      go_wp2_with fail
      refine bodyPost_ret (results_none rfl _ _ _) rfl ?_
      exact ⟨rfl, hS.step q2.below, Dirty.old q2.below _, by rw [HCY.out]; exact HB2.out⟩
  · have hne : (joinE n o s pk != 0) = true := by simpa using hj
    have HCY : Hid (castV n o s ls pk st = st) := Lib.hid (by rw [HCV.out, if_pos hj])
    clear hj
    go_wp2_with fail
    refine bodyPost_ret (results_none rfl _ _ _) rfl ?_
    exact ⟨rfl, hS.step q1.below, Dirty.old q1.below _, by rw [HCY.out]; exact HB.out.stays q1.below⟩

set_option maxRecDepth 100000 in
set_option maxHeartbeats 4000000 in
theorem try_loop (W : World) (z : Tb) (hz : z.ok W.heap.size) (n o s : Nat) (al : Option Addr) (cl : Nat) (ls : List Sh) (hL : IsShares W (.slice al ls.length cl) ls) (hR : Right n o s ls) (i : Nat) (hi : i ≤ ls.length)
    (IH : ∀ j, i < j → j ≤ ls.length → TryDo W z n o s al cl ls j)
    (pk : List Sh) (vp : Value) (w : World) (st : Vs) (hpn : pk.length < n) (hpk : pk.Sublist (ls.take i)) (hp : OwnRow 2 (RAt W RShare) z.E w 33 W.heap.size vp pk) (hS : Since W.heap.size W w) (hC : TryC z n o s al ls.length cl w) (hB : TryB z w st) :
    Calls Try.prog 49 #[.int .i64 (i : Int), vp, .pointer (some ⟨z.p, 0, none⟩), .pointer (some ⟨z.l, 0, none⟩), .pointer (some ⟨z.w, 0, none⟩), .pointer (some ⟨z.b, 0, none⟩), .pointer (some ⟨z.t, 0, none⟩)] w fun e w' =>
      e = .returned (.tuple #[]) ∧ Since W.heap.size W w' ∧ Dirty z.E w w' ∧ TryB z w' (tryL n (castV n o s ls) pk (ls.drop i) st) := by
  have hq : ((pk.length : Int) == (n : Int)) = false := by simp; omega
  have HQN := Lib.hid hpn
  have HPK := Lib.hid hpk
  have HZ := Lib.hid hz
  have HL := Lib.hid hL
  have HC := Lib.hid hC
  have HIH := Lib.hid IH
  have HR := Lib.hid hR
  have hll := hR.many
  obtain ⟨a, c, rfl, _⟩ := hp.isRow.opened
  have HP := Lib.hid hp
  have hpl : pk.length ≤ 8 := by have := hpk.length_le; simp at this; omega
  obtain ⟨c0, c1, c2, c3, c4⟩ := hC
  clear hpn hpk hz hL hR IH hp c1 c2
  go_enter Try.func49, Try.ntmps49
  go_wp2_with fail
  go_loopw [12] (fun x wr => ∃ k : Nat, ∃ st', i ≤ k ∧ k ≤ ls.length ∧ x = .int .i64 k ∧ Since W.heap.size W wr ∧ Dirty z.E w wr ∧ TryB z wr st' ∧ tryL n (castV n o s ls) pk (ls.drop k) st' = tryL n (castV n o s ls) pk (ls.drop i) st) (fun x _ => ls.length - (intOf x).toNat)
  case atStart => exact ⟨i, st, Nat.le_refl _, hi, rfl, hS, Dirty.refl _ _, hB, rfl⟩
  case round =>
    obtain ⟨k, st', hik, hk, rfl, hS', hD', hB', hQ⟩ := hrel
    have HQ := Lib.hid hQ
    have hC' := HC.out.dirty HZ.out hD'
    have HC' := Lib.hid hC'
    have HB' := Lib.hid hB'
    obtain ⟨_, _, _, d3, d4⟩ := hC'
    unfold Tb.caps at d4
    clear hQ hB' c0 c3 c4
    by_cases hlt : k < ls.length
    · have hx : ls[k]? = some ls[k] := List.getElem?_eq_getElem hlt
      obtain ⟨b, off, u, cu, rfl, k0, k1, hiv, hi1⟩ := shares_at HL.out hx
      have HDR := Lib.hid (drop_get hx)
      have HTK := Lib.hid (take_get hx)
      generalize ls[k] = t at *
      have e0 := below_cell hS'.below k0
      have e1 := below_cell hS'.below k1
      have HRT : Hid (RShare W [.int .i64 t.1, .slice u t.2.length cu] t) := Lib.hid ⟨_, rfl, hiv, hi1⟩
      have hp' := HP.out.later hD' (hB.off HP.out)
      have HO := Lib.hid (hp'.isRow.drew RAt.stays)
      have hbl := cell_lt k0
      have hbE : ¬ z.E b := fun h => by
        have h8 := HZ.out.2.2.2.2.2.2.2
        simp only at hbl
        rcases h with h | h <;> omega
      have HS : Hid (∀ w', Dirty z.E wr w' → w'.cell? ⟨z.t, 0, none⟩ = some (.func (.func 49) #[] #[.pointer (some ⟨z.p, 0, none⟩), .pointer (some ⟨z.l, 0, none⟩), .pointer (some ⟨z.w, 0, none⟩), .pointer (some ⟨z.b, 0, none⟩), .pointer (some ⟨z.t, 0, none⟩)]) ∧ w'.cell? ⟨z.l, 0, none⟩ = some (.slice (some ⟨b, off, none⟩) ls.length cl) ∧ w'.cell? ⟨b, off + k * 2, none⟩ = some (.int .i64 t.1) ∧ w'.cell? ⟨b, off + k * 2 + 1, none⟩ = some (.slice u t.2.length cu)) := Lib.hid (fun w' q => by
        obtain ⟨_, _, _, f3, f4⟩ := HC'.out.dirty HZ.out q
        unfold Tb.caps at f4
        exact ⟨f4, f3, q.cell e0 hbE, q.cell e1 hbE⟩)
      have r0 := (Since.refl wr).drew
      have s3 := HS.out wr.drew (Dirty.old r0.below _)
      have s4 := HS.out _ (Dirty.old (r0.alloc (.cells #[.int .i64 t.1, .slice u t.2.length cu] 33)).below _)
      have hWr := hS'.2
      have HWR : Hid (IntKind.i64.wrap ((k : Int) + 1) = ((k + 1 : Nat) : Int)) := Lib.hid (by rw [IntWalk.i64_in _ (by omega)]; omega)
      clear hx k0 k1 e0 e1 d4 hiv hp'
      go_upto_region 9 with fail
      clear d3
      go_region_held3 (fun w' => w'.cell? ⟨z.t, 0, none⟩ = some (.func (.func 49) #[] #[.pointer (some ⟨z.p, 0, none⟩), .pointer (some ⟨z.l, 0, none⟩), .pointer (some ⟨z.w, 0, none⟩), .pointer (some ⟨z.b, 0, none⟩), .pointer (some ⟨z.t, 0, none⟩)]) ∧ w'.cell? ⟨z.l, 0, none⟩ = some (.slice (some ⟨b, off, none⟩) ls.length cl) ∧ w'.cell? ⟨b, off + k * 2, none⟩ = some (.int .i64 t.1) ∧ w'.cell? ⟨b, off + k * 2 + 1, none⟩ = some (.slice u t.2.length cu)) (first | exact s3 | exact s4 | exact s5 | exact s7 | exact s6 | exact s8) (first
        | (go_simp; go_at_call 23; go_fit (CloneSharesR_any RAt.stays (RAt.one RShare.one) _ pk wr.drew wr.drew (Dirty.refl _ _) HO.out (by omega)); rintro e w5 ⟨⟨v5, rfl, ho5⟩, hb5⟩; have p5 := r0.step hb5; have s5 := HS.out w5 (Dirty.old p5.below _); have s7 := HS.out _ (Dirty.old (p5.alloc (.cells #[.int .i64 t.1, .slice u t.2.length cu] 33)).below _); have ho55 : OwnRow 2 (RAt W RShare) z.E w5 33 wr.heap.size v5 pk := (ho5.mono (by simp)).anyE; have fO := fresh_cellsT w5 [.int .i64 t.1, .slice u t.2.length cu] 33 _ rfl)
        | (go_simp; go_at_call 23; go_fit (CloneSharesR_any RAt.stays (RAt.one RShare.one) _ pk wr.drew (wr.drew.alloc (.cells #[.int .i64 t.1, .slice u t.2.length cu] 33)) (Dirty.old (below_alloc _ _) _) HO.out (by omega)); rintro e w5 ⟨⟨v5, rfl, ho5⟩, hb5⟩; have p5 := (r0.alloc (.cells #[.int .i64 t.1, .slice u t.2.length cu] 33)).step hb5; have s5 := HS.out w5 (Dirty.old p5.below _); have ho55 : OwnRow 2 (RAt W RShare) z.E w5 33 wr.heap.size v5 pk := (ho5.mono (by simp)).anyE; have fO : ∀ j u', ([.int .i64 t.1, .slice u t.2.length cu] : List Value)[j]? = some u' → w5.cell? ((⟨wr.heap.size, 0, none⟩ : Addr).add j) = some u' := (fun j u' h => below_cell hb5 (fresh_cellsT wr.drew [.int .i64 t.1, .slice u t.2.length cu] 33 _ rfl j u' h)))
        | (refine step_append_row rfl _ _ 25 rfl 2 z.E 33 Try.underlying25 _ 32 info_shareD rfl (by omega) (by omega) wr.heap.size v5 pk rfl (by first | exact ho55 | exact ho55.stays (below_alloc _ _)) _ _ [.int .i64 t.1, .slice u t.2.length cu] t rfl rfl (by intro x hx; simp at hx; rcases hx with rfl | rfl <;> rfl) fO (fun _ _ => HRT.out) (by omega) (by have := p5.2; first | omega | (simp; omega)) ?_; intro v6 w6 ho6 hg6 hat6; have p6 : Since wr.heap.size wr w6 := (by first | exact p5.row ho55 hg6 | exact (p5.alloc _).row (ho55.stays (below_alloc _ _)) hg6); have s6 := HS.out w6 (Dirty.old p6.below _))
        | (go_at_call 49; go_fit (HIH.out (k + 1) (by omega) (by omega) (IntKind.i64.wrap ((k : Int) + 1)) HWR.out (pk ++ [t]) _ w6 st' (by simp; have := HQN.out; omega) (by rw [HTK.out]; exact (HPK.out.trans (List.take_sublist_take_left hik)).append (List.Sublist.refl _)) (ho6.mono hWr) (hS'.step p6.below) (HC'.out.stays p6.below) (HB'.out.stays p6.below)); rintro e w7 ⟨rfl, hS7, hD7, hB7⟩; have s8 := HS.out w7 ((Dirty.old p6.below _).trans hD7)))
      all_goals
        have hD8 := hD'.trans ((Dirty.old p6.below _).trans hD7)
        have HB7 := Lib.hid hB7
        clear s3 s4 s5 s6 s8 fO ho55 ho5 ho6 hB7
        go_wp2_with fail
        go_roundw
        case rel => exact ⟨k + 1, _, by omega, by omega, by go_num, hS7, hD8, HB7.out, by rw [← HQ.out, HDR.out, tryL_cons]⟩
        case measure => simp [intOf]; omega
    · obtain rfl : ls.length = k := by omega
      have HE := Lib.hid (show tryL n (castV n o s ls) pk (ls.drop i) st = st' by rw [← HQ.out, List.drop_length]; rfl)
      go_wp2_with fail
      go_end0
      exact ⟨rfl, hS', hD', by rw [HE.out]; exact HB'.out⟩
end Go.Proofs.Ytnpdojjffbhalaa
