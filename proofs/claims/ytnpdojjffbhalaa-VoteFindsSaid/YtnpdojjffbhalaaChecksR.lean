/-
  The walk of the reference's CheckShares.
-/
import Derived.Test.YtnpdojjffbhalaaSplitsR
namespace Go.Proofs.Ytnpdojjffbhalaa
open Go.RowKit

theorem hasN_take {ls : List Sh} {k : Nat} {t : Sh} (h : ls[k]? = some t) (M : Int) : hasN (ls.take (k + 1)) M = (hasN (ls.take k) M || decide (t.1 = M)) := by
  rw [take_get h]
  simp [hasN]
/-- The table of the places seen. -/
def SeenAt (B : Nat) (l : List Sh) (w : World) : Prop := ∀ j : Nat, j < 8 → w.cell? ⟨B, j, none⟩ = some (.bool (hasN l (j : Int))) ∧ w.frozen? ⟨B, j, none⟩ = false
theorem SeenAt.below {B : Nat} {l : List Sh} {w w' : World} (h : SeenAt B l w) (hb : Below w.heap.size w w') : SeenAt B l w' := fun j hj => ⟨below_cell hb (h j hj).1, below_free hb (h j hj).1 (h j hj).2⟩
theorem SeenAt.set {B : Nat} {l l' : List Sh} {w : World} {N : Nat} (h : SeenAt B l w) (hN : N < 8) (hl : ∀ M : Int, hasN l' M = (hasN l M || decide ((N : Int) = M))) : SeenAt B l' (w.setCell ⟨B, N, none⟩ (.bool true)) := by
  intro j hj
  obtain ⟨h1, h2⟩ := h j hj
  obtain ⟨g1, g2⟩ := h N hN
  by_cases hjN : N = j
  · subst hjN
    refine ⟨?_, ?_⟩
    · rw [hl]
      simpa using World.cell?_setCell_same _ _ _ g1
    · go_simp
  · refine ⟨?_, ?_⟩
    · rw [hl, (World.cell?_setCell_other (a := ⟨B, N, none⟩) (b := ⟨B, j, none⟩) _ _ (by intro e; have : N = j := congrArg Addr.off e; exact hjN this)), h1]
      have : decide ((N : Int) = (j : Int)) = false := by simp; omega
      rw [this, Bool.or_false]
    · rw [World.frozen?_setCell]
      exact h2

set_option maxRecDepth 100000 in
set_option maxHeartbeats 1000000 in
theorem Checks_pre (n o s : Int) (v : Value) (ls : List Sh) (W : World) (hd : IsShares W v ls) (hE : planV n o s ≠ 0 ∨ planV n o s = 0 ∧ 8 < (ls.length : Int)) :
    Calls Try.prog 58 #[.agg #[.int .i64 n, .int .i64 o, .int .i64 s], v] W fun e w' => e = .returned (.int .i64 (checksL n o s ls)) ∧ Below W.heap.size W w' := by
  obtain ⟨a, c, rfl, _⟩ := hd.opened
  have S0 := (Since.refl W).alloc (.cells #[.int .i64 n, .int .i64 o, .int .i64 s] 23)
  clear hd
  rcases hE with h | ⟨h, h2⟩
  · have HE := Lib.hid (show checksL n o s ls = planV n o s by unfold checksL; rw [if_pos h])
    have hne : (planV n o s != 0) = true := by simpa using h
    clear h
    go_enter Try.func58, Try.ntmps58
    go_wp2_with fail
    refine (CheckPlan_any n o s _).mono ?_
    rintro e w1 ⟨rfl, hb1⟩
    have S1 := S0.step hb1
    go_wp2_with fail
    go_ret
    exact ⟨ret_int HE.out.symm, S1.below⟩
  · have HE := Lib.hid (show checksL n o s ls = 1 by unfold checksL; rw [if_neg (by simpa using h), if_pos h2])
    have HP := Lib.hid h
    clear h
    go_enter Try.func58, Try.ntmps58
    go_wp2_with fail
    refine (CheckPlan_any n o s _).mono ?_
    rintro e w1 ⟨rfl, hb1⟩
    rw [HP.out]
    have S1 := S0.step hb1
    go_wp2_with fail
    go_ret
    exact ⟨ret_int HE.out.symm, S1.below⟩

set_option maxRecDepth 100000 in
set_option maxHeartbeats 2000000 in
theorem Checks_main (n o s : Nat) (v : Value) (ls : List Sh) (W : World) (hd : IsShares W v ls) (hp : planV n o s = 0) (hl : ls.length ≤ 8) :
    Calls Try.prog 58 #[.agg #[.int .i64 n, .int .i64 o, .int .i64 s], v] W fun e w' => e = .returned (.int .i64 (checksL n o s ls)) ∧ Below W.heap.size W w' := by
  obtain ⟨p1, p2, p3, p4, p5, p6⟩ := planV_bd hp
  have HE := Lib.hid (show checksL n o s ls = if checkL n o s [] ls ≠ 0 then checkL n o s [] ls else if (ls.length : Int) < n then 7 else 0 by unfold checksL; rw [if_neg (by simpa using hp), if_neg (by omega)])
  have HP := Lib.hid hp
  clear hp
  have HD := Lib.hid hd
  obtain ⟨a, c, rfl, _⟩ := hd.opened
  clear hd
  have S0 := (Since.refl W).alloc (.cells #[.int .i64 n, .int .i64 o, .int .i64 s] 23)
  have c0 : (W.alloc (.cells #[.int .i64 n, .int .i64 o, .int .i64 s] 23)).cell? ⟨W.heap.size, 0, none⟩ = some (.int .i64 n) := by go_simp
  have c1 : (W.alloc (.cells #[.int .i64 n, .int .i64 o, .int .i64 s] 23)).cell? ⟨W.heap.size, 1, none⟩ = some (.int .i64 o) := by go_simp
  have c2 : (W.alloc (.cells #[.int .i64 n, .int .i64 o, .int .i64 s] 23)).cell? ⟨W.heap.size, 2, none⟩ = some (.int .i64 s) := by go_simp
  go_enter Try.func58, Try.ntmps58
  go_upto_region 1 with fail
  generalize W.alloc (.cells #[.int .i64 n, .int .i64 o, .int .i64 s] 23) = w0 at *
  obtain ⟨B, hB⟩ : ∃ B, B = W.heap.size := ⟨_, rfl⟩
  rw [← hB] at c0 c1 c2 ⊢
  clear hB
  have l0 := cell_lt c0
  have HC : Hid (∀ w', Since w0.heap.size w0 w' → (w'.cell? ⟨B, 0, none⟩ = some (.int .i64 n) ∧ w'.cell? ⟨B, 1, none⟩ = some (.int .i64 o) ∧ w'.cell? ⟨B, 2, none⟩ = some (.int .i64 s))) := Lib.hid (fun w' q => ⟨(q.below.cell (p := ⟨B, 0, none⟩) l0).trans c0, (q.below.cell (p := ⟨B, 1, none⟩) l0).trans c1, (q.below.cell (p := ⟨B, 2, none⟩) l0).trans c2⟩)
  have HDS : Hid (∀ w', Since w0.heap.size w0 w' → IsShares w' (.slice a ls.length c) ls) := Lib.hid (fun w' q => shares_stays HD.out (S0.step q.below).below)
  go_wp2_with fail
  refine (CheckPlan_any n o s _).mono ?_
  rintro e w1 ⟨rfl, hb1⟩
  rw [HP.out]
  have T1 := (Since.refl w0).step hb1
  clear hb1 c0 c1 c2
  go_upto_region 7 with fail
  have hs0 : SeenAt w1.heap.size [] (w1.alloc (.cells #[.bool false, .bool false, .bool false, .bool false, .bool false, .bool false, .bool false, .bool false] 121)) := by
    intro j hj
    rcases (by omega : j = 0 ∨ j = 1 ∨ j = 2 ∨ j = 3 ∨ j = 4 ∨ j = 5 ∨ j = 6 ∨ j = 7) with rfl | rfl | rfl | rfl | rfl | rfl | rfl | rfl <;> exact ⟨by simp [hasN], by go_simp⟩
  have T2 := T1.alloc (.cells #[.bool false, .bool false, .bool false, .bool false, .bool false, .bool false, .bool false, .bool false] 121)
  have hsz := T1.2
  generalize w1.alloc (.cells #[.bool false, .bool false, .bool false, .bool false, .bool false, .bool false, .bool false, .bool false] 121) = w2 at *
  obtain ⟨B6, hB6⟩ : ∃ B, B = w1.heap.size := ⟨_, rfl⟩
  rw [← hB6] at hs0 ⊢
  have hBB : w0.heap.size ≤ B6 := by omega
  clear hB6 hsz
  go_wp2_with fail
  go_loopw [20] (fun i wr => ∃ k : Nat, k ≤ ls.length ∧ i = .int .i64 k ∧ Since w0.heap.size w0 wr ∧ SeenAt B6 (ls.take k) wr ∧ checkL n o s (ls.take k) (ls.drop k) = checkL n o s [] ls) (fun i _ => ls.length - (intOf i).toNat)
  case atStart => exact ⟨0, by omega, rfl, T2, by simpa using hs0, by simp⟩
  case round =>
    obtain ⟨k, hk, rfl, hS, hsn, hq⟩ := hrel
    have HQ := Lib.hid hq
    clear hq hs0
    by_cases hlt : k < ls.length
    · have hx : ls[k]? = some ls[k] := List.getElem?_eq_getElem hlt
      obtain ⟨g, off, u, cu, rfl, k0, k1, hiv, hi1⟩ := shares_at (HDS.out wr hS) hx
      have HDR := Lib.hid (drop_get hx)
      have HTK := Lib.hid (hasN_take hx)
      have HT2 := Lib.hid (take_get hx)
      generalize ls[k] = t at *
      have S1 := hS.alloc (.cells #[.int .i64 t.1, .slice u t.2.length cu] 33)
      have hiv1 := hiv.stays (below_alloc wr (.cells #[.int .i64 t.1, .slice u t.2.length cu] 33))
      have hsn1 := hsn.below (below_alloc wr (.cells #[.int .i64 t.1, .slice u t.2.length cu] 33))
      have q0 : (wr.alloc (.cells #[.int .i64 t.1, .slice u t.2.length cu] 33)).cell? ⟨wr.heap.size, 0, none⟩ = some (.int .i64 t.1) := by go_simp
      obtain ⟨d0, d1, d2⟩ := HC.out _ hS
      have ld := cell_lt d0
      clear hx hiv hsn
      go_wp2_with fail
      refine (CheckShare_any n o s t.1 _ t.2 _ hiv1).mono ?_
      rintro e w3 ⟨rfl, hb3⟩
      have S3 := S1.step hb3
      have hsn3 := hsn1.below hb3
      have q3 := below_cell hb3 q0
      obtain ⟨Bt, hBt⟩ : ∃ Bt, Bt = wr.heap.size := ⟨_, rfl⟩
      rw [← hBt] at q3 ⊢
      clear k0 k1 d0 d1 d2 ld hb3 hiv1 hsn1 q0 hBt hS S1
      by_cases h1 : oneV n o s t.1 t.2 = 0
      · obtain ⟨g1, g2, _, _⟩ := oneV_ok h1
        have H1 := Lib.hid h1
        rw [h1]
        clear h1
        obtain ⟨m, hm⟩ := Int.eq_ofNat_of_zero_le g1
        have hm8 : m < 8 := by omega
        obtain ⟨e1, e2⟩ := hsn3 m hm8
        have HM := Lib.hid hm
        rw [hm] at q3
        have y1 : (m : Int) < 8 := by omega
        have y2 : (0 : Int) ≤ (m : Int) := by omega
        cases hh : hasN (ls.take k) (m : Int) with
        | true =>
          rw [hh] at e1
          have HV := Lib.hid (show checkL n o s [] ls = 5 by rw [← HQ.out, HDR.out]; unfold checkL; rw [if_neg (by simpa using H1.out), if_pos (by rw [HM.out]; exact hh)])
          clear hh hm
          go_wp2_with fail
          go_ret
          exact ⟨ret_int (by rw [HE.out, HV.out]; rfl), (S0.step S3.below).below⟩
        | false =>
          rw [hh] at e1
          have HV := Lib.hid (show checkL n o s (ls.take (k + 1)) (ls.drop (k + 1)) = checkL n o s [] ls by
            rw [← HQ.out, HDR.out]
            conv => rhs; unfold checkL
            rw [if_neg (by simpa using H1.out), if_neg (by rw [HM.out]; simp [hh])]
            rw [HT2.out])
          have hsn4 := hsn3.set (N := m) (l' := ls.take (k + 1)) hm8 (fun M => by rw [HTK.out M, HM.out])
          have S4 := S3.setCell (a := ⟨B6, m, none⟩) hBB (.bool true)
          have HSN := Lib.hid hsn4
          clear hh hm hsn3 hsn4
          go_wp2_with fail
          go_roundw
          case rel => exact ⟨k + 1, by omega, by go_num, S4, HSN.out, HV.out⟩
          case measure => simp [intOf]; omega
      · have HV := Lib.hid (show checkL n o s [] ls = oneV n o s t.1 t.2 by rw [← HQ.out, HDR.out]; unfold checkL; rw [if_pos h1])
        have H1 := Lib.hid h1
        have hne : (oneV n o s t.1 t.2 != 0) = true := by simpa using h1
        clear h1 q3
        go_wp2_with fail
        go_ret
        exact ⟨ret_int (by rw [HE.out, HV.out, if_pos H1.out]), (S0.step S3.below).below⟩
    · obtain rfl : ls.length = k := by omega
      have hv0 : checkL n o s [] ls = 0 := by rw [← HQ.out, List.drop_length]; rfl
      have HV := Lib.hid hv0
      obtain ⟨d0, d1, d2⟩ := HC.out _ hS
      clear hv0
      by_cases hf : (ls.length : Int) < n
      · have HF := Lib.hid hf
        go_wp2_with fail
        go_ret
        exact ⟨ret_int (by rw [HE.out, HV.out, if_neg (by simp), if_pos HF.out]), (S0.step hS.below).below⟩
      · have HF := Lib.hid hf
        go_wp2_with fail
        go_ret
        exact ⟨ret_int (by rw [HE.out, HV.out, if_neg (by simp), if_neg (by have := HF.out; omega)]), (S0.step hS.below).below⟩

theorem Checks_any (n o s : Int) (v : Value) (ls : List Sh) (W : World) (hd : IsShares W v ls) :
    Calls Try.prog 58 #[.agg #[.int .i64 n, .int .i64 o, .int .i64 s], v] W fun e w' => e = .returned (.int .i64 (checksL n o s ls)) ∧ Below W.heap.size W w' := by
  by_cases h : planV n o s = 0
  · by_cases hl : 8 < (ls.length : Int)
    · exact Checks_pre n o s v ls W hd (Or.inr ⟨h, hl⟩)
    · obtain ⟨n, o, s, rfl, rfl, rfl⟩ := plan_nat h
      exact Checks_main n o s v ls W hd h (by omega)
  · exact Checks_pre n o s v ls W hd (Or.inl h)

end Go.Proofs.Ytnpdojjffbhalaa
