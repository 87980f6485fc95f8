/-
  The walk of the reference's Splits.
-/
import Derived.Test.YtlaabmpadikkjaaShareOf
namespace Go.Proofs.Ytlaabmpadikkjaa
open Go.RowKit

theorem sharesL_step (n : Nat) (data : List Int) (k r : Nat) : sharesL n data (k + 1) r = sharesL n data k r ++ [shareL n data r k] := by simp [sharesL, List.range_succ]

set_option maxRecDepth 100000 in
set_option maxHeartbeats 1000000 in
theorem Splits_pre (n o s : Int) (v : Value) (data : List Int) (W : World) (hd : IsInts W v data) (hE : planV n o s ≠ 0 ∨ planV n o s = 0 ∧ (data.length : Int) ≠ s) :
    Calls Try.prog 19 #[.agg #[.int .i64 n, .int .i64 o, .int .i64 s], v] W fun e w' => e = .returned (.tuple #[.slice none 0 0, .int .i64 (splitE n o s data)]) ∧ Below W.heap.size W w' := by
  obtain ⟨a, c, rfl, _⟩ := hd.opened
  have S0 := (Since.refl W).alloc (.cells #[.int .i64 n, .int .i64 o, .int .i64 s] 23)
  have c2 : (W.alloc (.cells #[.int .i64 n, .int .i64 o, .int .i64 s] 23)).cell? ⟨W.heap.size, 2, none⟩ = some (.int .i64 s) := by go_simp
  clear hd
  rcases hE with h | ⟨h, h2⟩
  · have HE := Lib.hid (show splitE n o s data = planV n o s by unfold splitE; rw [if_pos h])
    have hne : (planV n o s != 0) = true := by simpa using h
    clear h
    go_enter Try.func19, Try.ntmps19
    go_wp2_with fail
    refine (CheckPlan_any n o s _).mono ?_
    rintro e w1 ⟨rfl, hb1⟩
    have S1 := S0.step hb1
    clear c2
    go_wp2_with fail
    go_ret2
    exact ⟨ret_nilE HE.out.symm, S1.below⟩
  · have HE := Lib.hid (show splitE n o s data = 3 by unfold splitE; rw [if_neg (by simpa using h), if_pos h2])
    have hne : ((data.length : Int) != s) = true := by simpa using h2
    have HP := Lib.hid h
    clear h h2
    go_enter Try.func19, Try.ntmps19
    go_wp2_with fail
    refine (CheckPlan_any n o s _).mono ?_
    rintro e w1 ⟨rfl, hb1⟩
    rw [HP.out]
    have S1 := S0.step hb1
    have d2 := (hb1.cell (p := ⟨W.heap.size, 2, none⟩) (cell_lt c2)).trans c2
    clear c2
    go_wp2_with fail
    go_ret2
    exact ⟨ret_nilE HE.out.symm, S1.below⟩

set_option maxRecDepth 100000 in
set_option maxHeartbeats 2000000 in
theorem Splits_len (n o s : Nat) (v : Value) (data : List Int) (W : World) (hd : IsInts W v data) (hp : planV n o s = 0) (hl : data.length = s) :
    Calls Try.prog 19 #[.agg #[.int .i64 n, .int .i64 o, .int .i64 s], v] W fun e w' => (∃ v', e = .returned (.tuple #[v', .int .i64 (splitE n o s data)]) ∧ IsShares w' v' (splitL n o s data)) ∧ Below W.heap.size W w' := by
  obtain ⟨p1, p2, p3, p4, p5, p6⟩ := planV_bd hp
  have HE := Lib.hid (show splitE n o s data = allV data by unfold splitE; rw [if_neg (by simpa using hp), if_neg (by omega)])
  have HP := Lib.hid hp
  have hne : ((data.length : Int) != (s : Int)) = false := bne_eq_false_iff_eq.2 (by omega)
  have h24 : data.length ≤ 24 := by omega
  have HL := Lib.hid hl
  clear hp hl
  have HD := Lib.hid hd
  obtain ⟨a, c, rfl, _⟩ := hd.opened
  clear hd
  have S0 := (Since.refl W).alloc (.cells #[.int .i64 n, .int .i64 o, .int .i64 s] 23)
  have c0 : (W.alloc (.cells #[.int .i64 n, .int .i64 o, .int .i64 s] 23)).cell? ⟨W.heap.size, 0, none⟩ = some (.int .i64 n) := by go_simp
  have c1 : (W.alloc (.cells #[.int .i64 n, .int .i64 o, .int .i64 s] 23)).cell? ⟨W.heap.size, 1, none⟩ = some (.int .i64 o) := by go_simp
  have c2 : (W.alloc (.cells #[.int .i64 n, .int .i64 o, .int .i64 s] 23)).cell? ⟨W.heap.size, 2, none⟩ = some (.int .i64 s) := by go_simp
  go_enter Try.func19, Try.ntmps19
  go_upto_region 1 with fail
  generalize W.alloc (.cells #[.int .i64 n, .int .i64 o, .int .i64 s] 23) = w0 at *
  obtain ⟨B, hB⟩ : ∃ B, B = W.heap.size := ⟨_, rfl⟩
  rw [← hB] at c0 c1 c2 ⊢
  clear hB
  have l0 := cell_lt c0
  have HC : Hid (∀ w', Since w0.heap.size w0 w' → (w'.cell? ⟨B, 0, none⟩ = some (.int .i64 n) ∧ w'.cell? ⟨B, 1, none⟩ = some (.int .i64 o) ∧ w'.cell? ⟨B, 2, none⟩ = some (.int .i64 s))) := Lib.hid (fun w' q => ⟨(q.below.cell (p := ⟨B, 0, none⟩) l0).trans c0, (q.below.cell (p := ⟨B, 1, none⟩) l0).trans c1, (q.below.cell (p := ⟨B, 2, none⟩) l0).trans c2⟩)
  have HDS : Hid (∀ w', Since w0.heap.size w0 w' → IsInts w' (.slice a data.length c) data) := Lib.hid (fun w' q => HD.out.stays (S0.step q.below).below)
  go_wp2_with fail
  refine (CheckPlan_any n o s _).mono ?_
  rintro e w1 ⟨rfl, hb1⟩
  rw [HP.out]
  have T1 := (Since.refl w0).step hb1
  obtain ⟨d0, d1, d2⟩ := HC.out _ T1
  clear hb1 c0 c1 c2
  go_wp2_with fail
  clear d0 d1 d2
  go_loopw [23] (fun i wr => ∃ k : Nat, k ≤ data.length ∧ i = .int .i64 k ∧ Since w0.heap.size w0 wr ∧ allV (data.drop k) = allV data) (fun i _ => data.length - (intOf i).toNat)
  case atStart => exact ⟨0, by omega, rfl, T1, rfl⟩
  case round =>
    obtain ⟨k, hk, rfl, hS, hq⟩ := hrel
    have HQ := Lib.hid hq
    clear hq
    by_cases hlt : k < data.length
    · have hz : data[k]? = some data[k] := List.getElem?_eq_getElem hlt
      obtain ⟨b1, o1, e1, q1, hiz⟩ := ints_at (HDS.out wr hS) hz
      subst e1
      have HDR := Lib.hid (drop_get hz)
      generalize data[k] = z at *
      clear hz
      go_wp2_with fail
      refine (IsNumber_any z _).mono ?_
      rintro e w' ⟨rfl, rfl⟩
      by_cases hnz : 0 ≤ z ∧ z < 31
      · have hnn := isNum_true (a := z) hnz.1 hnz.2
        have HV := Lib.hid (show allV (data.drop (k + 1)) = allV data by rw [← HQ.out, HDR.out]; simp [allV, numOk_iff.2 hnz])
        rw [hnn]
        clear hnn hnz q1
        go_wp2_with fail
        go_roundw
        case rel => exact ⟨k + 1, by omega, by go_num, hS, HV.out⟩
        case measure => simp [intOf]; omega
      · have hnn := isNum_false (a := z) (by omega)
        have HV := Lib.hid (show allV data = 2 by rw [← HQ.out, HDR.out]; simp [allV, numOk_no.2 (show z < 0 ∨ 31 ≤ z by omega)])
        rw [hnn]
        clear hnn q1
        go_wp2_with fail
        go_ret2
        exact ⟨⟨_, ret_nilE (by rw [HE.out, HV.out]), by rw [splitL_no (by rw [HE.out, HV.out]; omega)]; exact IsShares.nil _⟩, (S0.step hS.below).below⟩
    · obtain rfl : data.length = k := by omega
      have hv0 : allV data = 0 := by rw [← HQ.out, List.drop_length]; rfl
      have HV := Lib.hid hv0
      have hnum := (allV_ok data).1 hv0
      have HN := Lib.hid hnum
      obtain ⟨d0, d1, d2⟩ := HC.out _ hS
      have S2 := S0.step hS.below
      have T2 := hS
      clear hv0 hnum hS
      go_wp2_with fail
      clear d0 d1 d2
      go_loopw [33, 9] (fun i t wr => ∃ k : Nat, k ≤ o ∧ i = .int .i64 k ∧ Since w0.heap.size w0 wr ∧ OwnRow 2 RShare (fun _ => False) wr 32 w0.heap.size t (sharesL n data k (rowsN n s))) (fun i _ _ => o - (intOf i).toNat)
      case atStart => exact ⟨0, by omega, rfl, T2, by simpa [sharesL] using OwnRow.nil _ _ _⟩
      case round =>
        obtain ⟨k, hk, rfl, hS, ho⟩ := hrel
        by_cases hlt : k < o
        · obtain ⟨d0, d1, d2⟩ := HC.out _ hS
          have HST := Lib.hid (sharesL_step n data k (rowsN n s))
          have hll : (sharesL n data k (rowsN n s)).length ≤ 8 := by rw [sharesL_len]; omega
          obtain ⟨at_, ct, rfl, _⟩ := ho.isRow.opened
          have HO := Lib.hid ho
          clear ho
          go_wp2_with fail
          refine (ShareOf_any n o s _ data k _ (HDS.out wr hS) HP.out HN.out (by omega)).mono ?_
          rintro e w3 ⟨⟨v3, rfl, ho3⟩, hb3⟩
          have S3 := hS.step hb3
          have hbl := ho3.1.lt
          obtain ⟨a3, c3, rfl, _⟩ := ho3.isInts.opened
          rw [shareL_len] at ho3 hbl ⊢
          have hkN : (shareL n data (rowsN n s) k).1 = (k : Int) := rfl
          have HO3 := Lib.hid (HO.out.stays hb3)
          have HFR : Hid (Framed (fun q => (Value.slice at_ (sharesL n data k (rowsN n s)).length ct).ownBlock = some q ∨ (fun _ => False) q) RShare (w3.alloc (.cells #[.int .i64 (k : Int), .slice a3 (rowsN n s) c3] 32)) [.int .i64 (k : Int), .slice a3 (rowsN n s) c3] (shareL n data (rowsN n s) k)) := Lib.hid (fun w' hw' => ⟨_, rfl, (ho3.isInts.stays (below_alloc _ _)).framed (fun q hq _ => by
            have h1 := (ho3.lies q hq).1
            rintro (h | h)
            · have h2 := (HO.out.lt q h).2
              omega
            · exact h) hw', by omega, by omega⟩)
          have hgs := S3.2
          clear d0 d1 d2 ho3 hb3 hS
          go_wp2_with (at_builtin; refine wpList_append_row rfl _ _ 25 rfl 2 (fun _ => False) 32 Try.underlying25 _ 32 info_shareD rfl (by omega) (by omega) w0.heap.size _ (sharesL n data k (rowsN n s)) rfl (HO3.out.stays (below_alloc _ _)) ⟨w3.heap.size, 0, none⟩ 1 [.int .i64 (k : Int), .slice a3 (rowsN n s) c3] (shareL n data (rowsN n s) k) rfl rfl (by intro w hw; simp at hw; rcases hw with rfl | rfl <;> rfl) (fresh_cellsQ w3 [.int .i64 (k : Int), .slice a3 (rowsN n s) c3] 32 _ rfl) HFR.out (by omega) (by simp; omega) ?_; intro v6 w6 ho6 hg6 hat6)
          have S6 := (S3.alloc (.cells #[.int .i64 (k : Int), .slice a3 (rowsN n s) c3] 32)).row (HO3.out.stays (below_alloc _ _)) hg6
          have HO6 := Lib.hid ho6
          clear ho6 hg6 hat6
          go_roundw
          case rel => exact ⟨k + 1, by omega, by go_num, S6, by rw [HST.out]; exact HO6.out⟩
          case measure => simp [intOf]; omega
        · obtain rfl : k = o := by omega
          have HO := Lib.hid ho
          obtain ⟨d0, d1, d2⟩ := HC.out _ hS
          clear ho
          go_wp2_with fail
          go_ret2
          exact ⟨⟨_, ret_nilE (by rw [HE.out, HV.out]), by rw [splitL_ok (by rw [HE.out, HV.out])]; exact isShares_of_row HO.out.isRow⟩, (S0.step hS.below).below⟩

theorem Splits_any (n o s : Int) (v : Value) (data : List Int) (W : World) (hd : IsInts W v data) :
    Calls Try.prog 19 #[.agg #[.int .i64 n, .int .i64 o, .int .i64 s], v] W fun e w' => (∃ v', e = .returned (.tuple #[v', .int .i64 (splitE n o s data)]) ∧ IsShares w' v' (splitL n o s data)) ∧ Below W.heap.size W w' := by
  by_cases h : planV n o s = 0
  · by_cases hl : (data.length : Int) = s
    · obtain ⟨n, o, s, rfl, rfl, rfl⟩ := plan_nat h
      exact Splits_len n o s v data W hd h (by omega)
    · exact (Splits_pre n o s v data W hd (Or.inr ⟨h, hl⟩)).mono fun e w' ⟨he, hb⟩ => ⟨⟨_, he, by rw [splitL_no (by unfold splitE; rw [if_neg (by simpa using h), if_pos hl]; omega)]; exact IsShares.nil _⟩, hb⟩
  · exact (Splits_pre n o s v data W hd (Or.inl h)).mono fun e w' ⟨he, hb⟩ => ⟨⟨_, he, by rw [splitL_no (by unfold splitE; rw [if_pos h]; exact h)]; exact IsShares.nil _⟩, hb⟩

end Go.Proofs.Ytlaabmpadikkjaa
