/-
  The walk of VoteMost.
-/
import Derived.Test.YtnpdojjffbhalaaMostLaw
import Derived.Test.YtnpdojjffbhalaaVoted
import Derived.Test.YtnpdojjffbhalaaPicked
namespace Go.Proofs.Ytnpdojjffbhalaa
open Go.RowKit

set_option maxRecDepth 100000 in
set_option maxHeartbeats 4000000 in
theorem voteMost_no (n o s : Int) (v u : Value) (ls : List Sh) (order : List Int) (W : World) (hd : IsShares W v ls) (hu : IsInts W u order) (hE : mostE n o s ls ≠ 0) :
    Calls Try.prog 4 #[.agg #[.int .i64 n, .int .i64 o, .int .i64 s], v, u] W fun e w' => e = .returned (.bool true) ∧ Below W.heap.size W w' := by
  obtain ⟨a, c, rfl, _⟩ := hd.opened
  obtain ⟨a', c', rfl, _⟩ := hu.opened
  have hne : (mostE n o s ls != 0) = true := by simpa using hE
  have S0 := (Since.refl W).alloc (.cells #[.int .i64 n, .int .i64 o, .int .i64 s] 23)
  have hd0 := shares_stays hd S0.below
  clear hd hu hE
  go_enter Try.func4, Try.ntmps4
  go_upto_region 2 with (go_at_call 19; go_fit (Most_any n o s _ ls _ hd0); rintro e w1 ⟨⟨vb, vw, rfl, hb, hw⟩, hb1⟩)
  have S1 := S0.step hb1
  clear hb1 hd0 S0
  go_wp2_with fail
  refine (voted_any _).mono ?_
  rintro e w2 ⟨rfl, hb2⟩
  have S2 := S1.step hb2
  clear hb2 S1
  go_wp2_with fail
  refine (voted_any _).mono ?_
  rintro e w3 ⟨rfl, hb3⟩
  have S3 := S2.step hb3
  clear hb3 S2
  go_wp2_with fail
  go_ret
  exact ⟨rfl, S3.below⟩

set_option maxRecDepth 100000 in
set_option maxHeartbeats 4000000 in
theorem voteMost_ok (n o s : Nat) (v u : Value) (ls : List Sh) (order : List Int) (W : World) (hd : IsShares W v ls) (hu : IsInts W u order) (hR : Right n o s ls) (hE : mostE n o s ls = 0) :
    Calls Try.prog 4 #[.agg #[.int .i64 n, .int .i64 o, .int .i64 s], v, u] W fun e w' => e = .returned (.bool true) ∧ Below W.heap.size W w' := by
  have HR := Lib.hid hR
  have HE := Lib.hid hE
  have HDT := Lib.hid (most_data hR hE)
  have HSL := Lib.hid (splitL_ok (most_data hR hE))
  have hmany := hR.many
  have hfew := hR.few
  have HMEM : Hid (∀ t ∈ ls, memB t.1 (mostW n o s ls) = !ofD n (rowsN n s) (mostB n o s ls) t) := Lib.hid (fun t ht => most_mem hR hE ht)
  have HJ1 : Hid (joinE n o s ls = 0 → mostB n o s ls = joinC n o s ls ∧ mostW n o s ls = []) := Lib.hid (fun h => (most_join hR h).2)
  have HJ2 : Hid (mostW n o s ls = [] → joinE n o s ls = 0) := Lib.hid (join_most hR hE)
  have HTOP : Hid (∀ ps rest : List Sh, (ps ++ rest).Perm ls → ps.length = n → Right n o s ps → joinE n o s ps = 0 → ls.countP (ofD n (rowsN n s) (joinC n o s ps)) + (mostW n o s ls).length ≤ ls.length) := Lib.hid (fun ps rest h1 h2 h3 h4 => most_top hR hE h1 h2 h3 h4)
  have hn1 := (planV_bd hR.plan).1
  have hn1' : 1 ≤ n := by omega
  have hfew' := hR.few
  obtain ⟨a, c, rfl, _⟩ := hd.opened
  obtain ⟨a', c', rfl, _⟩ := hu.opened
  have S0 := (Since.refl W).alloc (.cells #[.int .i64 n, .int .i64 o, .int .i64 s] 23)
  have hd0 := shares_stays hd S0.below
  have HU0 := Lib.hid (hu.stays S0.below)
  have c0 : (W.alloc (.cells #[.int .i64 n, .int .i64 o, .int .i64 s] 23)).cell? ⟨W.heap.size, 0, none⟩ = some (.int .i64 n) := by go_simp
  have c1 : (W.alloc (.cells #[.int .i64 n, .int .i64 o, .int .i64 s] 23)).cell? ⟨W.heap.size, 1, none⟩ = some (.int .i64 o) := by go_simp
  have c2 : (W.alloc (.cells #[.int .i64 n, .int .i64 o, .int .i64 s] 23)).cell? ⟨W.heap.size, 2, none⟩ = some (.int .i64 s) := by go_simp
  clear hd hu hE hR
  go_enter Try.func4, Try.ntmps4
  go_upto_region 1 with fail
  generalize W.alloc (.cells #[.int .i64 n, .int .i64 o, .int .i64 s] 23) = w0 at *
  obtain ⟨B, hB⟩ : ∃ B, B = W.heap.size := ⟨_, rfl⟩
  rw [← hB] at c0 c1 c2 ⊢
  clear hB
  have HC : Hid (∀ w', Since w0.heap.size w0 w' → w'.cell? ⟨B, 0, none⟩ = some (.int .i64 n) ∧ w'.cell? ⟨B, 1, none⟩ = some (.int .i64 o) ∧ w'.cell? ⟨B, 2, none⟩ = some (.int .i64 s)) := Lib.hid (fun w' q => ⟨below_cell q.below c0, below_cell q.below c1, below_cell q.below c2⟩)
  have HLS : Hid (∀ w', Since w0.heap.size w0 w' → IsShares w' (.slice a ls.length c) ls) := Lib.hid (fun w' q => shares_stays hd0 q.below)
  have HUS : Hid (∀ w', Since w0.heap.size w0 w' → IsInts w' (.slice a' order.length c') order) := Lib.hid (fun w' q => HU0.out.stays q.below)
  go_upto_region 2 with (go_at_call 19; go_fit (Most_any n o s _ ls _ hd0); rintro e w1 ⟨⟨vb, vw, rfl, hb, hw⟩, hb1⟩; rw [HE.out])
  have T1 := (Since.refl w0).step hb1
  have HB1 := Lib.hid hb
  have HW1 := Lib.hid hw
  obtain ⟨ab, cb, rfl, _⟩ := hb.opened
  obtain ⟨aw, cw, rfl, _⟩ := hw.opened
  generalize hD : mostB n o s ls = D at *
  generalize hBW : mostW n o s ls = BW at *
  clear c0 c1 c2 hb1 hd0 hb hw
  go_wp2_with fail
  refine (voted_any _).mono ?_
  rintro e w2 ⟨rfl, hb2⟩
  have T2 := T1.step hb2
  have HB2 := Lib.hid (HB1.out.stays hb2)
  have HW2 := Lib.hid (HW1.out.stays hb2)
  obtain ⟨d0, d1, d2⟩ := HC.out _ T2
  clear hb2
  go_upto_region 5 with (go_at_call 13; go_fit (Split_any n o s _ D _ HB2.out); rintro e w3 ⟨⟨v3, rfl, h3⟩, hb3⟩; rw [HDT.out])
  have T3 := T2.step hb3
  have HB3 := Lib.hid (HB2.out.stays hb3)
  have HW3 := Lib.hid (HW2.out.stays hb3)
  rw [HSL.out] at h3
  have HI3 := Lib.hid h3
  obtain ⟨a3, k3, rfl, _⟩ := h3.opened
  have HSN := Lib.hid (sharesL_len n D o (rowsN n s))
  generalize hSS : sharesL n D o (rowsN n s) = SS at *
  have HSS := Lib.hid hSS
  clear hSS d0 d1 d2 hb3 h3 HSL
  go_wp2_with fail
  go_loopw [45] (fun i wr => ∃ k : Nat, k ≤ ls.length ∧ i = .int .i64 k ∧ Since w3.heap.size w3 wr) (fun i _ => ls.length - (intOf i).toNat)
  case atStart => exact ⟨0, by omega, rfl, Since.refl w3⟩
  case round =>
    obtain ⟨k, hk, rfl, hS⟩ := hrel
    by_cases hlt : k < ls.length
    · have hx : ls[k]? = some ls[k] := List.getElem?_eq_getElem hlt
      obtain ⟨g, off, ut, cu, rfl, k0, k1, hiv, hi1⟩ := shares_at (HLS.out wr (T3.step hS.below)) hx
      have hnum := HR.out.num _ (List.mem_of_getElem? hx)
      have HM := Lib.hid (HMEM.out _ (List.mem_of_getElem? hx))
      generalize ls[k] = t at *
      obtain ⟨m, hm⟩ := Int.eq_ofNat_of_zero_le hnum.1
      have hmo : m < o := by omega
      have HM1 := Lib.hid hm
      have HIM := Lib.hid hi1
      rw [hm] at k0
      have hsh : SS[m]? = some (shareL n D (rowsN n s) m) := by rw [← HSS.out]; exact sharesL_get n D (rowsN n s) hmo
      obtain ⟨g1, off1, u1, cu1, rfl, q0, q1, hiv1, _⟩ := shares_at (shares_stays HI3.out hS.below) hsh
      have hSSl : m < SS.length := by rw [HSN.out]; exact hmo
      have S2 := hS.alloc (.cells #[.int .i64 (m : Int), .slice ut t.2.length cu] 33)
      have hA := below_alloc wr (.cells #[.int .i64 (m : Int), .slice ut t.2.length cu] 33)
      have HIV := Lib.hid (hiv.stays hA)
      have HIV1 := Lib.hid (hiv1.stays hA)
      have e0 := below_cell hA q0
      have e1 := below_cell hA q1
      have f0 : (wr.alloc (.cells #[.int .i64 (m : Int), .slice ut t.2.length cu] 33)).cell? ⟨wr.heap.size, 0, none⟩ = some (.int .i64 (m : Int)) := by go_simp
      have f1 : (wr.alloc (.cells #[.int .i64 (m : Int), .slice ut t.2.length cu] 33)).cell? ⟨wr.heap.size, 1, none⟩ = some (.slice ut t.2.length cu) := by go_simp
      clear hx hm hsh hiv hiv1 q0 q1 hS hA hi1
      go_upto_region 10 with fail
      generalize wr.alloc (.cells #[.int .i64 (m : Int), .slice ut t.2.length cu] 33) = w4 at *
      obtain ⟨Bt, hBt⟩ : ∃ Bt, Bt = wr.heap.size := ⟨_, rfl⟩
      rw [← hBt] at f0 f1 ⊢
      clear hBt k0 k1
      generalize hT : ofD n (rowsN n s) D t = T at *
      have HT := Lib.hid (show sameV (m : Int) (shareL n D (rowsN n s) m).1 t.2 (shareL n D (rowsN n s) m).2 = T by rw [← hT]; unfold ofD; rw [HM1.out]; rfl)
      have HMB := Lib.hid (show memB (m : Int) BW = !T by rw [← HM1.out]; exact HM.out)
      generalize shareL n D (rowsN n s) m = X at *
      have hmo2 : (m : Int) < SS.length := by omega
      have HS : Hid (∀ w', Since w4.heap.size w4 w' → w'.cell? ⟨Bt, 0, none⟩ = some (.int .i64 (m : Int)) ∧ w'.cell? ⟨Bt, 1, none⟩ = some (.slice ut t.2.length cu) ∧ w'.cell? ⟨g1, off1 + m * 2, none⟩ = some (.int .i64 X.1) ∧ w'.cell? ⟨g1, off1 + m * 2 + 1, none⟩ = some (.slice u1 X.2.length cu1)) := Lib.hid (fun w' q => ⟨below_cell q.below f0, below_cell q.below f1, below_cell q.below e0, below_cell q.below e1⟩)
      have s3 := HS.out w4.drew (Since.refl w4).drew
      clear hT hnum f0 f1 e0 e1
      go_region_held3 (fun w' => w'.cell? ⟨Bt, 0, none⟩ = some (.int .i64 (m : Int)) ∧ w'.cell? ⟨Bt, 1, none⟩ = some (.slice ut t.2.length cu) ∧ w'.cell? ⟨g1, off1 + m * 2, none⟩ = some (.int .i64 X.1) ∧ w'.cell? ⟨g1, off1 + m * 2 + 1, none⟩ = some (.slice u1 X.2.length cu1)) (first | exact s3 | exact s4) (first
        | (go_at_call 17; go_fit (Same_any (m : Int) X.1 _ _ t.2 X.2 w4.drew (HIV.out.stays (Since.refl w4).drew.below) (HIV1.out.stays (Since.refl w4).drew.below)); rintro e w5 ⟨rfl, hb4⟩; rw [HT.out]; have p4 := (Since.refl w4).drew.step hb4; have s4 := HS.out w5 p4)
        | (go_at_call 21; go_fit (Contains_ints _ BW (m : Int) w4.drew (HW3.out.stays S2.drew.below)); rintro e w' ⟨rfl, rfl⟩; rw [HMB.out])
        | (go_at_call 21; go_fit (Contains_ints _ BW (m : Int) w5 (HW3.out.stays (S2.step p4.below).below)); rintro e w' ⟨rfl, rfl⟩; rw [HMB.out]))
      all_goals
        have S4 := S2.step p4.below
        clear s3 s4 hb4
        cases T with
        | true =>
          go_wp2_with fail
          go_roundw
          case rel => exact ⟨k + 1, by omega, by go_num, S4⟩
          case measure => simp [intOf]; omega
        | false =>
          go_wp2_with fail
          go_roundw
          case rel => exact ⟨k + 1, by omega, by go_num, S4⟩
          case measure => simp [intOf]; omega
    · obtain rfl : ls.length = k := by omega
      clear hlt hk
      have T4 := T3.step hS.below
      obtain ⟨d0, d1, d2⟩ := HC.out _ T4
      go_upto_region 14 with (go_at_call 22; go_fit (Join_ok n o s _ ls wr (HLS.out wr T4) HR.out HR.out.check); rintro e w5 ⟨⟨v5, rfl, h5⟩, hb5⟩)
      have T5 := T4.step hb5
      have S5 := hS.step hb5
      have HJ5 := Lib.hid h5
      obtain ⟨a5, k5, rfl, _⟩ := h5.opened
      have HB5 := Lib.hid (HB3.out.stays S5.below)
      clear d0 d1 d2 hb5 h5
      have hhalf : (joinE n o s ls = 0 ∧ eqInts (joinC n o s ls) D = true ∧ ((BW.length : Int) == 0) = true) ∨ ((joinE n o s ls == 0) = false ∧ ((BW.length : Int) == 0) = false) := by
        by_cases hj : joinE n o s ls = 0
        · obtain ⟨hDJ, hBW0⟩ := HJ1.out hj
          exact Or.inl ⟨hj, by rw [hDJ]; simp [eqInts], by rw [hBW0]; rfl⟩
        · right
          refine ⟨by simpa using hj, ?_⟩
          have : BW ≠ [] := fun h => hj (HJ2.out h)
          have := List.length_pos_iff.2 this
          simp; omega
      rcases hhalf with ⟨hj, heq, hb0⟩ | ⟨hne, hb0⟩
      case' inl =>
        have HEQ := Lib.hid heq
        rw [hj]
        clear hj heq
        go_upto_region 16 with (go_at_call 20; go_fit (Equal_ints _ _ (joinC n o s ls) D w5 HJ5.out HB5.out); rintro e w6 ⟨rfl, hb6⟩; rw [HEQ.out]; have T6 := T5.step hb6)
        clear hb6 T5 S5 HJ5 HB5
      case' inr =>
        go_upto_region 16 with fail
        clear hne S5 HJ5 HB5
        generalize w5 = w6 at *
        have T6 := T5
        clear T5
      all_goals
        have s6 := HC.out _ T6.drew
        have HT6 := Lib.hid T6
        go_region_held3 (fun w' => w'.cell? ⟨B, 0, none⟩ = some (.int .i64 n) ∧ w'.cell? ⟨B, 1, none⟩ = some (.int .i64 o) ∧ w'.cell? ⟨B, 2, none⟩ = some (.int .i64 s)) (first | exact s6 | exact s7 | exact s8) (first
          | (go_at_call 15; go_fit (picked_any _ ls _ order n w6.drew (HLS.out _ T6.drew) (HUS.out _ T6.drew) (by omega)); rintro e w7 ⟨⟨v7, rfl, ps, rest, hw7, hperm, hfin, hfew⟩, hb7⟩; have T7 := HT6.out.drew.step hb7; have s7 := HC.out _ T7; have hvp := isShares_of_row hw7.isRow; have hlp := hperm.length_eq; rw [List.length_append] at hlp; have hpl := pick_len hlp hfin hfew hfew' hn1'; have HRP := Lib.hid (HR.out.picked hperm (Nat.le_of_eq hpl.symm)); have HPM := Lib.hid hperm)
          | (go_at_call 22; go_fit (Join_ok n o s _ ps w7 hvp HRP.out HRP.out.check); rintro e w8 ⟨⟨v8, rfl, h8⟩, hb8⟩; have T8 := T7.step hb8; have s8 := HC.out _ T8))
        all_goals
          have HPL := Lib.hid hpl
          have HJ8 := Lib.hid h8
          obtain ⟨a8, k8, rfl, _⟩ := h8.opened
          obtain ⟨d0, d1, d2⟩ := HC.out _ T8
          clear s6 s7 s8 hvp hlp hperm hfin hfew hb7 hb8 h8 hw7 hpl T7
          by_cases hj8 : joinE n o s ps = 0
          · have HSP := Lib.hid (join_split HRP.out hj8)
            have HSL := Lib.hid (splitL_ok HSP.out)
            have HCNT := Lib.hid (HTOP.out ps rest HPM.out HPL.out HRP.out hj8)
            rw [hj8]
            clear hj8
            generalize hO : joinC n o s ps = O at *
            go_upto_region 20 with (go_at_call 13; go_fit (Split_any n o s _ O w8 HJ8.out); rintro e w9 ⟨⟨v9, rfl, h9⟩, hb9⟩; rw [HSP.out])
            have T9 := T8.step hb9
            rw [HSL.out] at h9
            have HI9 := Lib.hid h9
            obtain ⟨a9, k9, rfl, _⟩ := h9.opened
            have HSN9 := Lib.hid (sharesL_len n O o (rowsN n s))
            generalize hSS9 : sharesL n O o (rowsN n s) = SO at *
            have HSS9 := Lib.hid hSS9
            clear hSS9 d0 d1 d2 hb9 h9 HSL hO
            go_wp2_with fail
            go_loopw [104, 18] (fun i x wr => ∃ k : Nat, k ≤ ls.length ∧ i = .int .i64 k ∧ Since w9.heap.size w9 wr ∧ x = .int .i64 ((ls.take k).countP (ofD n (rowsN n s) O) : Nat)) (fun i _ _ => ls.length - (intOf i).toNat)
            case atStart => exact ⟨0, by omega, rfl, Since.refl w9, by simp⟩
            case round =>
              obtain ⟨k, hk, rfl, hS, rfl⟩ := hrel
              by_cases hlt : k < ls.length
              · have hx : ls[k]? = some ls[k] := List.getElem?_eq_getElem hlt
                obtain ⟨g, off, ut, cu, rfl, k0, k1, hiv, hi1⟩ := shares_at (HLS.out wr (T9.step hS.below)) hx
                have hnum := HR.out.num _ (List.mem_of_getElem? hx)
                have HST : Hid ((ls.take (k + 1)).countP (ofD n (rowsN n s) O) = (ls.take k).countP (ofD n (rowsN n s) O) + (if ofD n (rowsN n s) O ls[k] = true then 1 else 0)) := Lib.hid (by rw [take_get hx, List.countP_append, List.countP_singleton])
                have hcl := List.countP_le_length (p := ofD n (rowsN n s) O) (l := ls.take k)
                have hcl2 : (ls.take k).countP (ofD n (rowsN n s) O) ≤ 8 := by simp at hcl; omega
                generalize ls[k] = t at *
                obtain ⟨m, hm⟩ := Int.eq_ofNat_of_zero_le hnum.1
                have hmo : m < o := by omega
                have HM1 := Lib.hid hm
                rw [hm] at k0
                have hsh : SO[m]? = some (shareL n O (rowsN n s) m) := by rw [← HSS9.out]; exact sharesL_get n O (rowsN n s) hmo
                obtain ⟨g1, off1, u1, cu1, rfl, q0, q1, hiv1, _⟩ := shares_at (shares_stays HI9.out hS.below) hsh
                have hSSl : m < SO.length := by rw [HSN9.out]; exact hmo
                have S2 := hS.alloc (.cells #[.int .i64 (m : Int), .slice ut t.2.length cu] 33)
                have hA := below_alloc wr (.cells #[.int .i64 (m : Int), .slice ut t.2.length cu] 33)
                have HIV := Lib.hid (hiv.stays hA)
                have HIV1 := Lib.hid (hiv1.stays hA)
                have e0 := below_cell hA q0
                have e1 := below_cell hA q1
                have f0 : (wr.alloc (.cells #[.int .i64 (m : Int), .slice ut t.2.length cu] 33)).cell? ⟨wr.heap.size, 0, none⟩ = some (.int .i64 (m : Int)) := by go_simp
                have f1 : (wr.alloc (.cells #[.int .i64 (m : Int), .slice ut t.2.length cu] 33)).cell? ⟨wr.heap.size, 1, none⟩ = some (.slice ut t.2.length cu) := by go_simp
                clear hx hm hsh hiv hiv1 q0 q1 hS hA hi1 hcl
                go_upto_region 24 with fail
                generalize wr.alloc (.cells #[.int .i64 (m : Int), .slice ut t.2.length cu] 33) = w4 at *
                obtain ⟨Bt, hBt⟩ : ∃ Bt, Bt = wr.heap.size := ⟨_, rfl⟩
                rw [← hBt] at f0 f1 ⊢
                clear hBt k0 k1
                generalize hT : ofD n (rowsN n s) O t = T at *
                have HT := Lib.hid (show sameV (m : Int) (shareL n O (rowsN n s) m).1 t.2 (shareL n O (rowsN n s) m).2 = T by rw [← hT]; unfold ofD; rw [HM1.out]; rfl)
                generalize shareL n O (rowsN n s) m = X at *
                generalize hCN : (ls.take k).countP (ofD n (rowsN n s) O) = CN at *
                have hmo2 : (m : Int) < SO.length := by omega
                have HS : Hid (∀ w', Since w4.heap.size w4 w' → w'.cell? ⟨Bt, 0, none⟩ = some (.int .i64 (m : Int)) ∧ w'.cell? ⟨Bt, 1, none⟩ = some (.slice ut t.2.length cu) ∧ w'.cell? ⟨g1, off1 + m * 2, none⟩ = some (.int .i64 X.1) ∧ w'.cell? ⟨g1, off1 + m * 2 + 1, none⟩ = some (.slice u1 X.2.length cu1)) := Lib.hid (fun w' q => ⟨below_cell q.below f0, below_cell q.below f1, below_cell q.below e0, below_cell q.below e1⟩)
                have s3 := HS.out w4.drew (Since.refl w4).drew
                clear hT hnum f0 f1 e0 e1 hCN
                go_region_held3 (fun w' => w'.cell? ⟨Bt, 0, none⟩ = some (.int .i64 (m : Int)) ∧ w'.cell? ⟨Bt, 1, none⟩ = some (.slice ut t.2.length cu) ∧ w'.cell? ⟨g1, off1 + m * 2, none⟩ = some (.int .i64 X.1) ∧ w'.cell? ⟨g1, off1 + m * 2 + 1, none⟩ = some (.slice u1 X.2.length cu1)) (first | exact s3 | exact s4) (first
                  | (go_at_call 17; go_fit (Same_any (m : Int) X.1 _ _ t.2 X.2 w4.drew (HIV.out.stays (Since.refl w4).drew.below) (HIV1.out.stays (Since.refl w4).drew.below)); rintro e w5 ⟨rfl, hb4⟩; rw [HT.out]; have p4 := (Since.refl w4).drew.step hb4; have s4 := HS.out w5 p4))
                all_goals
                  have S4 := S2.step p4.below
                  clear s3 s4 hb4
                  cases T with
                  | true =>
                    go_wp2_with fail
                    go_roundw
                    case rel => exact ⟨k + 1, by omega, by go_num, S4, by rw [HST.out]; go_num⟩
                    case measure => simp [intOf]; omega
                  | false =>
                    go_wp2_with fail
                    go_roundw
                    case rel => exact ⟨k + 1, by omega, by go_num, S4, by rw [HST.out]; go_num⟩
                    case measure => simp [intOf]; omega
              · obtain rfl : ls.length = k := by omega
                have hcl := List.countP_le_length (p := ofD n (rowsN n s) O) (l := ls)
                have hcnt := HCNT.out
                rw [List.take_length]
                generalize ls.countP (ofD n (rowsN n s) O) = CN at *
                have hle : (CN : Int) ≤ (ls.length : Int) - (BW.length : Int) := by omega
                clear hcnt
                go_wp2_with fail
                go_ret
                exact ⟨rfl, (S0.step (T9.step hS.below).below).below⟩
          · have hne8 : (joinE n o s ps != 0) = true := by simpa using hj8
            go_wp2_with fail
            go_ret
            exact ⟨rfl, (S0.step T8.below).below⟩

theorem VoteMost_walk (v0 : Value) (p : Plan3) (v1 : Value) (ls : List Sh) (v2 : Value) (order : List Int) (W : World) (h0 : IsPlan v0 p) (h1 : IsShares W v1 ls) (h2 : IsInts W v2 order) :
    Calls Try.prog 4 #[v0, v1, v2] W fun e w' => e = .returned (.bool true) ∧ Below W.heap.size W w' := by
  obtain ⟨rfl, _⟩ := h0
  obtain ⟨n, o, s⟩ := p
  by_cases h : mostE n o s ls = 0
  · have hc : checksL n o s ls = 0 := by
      by_cases hc : checksL n o s ls = 0
      · exact hc
      · rw [mostE_chk hc] at h; exact h
    have hp : planV n o s = 0 := by
      unfold checksL at hc
      split at hc
      · rename_i h3; exact absurd hc h3
      · rename_i h3; simpa using h3
    obtain ⟨n, o, s, rfl, rfl, rfl⟩ := plan_nat hp
    exact voteMost_ok n o s v1 v2 ls order W h1 h2 (right_iff.1 hc) h
  · exact voteMost_no n o s v1 v2 ls order W h1 h2 h
end Go.Proofs.Ytnpdojjffbhalaa
