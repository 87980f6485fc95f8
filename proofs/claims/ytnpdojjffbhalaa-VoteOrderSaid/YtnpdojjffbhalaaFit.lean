/-
  vote.fit walked.
-/
import Derived.Test.YtnpdojjffbhalaaVoteMath
import Derived.Test.YtnpdojjffbhalaaSplit2
import Derived.Test.YtnpdojjffbhalaaShareLaw
import Derived.Test.YtnpdojjffbhalaaRowAll
import Derived.Deep.RegionHeld3
import Derived.Deep.DeepCutAuto
namespace Go.Proofs.Ytnpdojjffbhalaa
open Go.RowKit

set_option maxRecDepth 100000 in
set_option maxHeartbeats 4000000 in
theorem fit_any (n o s : Nat) (vd vl : Value) (data : List Int) (ls : List Sh) (W : World) (hd : IsInts W vd data) (hl : IsShares W vl ls) (hE : splitE n o s data = 0) (hn : ∀ t ∈ ls, 0 ≤ t.1 ∧ t.1 < o) (hlen : ls.length ≤ 8) :
    Calls Try.prog 50 #[.agg #[.int .i64 n, .int .i64 o, .int .i64 s], vd, vl] W fun e w' => (∃ v', e = .returned v' ∧ OwnInts w' 3 W.heap.size v' (idxF (ofD n (rowsN n s) data) 0 ls)) ∧ Below W.heap.size W w' := by
  have HD := Lib.hid hd
  have HL := Lib.hid hl
  have HE := Lib.hid hE
  have HN := Lib.hid hn
  have HSL := Lib.hid (splitL_ok hE)
  obtain ⟨a, c, rfl, hcc, ⟨hcm, hcm', _⟩, _⟩ := hl.opened
  clear hd hl hE hn
  have S0 := (Since.refl W).alloc (.cells #[.int .i64 n, .int .i64 o, .int .i64 s] 23)
  have c0 : (W.alloc (.cells #[.int .i64 n, .int .i64 o, .int .i64 s] 23)).cell? ⟨W.heap.size, 0, none⟩ = some (.int .i64 n) := by go_simp
  have c1 : (W.alloc (.cells #[.int .i64 n, .int .i64 o, .int .i64 s] 23)).cell? ⟨W.heap.size, 1, none⟩ = some (.int .i64 o) := by go_simp
  have c2 : (W.alloc (.cells #[.int .i64 n, .int .i64 o, .int .i64 s] 23)).cell? ⟨W.heap.size, 2, none⟩ = some (.int .i64 s) := by go_simp
  go_enter Try.func50, Try.ntmps50
  go_upto_region 1 with fail
  generalize W.alloc (.cells #[.int .i64 n, .int .i64 o, .int .i64 s] 23) = w0 at *
  obtain ⟨B, hB⟩ : ∃ B, B = W.heap.size := ⟨_, rfl⟩
  rw [← hB] at c0 c1 c2 ⊢
  have HB := Lib.hid hB
  clear hB
  go_upto_region 2 with (go_at_call 13; refine (Split_any n o s _ data _ (HD.out.stays S0.below)).mono ?_; rintro e w1 ⟨⟨v1, rfl, hi1⟩, hb1⟩; rw [HE.out])
  have S1 := S0.step hb1
  rw [HSL.out] at hi1
  have HI1 := Lib.hid hi1
  obtain ⟨a1, k1, rfl, _⟩ := hi1.opened
  have HSN := Lib.hid (sharesL_len n data o (rowsN n s))
  generalize hSS : sharesL n data o (rowsN n s) = SS at *
  have HSS := Lib.hid hSS
  clear hSS c0 c1 c2 hb1 hi1 HSL
  have HLS : Hid (∀ w', Since w1.heap.size w1 w' → IsShares w' (.slice a ls.length c) ls) := Lib.hid (fun w' q => shares_stays HL.out (S1.step q.below).below)
  go_wp2_with fail
  go_loopw [20, 9] (fun i x wr => ∃ k : Nat, k ≤ ls.length ∧ i = .int .i64 k ∧ Since w1.heap.size w1 wr ∧ OwnInts wr 3 w1.heap.size x (idxF (ofD n (rowsN n s) data) 0 (ls.take k))) (fun i _ _ => ls.length - (intOf i).toNat)
  case atStart => exact ⟨0, by omega, rfl, Since.refl w1, OwnInts.nil _ _ _⟩
  case round =>
    obtain ⟨k, hk, rfl, hS, ho⟩ := hrel
    by_cases hlt : k < ls.length
    · have hx : ls[k]? = some ls[k] := List.getElem?_eq_getElem hlt
      obtain ⟨g, off, u, cu, rfl, k0, k1, hiv, hi1⟩ := shares_at (HLS.out wr hS) hx
      have hnum := HN.out _ (List.mem_of_getElem? hx)
      have HST := Lib.hid (idxF_step (ofD n (rowsN n s) data) hx)
      have hol := idxF_len (ofD n (rowsN n s) data) (ls.take k) 0
      have hol2 : (idxF (ofD n (rowsN n s) data) 0 (ls.take k)).length ≤ 8 := by
        have := List.countP_le_length (p := ofD n (rowsN n s) data) (l := ls.take k)
        simp at this
        omega
      clear hol
      generalize ls[k] = t at *
      obtain ⟨m, hm⟩ := Int.eq_ofNat_of_zero_le hnum.1
      have hmo : m < o := by omega
      have HM1 := Lib.hid hm
      rw [hm] at k0
      have hsh : SS[m]? = some (shareL n data (rowsN n s) m) := by rw [← HSS.out]; exact sharesL_get n data (rowsN n s) hmo
      obtain ⟨g1, off1, u1, cu1, rfl, q0, q1, hiv1, _⟩ := shares_at (shares_stays HI1.out hS.below) hsh
      have hSSl : m < SS.length := by rw [HSN.out]; exact hmo
      have S2 := hS.alloc (.cells #[.int .i64 (m : Int), .slice u t.2.length cu] 33)
      have hA := below_alloc wr (.cells #[.int .i64 (m : Int), .slice u t.2.length cu] 33)
      have HIV := Lib.hid (hiv.stays hA)
      have HIV1 := Lib.hid (hiv1.stays hA)
      have HO := Lib.hid (ho.stays hA)
      have e0 := below_cell hA q0
      have e1 := below_cell hA q1
      have f0 : (wr.alloc (.cells #[.int .i64 (m : Int), .slice u t.2.length cu] 33)).cell? ⟨wr.heap.size, 0, none⟩ = some (.int .i64 (m : Int)) := by go_simp
      have f1 : (wr.alloc (.cells #[.int .i64 (m : Int), .slice u t.2.length cu] 33)).cell? ⟨wr.heap.size, 1, none⟩ = some (.slice u t.2.length cu) := by go_simp
      clear hx hm hsh hiv hiv1 q0 q1 ho hS hA
      go_upto_region 6 with fail
      generalize wr.alloc (.cells #[.int .i64 (m : Int), .slice u t.2.length cu] 33) = w3 at *
      obtain ⟨Bt, hBt⟩ : ∃ Bt, Bt = wr.heap.size := ⟨_, rfl⟩
      rw [← hBt] at f0 f1 ⊢
      clear hBt k0 k1
      have ik : I64 (k : Int) := ⟨by omega, by omega⟩
      generalize hT : ofD n (rowsN n s) data t = T at *
      have HT := Lib.hid (show sameV (m : Int) (shareL n data (rowsN n s) m).1 t.2 (shareL n data (rowsN n s) m).2 = T by rw [← hT]; unfold ofD; rw [HM1.out]; rfl)
      generalize shareL n data (rowsN n s) m = X at *
      have hmo2 : (m : Int) < SS.length := by omega
      clear hT hnum
      have HS : Hid (∀ w', Since w3.heap.size w3 w' → w'.cell? ⟨Bt, 0, none⟩ = some (.int .i64 (m : Int)) ∧ w'.cell? ⟨Bt, 1, none⟩ = some (.slice u t.2.length cu) ∧ w'.cell? ⟨g1, off1 + m * 2, none⟩ = some (.int .i64 X.1) ∧ w'.cell? ⟨g1, off1 + m * 2 + 1, none⟩ = some (.slice u1 X.2.length cu1)) := Lib.hid (fun w' q => ⟨below_cell q.below f0, below_cell q.below f1, below_cell q.below e0, below_cell q.below e1⟩)
      have s3 := HS.out w3.drew (Since.refl w3).drew
      clear f0 f1 e0 e1
      go_region_held3 (fun w' => w'.cell? ⟨Bt, 0, none⟩ = some (.int .i64 (m : Int)) ∧ w'.cell? ⟨Bt, 1, none⟩ = some (.slice u t.2.length cu) ∧ w'.cell? ⟨g1, off1 + m * 2, none⟩ = some (.int .i64 X.1) ∧ w'.cell? ⟨g1, off1 + m * 2 + 1, none⟩ = some (.slice u1 X.2.length cu1)) (first | exact s3 | exact s4) (first | (go_at_call 17; refine (Same_any (m : Int) X.1 _ _ t.2 X.2 _ (HIV.out.stays (Since.refl w3).drew.below) (HIV1.out.stays (Since.refl w3).drew.below)).mono ?_; rintro e w4 ⟨rfl, hb4⟩; rw [HT.out]; have p4 := (Since.refl w3).drew.step hb4; have s4 := HS.out w4 p4))
      all_goals
        have S4 := S2.step p4.below
        have HO4 := Lib.hid (HO.out.stays p4.below)
        clear s3 s4 hb4
        cases T with
        | true =>
          have ho5 := HO4.out.stays (below_alloc w4 (.cells #[.int .i64 (k : Int)] 3))
          go_wp2_with (at_builtin; refine wpList_append_int rfl _ _ 24 rfl 3 Try.underlying24 info_int w1.heap.size _ _ rfl ho5 ⟨w4.heap.size, 0, none⟩ 1 (k : Int) rfl (by simp) ik (by omega) (by have := S4.2; simp; omega) ?_; intro v' w6 ho6 hg6)
          have S6 := (S4.alloc (.cells #[.int .i64 (k : Int)] 3)).own ho5 hg6
          have HO6 := Lib.hid ho6
          clear ho6 hg6 ho5
          go_roundw
          case rel => exact ⟨k + 1, by omega, by go_num, S6, by rw [HST.out]; simpa using HO6.out⟩
          case measure => simp [intOf]; omega
        | false =>
          go_wp2_with fail
          go_roundw
          case rel => exact ⟨k + 1, by omega, by go_num, S4, by rw [HST.out]; simpa using HO4.out⟩
          case measure => simp [intOf]; omega
    · obtain rfl : ls.length = k := by omega
      go_wp2_with fail
      go_ret
      rw [List.take_length] at ho
      exact ⟨⟨_, rfl, ho.mono S1.2⟩, (S1.step hS.below).below⟩
end Go.Proofs.Ytnpdojjffbhalaa
