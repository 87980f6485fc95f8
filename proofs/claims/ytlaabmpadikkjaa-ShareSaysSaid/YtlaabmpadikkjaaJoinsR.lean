/-
  The walk of the reference's Joins.
-/
import Derived.Test.YtlaabmpadikkjaaJoinsLaw
import Derived.Deep.RegionHeld3
namespace Go.Proofs.Ytlaabmpadikkjaa
open Go.RowKit

set_option maxRecDepth 100000 in
set_option maxHeartbeats 1000000 in
theorem Joins_no (n o s : Int) (v : Value) (ls : List Sh) (W : World) (hd : IsShares W v ls) (hE : checksL n o s ls ≠ 0) :
    Calls Try.prog 20 #[.agg #[.int .i64 n, .int .i64 o, .int .i64 s], v] W fun e w' => e = .returned (.tuple #[.slice none 0 0, .int .i64 (checksL n o s ls)]) ∧ Below W.heap.size W w' := by
  obtain ⟨a, c, rfl, _⟩ := hd.opened
  have S0 := (Since.refl W).alloc (.cells #[.int .i64 n, .int .i64 o, .int .i64 s] 23)
  have hd0 := shares_stays hd S0.below
  have hne : (checksL n o s ls != 0) = true := by simpa using hE
  clear hd hE
  go_enter Try.func20, Try.ntmps20
  go_wp2_with fail
  refine (Checks_any n o s _ ls _ hd0).mono ?_
  rintro e w1 ⟨rfl, hb1⟩
  have S1 := S0.step hb1
  go_wp2_with fail
  go_ret2
  exact ⟨rfl, S1.below⟩

set_option maxRecDepth 100000 in
set_option maxHeartbeats 3000000 in
theorem Joins_ok (n o s : Nat) (v : Value) (ls : List Sh) (W : World) (hd : IsShares W v ls) (hR : Right n o s ls) (hc : checksL n o s ls = 0) :
    Calls Try.prog 20 #[.agg #[.int .i64 n, .int .i64 o, .int .i64 s], v] W fun e w' => (∃ v', e = .returned (.tuple #[v', .int .i64 (joinE n o s ls)]) ∧ IsInts w' v' (joinC n o s ls)) ∧ Below W.heap.size W w' := by
  obtain ⟨p1, p2, p3, p4, p5, p6⟩ := planV_bd hR.plan
  have hmany := hR.many
  have HRT := Lib.hid hR
  have HCK := Lib.hid hc
  have HD := Lib.hid hd
  obtain ⟨a, c, rfl, hcc, ⟨hcm, hcm', _⟩, _⟩ := hd.opened
  clear hd hR hc
  have S0 := (Since.refl W).alloc (.cells #[.int .i64 n, .int .i64 o, .int .i64 s] 23)
  have c0 : (W.alloc (.cells #[.int .i64 n, .int .i64 o, .int .i64 s] 23)).cell? ⟨W.heap.size, 0, none⟩ = some (.int .i64 n) := by go_simp
  have c1 : (W.alloc (.cells #[.int .i64 n, .int .i64 o, .int .i64 s] 23)).cell? ⟨W.heap.size, 1, none⟩ = some (.int .i64 o) := by go_simp
  have c2 : (W.alloc (.cells #[.int .i64 n, .int .i64 o, .int .i64 s] 23)).cell? ⟨W.heap.size, 2, none⟩ = some (.int .i64 s) := by go_simp
  go_enter Try.func20, Try.ntmps20
  go_upto_region 1 with fail
  generalize W.alloc (.cells #[.int .i64 n, .int .i64 o, .int .i64 s] 23) = w0 at *
  obtain ⟨B, hB⟩ : ∃ B, B = W.heap.size := ⟨_, rfl⟩
  rw [← hB] at c0 c1 c2 ⊢
  clear hB
  have l0 := cell_lt c0
  have HC : Hid (∀ w', Since w0.heap.size w0 w' → (w'.cell? ⟨B, 0, none⟩ = some (.int .i64 n) ∧ w'.cell? ⟨B, 1, none⟩ = some (.int .i64 o) ∧ w'.cell? ⟨B, 2, none⟩ = some (.int .i64 s))) := Lib.hid (fun w' q => ⟨(q.below.cell (p := ⟨B, 0, none⟩) l0).trans c0, (q.below.cell (p := ⟨B, 1, none⟩) l0).trans c1, (q.below.cell (p := ⟨B, 2, none⟩) l0).trans c2⟩)
  have HDS : Hid (∀ w', Since w0.heap.size w0 w' → IsShares w' (.slice a ls.length c) ls) := Lib.hid (fun w' q => shares_stays HD.out (S0.step q.below).below)
  have hds0 := HDS.out _ (Since.refl w0)
  go_wp2_with fail
  refine (Checks_any n o s _ ls _ hds0).mono ?_
  rintro e w1 ⟨rfl, hb1⟩
  rw [HCK.out]
  have T1 := (Since.refl w0).step hb1
  obtain ⟨d0, d1, d2⟩ := HC.out _ T1
  clear hb1 c0 c1 c2 hds0
  go_wp2_with fail
  refine (made_any n o s _ ls _ (HDS.out _ T1) HRT.out).mono ?_
  rintro e w2 ⟨⟨v2, rfl, hi2⟩, hb2⟩
  have T2 := T1.step hb2
  clear hb2 d0 d1 d2
  by_cases hm : madeB n s ls = true
  · have HM := Lib.hid hm
    have HNUM := Lib.hid (made_nums HRT.out hm)
    rw [hm]
    clear hm
    have HI2 := Lib.hid hi2
    obtain ⟨a2, q2, rfl, _⟩ := hi2.opened
    obtain ⟨D, hD⟩ : ∃ D, D = madeC n s ls := ⟨_, rfl⟩
    have HOF : Hid (∀ t, ofMade n s ls t = sameV t.1 t.1 t.2 (shareL n D (rowsN n s) t.1.toNat).2) := Lib.hid (fun t => by rw [hD]; rfl)
    have HJC : Hid (ls.all (ofMade n s ls) = true → joinE n o s ls = 0 ∧ joinC n o s ls = D) := Lib.hid (fun h => by rw [hD]; exact joins_C HRT.out HCK.out HM.out h)
    rw [← hD] at HNUM HI2 ⊢
    clear hD hi2
    go_wp2_with fail
    go_loopw [27] (fun i wr => ∃ k : Nat, k ≤ ls.length ∧ i = .int .i64 k ∧ Since w2.heap.size w2 wr ∧ (ls.drop k).all (ofMade n s ls) = ls.all (ofMade n s ls)) (fun i _ => ls.length - (intOf i).toNat)
    case atStart => exact ⟨0, by omega, rfl, Since.refl w2, rfl⟩
    case round =>
      obtain ⟨k, hk, rfl, hS, hq⟩ := hrel
      have HQ := Lib.hid hq
      clear hq
      by_cases hlt : k < ls.length
      · have hx : ls[k]? = some ls[k] := List.getElem?_eq_getElem hlt
        have hSw := T2.step hS.below
        obtain ⟨g, off, u, cu, rfl, k0, k1, hiv, hi1⟩ := shares_at (HDS.out wr hSw) hx
        have hnum := HRT.out.num _ (List.mem_of_getElem? hx)
        have HDR := Lib.hid (drop_get hx)
        generalize ls[k] = t at *
        obtain ⟨m, hm⟩ := Int.eq_ofNat_of_zero_le hnum.1
        have hm8 : m ≤ 8 := by omega
        have HM1 := Lib.hid hm
        rw [hm] at k0
        have S1 := hS.alloc (.cells #[.int .i64 (m : Int), .slice u t.2.length cu] 32)
        have hiv1 := hiv.stays (below_alloc wr (.cells #[.int .i64 (m : Int), .slice u t.2.length cu] 32))
        have q0 : (wr.alloc (.cells #[.int .i64 (m : Int), .slice u t.2.length cu] 32)).cell? ⟨wr.heap.size, 0, none⟩ = some (.int .i64 (m : Int)) := by go_simp
        have q1 : (wr.alloc (.cells #[.int .i64 (m : Int), .slice u t.2.length cu] 32)).cell? ⟨wr.heap.size, 1, none⟩ = some (.slice u t.2.length cu) := by go_simp
        clear hx hiv hm hnum hS hSw
        go_upto_region 10 with fail
        generalize wr.alloc (.cells #[.int .i64 (m : Int), .slice u t.2.length cu] 32) = w3 at *
        obtain ⟨Bt, hBt⟩ : ∃ Bt, Bt = wr.heap.size := ⟨_, rfl⟩
        rw [← hBt] at q0 q1 ⊢
        clear hBt k0 k1
        have HS : Hid (∀ w', Since w3.heap.size w3 w' → w'.cell? ⟨B, 0, none⟩ = some (.int .i64 n) ∧ w'.cell? ⟨B, 1, none⟩ = some (.int .i64 o) ∧ w'.cell? ⟨B, 2, none⟩ = some (.int .i64 s) ∧ w'.cell? ⟨Bt, 0, none⟩ = some (.int .i64 (m : Int)) ∧ w'.cell? ⟨Bt, 1, none⟩ = some (.slice u t.2.length cu)) := Lib.hid (fun w' q => by
          obtain ⟨x0, x1, x2⟩ := HC.out _ (T2.step (S1.step q.below).below)
          exact ⟨x0, x1, x2, below_cell q.below q0, below_cell q.below q1⟩)
        have s3 := HS.out w3.drew (Since.refl w3).drew
        have HIV := Lib.hid hiv1
        obtain ⟨T, hT⟩ : ∃ T, T = ofMade n s ls t := ⟨_, rfl⟩
        have HT := Lib.hid (show sameV (m : Int) (m : Int) t.2 (shareL n D (rowsN n s) m).2 = T by rw [hT, HOF.out t, HM1.out]; simp)
        have HTT := Lib.hid hT
        clear hT q0 q1 hiv1
        go_region_held3 (fun w' => w'.cell? ⟨B, 0, none⟩ = some (.int .i64 n) ∧ w'.cell? ⟨B, 1, none⟩ = some (.int .i64 o) ∧ w'.cell? ⟨B, 2, none⟩ = some (.int .i64 s) ∧ w'.cell? ⟨Bt, 0, none⟩ = some (.int .i64 (m : Int)) ∧ w'.cell? ⟨Bt, 1, none⟩ = some (.slice u t.2.length cu)) (first | exact s3 | exact s4 | exact s5) (first
          | (go_at_call 57; refine (ShareOf_any n o s _ D m _ (HI2.out.stays (S1.drew.below)) HRT.out.plan HNUM.out hm8).mono ?_; rintro e w4 ⟨⟨v4, rfl, ho4⟩, hb4⟩; have p4 := (Since.refl w3).drew.step hb4; have s4 := HS.out w4 p4)
          | (go_at_call 26; refine (SameShare_any (m : Int) (m : Int) _ _ t.2 (shareL n D (rowsN n s) m).2 _ (HIV.out.stays p4.below) ho4.isInts).mono ?_; rintro e w5 ⟨rfl, hb5⟩; rw [HT.out]; have p5 := p4.step hb5; have s5 := HS.out w5 p5))
        all_goals
          have S5 := S1.step p5.below
          clear s3 s4 s5 ho4 hb4 hb5
          cases T with
          | true =>
            have HV := Lib.hid (show (ls.drop (k + 1)).all (ofMade n s ls) = ls.all (ofMade n s ls) by rw [← HQ.out, HDR.out, List.all_cons, ← HTT.out, Bool.true_and])
            go_wp2_with fail
            go_roundw
            case rel => exact ⟨k + 1, by omega, by go_num, S5, HV.out⟩
            case measure => simp [intOf]; omega
          | false =>
            have hJ := joins_9 HRT.out HCK.out (fun h => by have h2 := h.2; rw [← HQ.out, HDR.out, List.all_cons, ← HTT.out] at h2; simp at h2)
            have HJ := Lib.hid hJ
            clear hJ
            go_wp2_with fail
            go_ret2
            exact ⟨⟨_, ret_nilE (by rw [HJ.out.1]), by rw [HJ.out.2]; exact IsInts.nil _⟩, (S0.step (T2.step S5.below).below).below⟩
      · obtain rfl : ls.length = k := by omega
        have hJ := HJC.out (by rw [← HQ.out, List.drop_length]; rfl)
        have HJ := Lib.hid hJ
        clear hJ
        go_wp2_with fail
        go_ret2
        exact ⟨⟨_, ret_nilE (by rw [HJ.out.1]), by rw [HJ.out.2]; exact HI2.out.stays hS.below⟩, (S0.step (T2.step hS.below).below).below⟩
  · have hJ := joins_9 HRT.out HCK.out (fun h => hm h.1)
    have HJ := Lib.hid hJ
    have hmf : madeB n s ls = false := by simpa using hm
    obtain ⟨a2, q2, rfl, _⟩ := hi2.opened
    rw [hmf]
    clear hm hJ hmf hi2
    go_wp2_with fail
    go_ret2
    exact ⟨⟨_, ret_nilE (by rw [HJ.out.1]), by rw [HJ.out.2]; exact IsInts.nil _⟩, (S0.step T2.below).below⟩

end Go.Proofs.Ytlaabmpadikkjaa
