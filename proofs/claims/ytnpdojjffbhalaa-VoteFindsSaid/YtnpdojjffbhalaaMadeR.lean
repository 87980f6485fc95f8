/-
  The walk of the reference's made, of right shares.
-/
import Derived.Test.YtnpdojjffbhalaaChecksR
namespace Go.Proofs.Ytnpdojjffbhalaa
open Go.RowKit

/-- What the first shares make: behind it only noughts? -/
def madeB (n s : Nat) (ls : List Sh) : Bool := !hasNot ((dataL n ls (rowsN n s)).drop s)
def madeC (n s : Nat) (ls : List Sh) : List Int := if madeB n s ls = true then (dataL n ls (rowsN n s)).take s else []
theorem madeC_ok {n s : Nat} {ls : List Sh} (h : madeB n s ls = true) : madeC n s ls = (dataL n ls (rowsN n s)).take s := by unfold madeC; rw [if_pos h]
theorem ret_ib {v : Value} {a b : Bool} (h : a = b) : Ending.returned (.tuple #[v, .bool a]) = .returned (.tuple #[v, .bool b]) := by rw [h]

set_option maxRecDepth 100000 in
set_option maxHeartbeats 4000000 in
theorem made_any (n o s : Nat) (v : Value) (ls : List Sh) (W : World) (hd : IsShares W v ls) (hR : Right n o s ls) :
    Calls Try.prog 61 #[.agg #[.int .i64 n, .int .i64 o, .int .i64 s], v] W fun e w' => (∃ v', e = .returned (.tuple #[v', .bool (madeB n s ls)]) ∧ IsInts w' v' (madeC n s ls)) ∧ Below W.heap.size W w' := by
  obtain ⟨p1, p2, p3, p4, p5, p6⟩ := planV_bd hR.plan
  obtain ⟨r1, r2, r3⟩ := rowsN_bd (n := n) (s := s) (by omega) (by omega) (by omega) (by omega)
  have hfew := hR.few
  have hmany := hR.many
  have HRT := Lib.hid hR
  have HLO := Lib.hid (longV_nat hR.plan)
  have HD := Lib.hid hd
  obtain ⟨a, c, rfl, hcc, ⟨hcm, hcm', _⟩, _⟩ := hd.opened
  clear hd hR
  have S0 := (Since.refl W).alloc (.cells #[.int .i64 n, .int .i64 o, .int .i64 s] 23)
  have c0 : (W.alloc (.cells #[.int .i64 n, .int .i64 o, .int .i64 s] 23)).cell? ⟨W.heap.size, 0, none⟩ = some (.int .i64 n) := by go_simp
  have c1 : (W.alloc (.cells #[.int .i64 n, .int .i64 o, .int .i64 s] 23)).cell? ⟨W.heap.size, 1, none⟩ = some (.int .i64 o) := by go_simp
  have c2 : (W.alloc (.cells #[.int .i64 n, .int .i64 o, .int .i64 s] 23)).cell? ⟨W.heap.size, 2, none⟩ = some (.int .i64 s) := by go_simp
  go_enter Try.func61, Try.ntmps61
  go_upto_region 2 with fail
  generalize W.alloc (.cells #[.int .i64 n, .int .i64 o, .int .i64 s] 23) = w0 at *
  obtain ⟨B, hB⟩ : ∃ B, B = W.heap.size := ⟨_, rfl⟩
  rw [← hB] at c0 c1 c2 ⊢
  clear hB
  have l0 := cell_lt c0
  have HC : Hid (∀ w', Since w0.heap.size w0 w' → (w'.cell? ⟨B, 0, none⟩ = some (.int .i64 n) ∧ w'.cell? ⟨B, 1, none⟩ = some (.int .i64 o) ∧ w'.cell? ⟨B, 2, none⟩ = some (.int .i64 s))) := Lib.hid (fun w' q => ⟨(q.below.cell (p := ⟨B, 0, none⟩) l0).trans c0, (q.below.cell (p := ⟨B, 1, none⟩) l0).trans c1, (q.below.cell (p := ⟨B, 2, none⟩) l0).trans c2⟩)
  have HDS : Hid (∀ w', Since w0.heap.size w0 w' → IsShares w' (.slice a ls.length c) ls) := Lib.hid (fun w' q => shares_stays HD.out (S0.step q.below).below)
  clear c1 c2
  have hnc : (n : Int) ≤ (c : Int) := by omega
  have hn8 : n ≤ ls.length := hfew
  go_wp2_with fail
  clear c0
  go_loopw [22, 6] (fun i x wr => ∃ k : Nat, k ≤ n ∧ i = .int .i64 k ∧ Since w0.heap.size w0 wr ∧ OwnInts wr 3 w0.heap.size x (xsL k ls)) (fun i _ _ => n - (intOf i).toNat)
  case atStart => exact ⟨0, by omega, rfl, Since.refl w0, by simpa [xsL] using OwnInts.nil _ _ _⟩
  case round =>
    obtain ⟨k, hk, rfl, hS, ho⟩ := hrel
    by_cases hlt : k < n
    · have hx : ls[k]? = some ls[k] := List.getElem?_eq_getElem (by omega)
      obtain ⟨g, off, u, cu, rfl, k0, k1, _, hi1⟩ := shares_at (HDS.out wr hS) hx
      have HST := Lib.hid (xsL_step hx)
      have hxl : (xsL k ls).length ≤ 8 := by simp [xsL]; omega
      generalize ls[k] = t at *
      have S1 := hS.alloc (.cells #[.int .i64 t.1, .slice u t.2.length cu] 33)
      have ho1 := ho.stays (below_alloc wr (.cells #[.int .i64 t.1, .slice u t.2.length cu] 33))
      have hgs := hS.2
      clear hx ho hS
      go_wp2_with (at_builtin; refine wpList_append_int rfl _ _ 24 rfl 3 Try.underlying24 info_int w0.heap.size _ _ rfl (ho1.stays (below_alloc _ _)) ⟨wr.heap.size + 1, 0, none⟩ 1 t.1 rfl (by go_simp) hi1 (by omega) (by simp; omega) ?_; intro v' w2 ho2 hg2)
      have S2 := (S1.alloc (.cells #[.int .i64 t.1] 3)).own (ho1.stays (below_alloc _ _)) hg2
      have HO2 := Lib.hid ho2
      clear ho2 hg2 ho1 k0 k1
      go_roundw
      case rel => exact ⟨k + 1, by omega, by go_num, S2, by rw [HST.out]; exact HO2.out⟩
      case measure => simp [intOf]; omega
    · obtain rfl : k = n := by omega
      have hxi := ho.isInts
      obtain ⟨ax, cx, rfl, _⟩ := hxi.opened
      have hS0 := hS
      obtain ⟨w1, hw1⟩ : ∃ w1 : World, w1 = wr := ⟨_, rfl⟩
      rw [← hw1] at hxi hS0 ⊢
      clear hw1 ho hS
      obtain ⟨d0, d1, d2⟩ := HC.out _ hS0
      go_wp2_with fail
      refine (RowsOf_any k o s _).mono ?_
      rintro e w3 ⟨rfl, hb3⟩
      rw [HLO.out]
      have S3 := hS0.step hb3
      have HX := Lib.hid (hxi.stays hb3)
      have HC3 : Hid (∀ w', Since w3.heap.size w3 w' → (w'.cell? ⟨B, 0, none⟩ = some (.int .i64 k) ∧ w'.cell? ⟨B, 1, none⟩ = some (.int .i64 o) ∧ w'.cell? ⟨B, 2, none⟩ = some (.int .i64 s))) := Lib.hid (fun w' q => HC.out w' (S3.step q.below))
      have HD3 : Hid (∀ w', Since w3.heap.size w3 w' → IsShares w' (.slice a ls.length c) ls) := Lib.hid (fun w' q => HDS.out w' (S3.step q.below))
      clear hb3 hxi hS0 d0 d1 d2
      go_wp2_with fail
      go_loopw [34, 7] (fun i vd wr => ∃ r : Nat, r ≤ rowsN k s ∧ i = .int .i64 r ∧ Since w3.heap.size w3 wr ∧ OwnInts wr 3 w3.heap.size vd (dataL k ls r)) (fun i _ _ => rowsN k s - (intOf i).toNat)
      case atStart => exact ⟨0, by omega, rfl, Since.refl w3, by simpa [dataL] using OwnInts.nil _ _ _⟩
      case round =>
        obtain ⟨r, hr, rfl, hS, hdt⟩ := hrel
        obtain ⟨d0, d1, d2⟩ := HC3.out _ hS
        by_cases hlr : r < rowsN k s
        · obtain ⟨ad, cd, rfl, _⟩ := hdt.isInts.opened
          have hnc : (k : Int) ≤ (c : Int) := by omega
          go_wp2_with fail
          clear d0 d1 d2
          obtain ⟨wo, hwo⟩ : ∃ wo : World, wo = wr := ⟨_, rfl⟩
          rw [← hwo] at hdt hS ⊢
          clear hwo
          go_loopw [42, 11] (fun i vy wr => ∃ m : Nat, m ≤ k ∧ i = .int .i64 m ∧ Since wo.heap.size wo wr ∧ OwnInts wr 3 wo.heap.size vy (ysL m ls r)) (fun i _ _ => k - (intOf i).toNat)
          case atStart => exact ⟨0, by omega, rfl, Since.refl wo, by simpa [ysL] using OwnInts.nil _ _ _⟩
          case round =>
            obtain ⟨m, hm, rfl, hSw, hy⟩ := hrel
            by_cases hlm : m < k
            · have hx : ls[m]? = some ls[m] := List.getElem?_eq_getElem (by omega)
              obtain ⟨g, off, u, cu, rfl, k0, k1, hiv, hi1⟩ := shares_at (HD3.out wr (hS.step hSw.below)) hx
              have htl := HRT.out.len _ (List.mem_of_getElem? hx)
              have HST := Lib.hid (ysL_step r hx)
              have hyl : (ysL m ls r).length ≤ 8 := by simp [ysL]; omega
              generalize ls[m] = t at *
              have hz : t.2[r]? = some t.2[r] := List.getElem?_eq_getElem (by omega)
              have HGD := Lib.hid (show t.2.getD r 0 = t.2[r] by simp [List.getD_eq_getElem?_getD, hz])
              obtain ⟨b1, o1, e1, q1, hiz⟩ := ints_at hiv hz
              subst e1
              generalize t.2[r] = z at *
              have S1 := hSw.alloc (.cells #[.int .i64 t.1, .slice (some ⟨b1, o1, none⟩) t.2.length cu] 33)
              have hy1 := hy.stays (below_alloc wr (.cells #[.int .i64 t.1, .slice (some ⟨b1, o1, none⟩) t.2.length cu] 33))
              have hgs := hSw.2
              have lq := cell_lt q1
              have y1 : (r : Int) < (t.2.length : Int) := by omega
              clear hx hy hSw hiv hz htl
              go_wp2_with (at_builtin; refine wpList_append_int rfl _ _ 24 rfl 3 Try.underlying24 info_int wo.heap.size _ _ rfl (hy1.stays (below_alloc _ _)) ⟨wr.heap.size + 1, 0, none⟩ 1 z rfl (by go_simp) hiz (by omega) (by simp; omega) ?_; intro v' w4 ho4 hg4)
              have S4 := (S1.alloc (.cells #[.int .i64 z] 3)).own (hy1.stays (below_alloc _ _)) hg4
              have HO4 := Lib.hid ho4
              clear ho4 hg4 hy1 k0 k1 q1
              go_roundw
              case rel => exact ⟨m + 1, by omega, by go_num, S4, by rw [HST.out, HGD.out]; exact HO4.out⟩
              case measure => simp [intOf]; omega
            · obtain rfl : k = m := by omega
              obtain ⟨ay, cy, rfl, _⟩ := hy.isInts.opened
              have hne : ∀ q, (Value.slice ad (dataL k ls r).length cd).ownBlock = some q → (Value.slice ay (ysL k ls r).length cy).ownBlock ≠ some q := fun q hq e => by
                have h1 := (hdt.1.lt q hq).2
                have h2 := (hy.1.lt q e).1
                omega
              have hdt2 := hdt.stays hSw.below
              have S2 := hS.step hSw.below
              have hpts := HRT.out.pts r
              have HPT := Lib.hid hpts
              have hb0 := dataL_len k ls r
              have hb1 : r * k ≤ 28 := by
                have : r * k ≤ rowsN k s * k := Nat.mul_le_mul_right _ (by omega)
                omega
              have hb2 : (dataL k ls r).length ≤ 28 := by omega
              obtain ⟨d0, d1, d2⟩ := HC3.out _ S2
              have hyl : (ysL k ls r).length ≤ 8 := by simp [ysL]; omega
              obtain ⟨wy, hwy⟩ : ∃ wy : World, wy = wr := ⟨_, rfl⟩
              rw [← hwy] at hdt2 S2 hy d0 ⊢
              clear hwy hpts hb0 hdt hS hSw d1 d2
              go_wp2_with fail
              clear d0
              go_loopw [57, 7] (fun i vd wr => ∃ j : Nat, j ≤ k ∧ i = .int .i64 j ∧ Since w3.heap.size w3 wr ∧ OwnInts wr 3 w3.heap.size vd (dataL k ls r ++ outK k ls r j) ∧ OwnInts wr 3 wo.heap.size (.slice ay (ysL k ls r).length cy) (ysL k ls r) ∧ (∀ q, vd.ownBlock = some q → (Value.slice ay (ysL k ls r).length cy).ownBlock ≠ some q)) (fun i _ _ => k - (intOf i).toNat)
              case atStart => exact ⟨0, by omega, rfl, S2, by simpa [outK] using hdt2, hy, hne⟩
              case round =>
                obtain ⟨j, hj, rfl, hS, hdt, hy, hne⟩ := hrel
                have HNE := Lib.hid hne
                clear hne hdt2 S2
                obtain ⟨D, hDD⟩ : ∃ D, D = dataL k ls r ++ outK k ls r j := ⟨_, rfl⟩
                rw [← hDD] at hdt
                have HDD := Lib.hid hDD
                have hDl : D.length ≤ 40 := by rw [hDD, List.length_append, outK_len]; omega
                clear hDD
                by_cases hlj : j < k
                · obtain ⟨ad, cd, rfl, _⟩ := hdt.isInts.opened
                  have HVE := Lib.hid (valV_eq HPT.out (j : Int))
                  have HST := Lib.hid (outK_step k ls r j)
                  have hpb := atV_bd (xsL k ls) (ysL k ls r) (j : Int)
                  have ipv : I64 (atV (xsL k ls) (ysL k ls r) (j : Int)) := ⟨by omega, by omega⟩
                  have HDT := Lib.hid hdt
                  have HY := Lib.hid hy
                  clear hdt hy
                  go_wp2_with fail
                  refine (ValueAt_any _ _ (xsL k ls) (ysL k ls r) j _ (HX.out.stays hS.below) HY.out.isInts HPT.out (by omega) (by omega)).mono ?_
                  rintro e w5 ⟨rfl, hb5⟩
                  rw [HVE.out]
                  have S5 := hS.step hb5
                  have hdt5 := HDT.out.stays hb5
                  have hy5 := HY.out.stays hb5
                  have hgs := S5.2
                  have hylt : ∀ q, (Value.slice ay (ysL k ls r).length cy).ownBlock = some q → q < w5.heap.size := fun q hq => (hy5.1.lt q hq).2
                  clear hb5 hS
                  go_wp2_with (at_builtin; refine wpList_append_int_at rfl _ _ 24 rfl 3 Try.underlying24 info_int w3.heap.size (.slice ad D.length cd) D rfl (hdt5.stays (below_alloc _ _)) ⟨w5.heap.size, 0, none⟩ 1 (atV (xsL k ls) (ysL k ls r) (j : Int)) rfl (by simp) ipv (by omega) (by simp; omega) ?_; intro v6 w6 ho6 hg6 hat6)
                  have S6 := (S5.alloc (.cells #[.int .i64 (atV (xsL k ls) (ysL k ls r) (j : Int))] 3)).own (hdt5.stays (below_alloc _ _)) hg6
                  have hy6 := (hy5.stays (below_alloc w5 (.cells #[.int .i64 (atV (xsL k ls) (ysL k ls r) (j : Int))] 3))).kept hg6 (by
                    cases hq : (Value.slice ad D.length cd).ownBlock with
                    | none => cases (Value.slice ay (ysL k ls r).length cy).ownBlock <;> simp
                    | some q => exact Or.inr (HNE.out q hq))
                  have hne6 : ∀ q, v6.ownBlock = some q → (Value.slice ay (ysL k ls r).length cy).ownBlock ≠ some q := fun q hq e => by
                    rcases hat6 with h | h
                    · rw [h] at hq
                      exact HNE.out q hq e
                    · rw [h] at hq
                      have h1 := hylt q e
                      simp at hq
                      omega
                  have HO6 := Lib.hid ho6
                  clear ho6 hg6 hat6 hdt5 hy5 S5 hylt
                  go_roundw
                  case rel => exact ⟨j + 1, by omega, by go_num, S6, by rw [HST.out, ← List.append_assoc, ← HDD.out]; exact HO6.out, hy6, hne6⟩
                  case measure => simp [intOf]; omega
                · obtain rfl : k = j := by omega
                  have HDT := Lib.hid hdt
                  have HST := Lib.hid (dataL_step k ls r)
                  clear hdt hy
                  go_wp2_with fail
                  go_roundw
                  case rel => exact ⟨r + 1, by omega, by go_num, hS, by rw [HST.out, ← HDD.out]; exact HDT.out⟩
                  case measure => simp [intOf]; omega
        · obtain rfl : r = rowsN k s := by omega
          have hDl := dataL_len k ls (rowsN k s)
          have S6 := S3.step hS.below
          obtain ⟨D, hD⟩ : ∃ D, D = dataL k ls (rowsN k s) := ⟨_, rfl⟩
          have HMB := Lib.hid (show madeB k s ls = !hasNot (D.drop s) by rw [hD]; rfl)
          have HMC : Hid (madeB k s ls = true → madeC k s ls = D.take s) := Lib.hid (fun h => by rw [hD]; exact madeC_ok h)
          rw [← hD] at hdt hDl
          have hsD : s ≤ D.length := by omega
          have hDb : D.length ≤ 28 := by omega
          have hdi := hdt.isInts
          clear hD hDl hdt
          obtain ⟨a5, c5, rfl, hc5, ⟨_, hcm5, _⟩, hdz⟩ := hdi.opened
          obtain ⟨b5, o5, _, rfl, _⟩ := hdz 0 (by omega)
          have htk := hdi.take s hsD
          obtain ⟨wz, hwz⟩ : ∃ wz : World, wz = wr := ⟨_, rfl⟩
          rw [← hwz] at hdi htk d0 d1 d2 S6 ⊢
          clear hdz hwz hS
          have HTK := Lib.hid htk
          have hld := cell_lt d2
          have hsc5 : (s : Int) ≤ (D.length : Int) := by omega
          by_cases hsc : s < c5
          · have hfr := hdi.from s hsD
            have HFR := Lib.hid hfr
            have hne5 : ¬ (c5 = s) := by omega
            obtain ⟨Z, hZ⟩ : ∃ Z, Z = D.drop s := ⟨_, rfl⟩
            have HZL := Lib.hid (show Z.length = D.length - s by rw [hZ, List.length_drop])
            rw [← hZ] at HMB HFR
            clear hfr hdi htk hZ
            go_wp2_with fail
            obtain ⟨M, hM⟩ : ∃ M, M = D.length - s := ⟨_, rfl⟩
            rw [← hM] at HFR HZL ⊢
            have hMb : M ≤ 28 := by omega
            clear hM
            go_loopw [74] (fun i wr => ∃ q : Nat, q ≤ M ∧ i = .int .i64 q ∧ wr = wz ∧ hasNot (Z.drop q) = hasNot Z) (fun i _ => M - (intOf i).toNat)
            case atStart => exact ⟨0, by omega, rfl, rfl, rfl⟩
            case round =>
              obtain ⟨q, hq, rfl, rfl, hhn⟩ := hrel
              have HHN := Lib.hid hhn
              clear hhn
              by_cases hlq : q < M
              · have hqZ : q < Z.length := by rw [HZL.out]; exact hlq
                have hz : Z[q]? = some Z[q] := List.getElem?_eq_getElem hqZ
                obtain ⟨b1, o1, e1, q1, hiz⟩ := ints_at HFR.out hz
                cases e1
                have HDR := Lib.hid (drop_get hz)
                generalize Z[q] = z at *
                clear hz hqZ
                by_cases hz0 : z = 0
                · have hzz : (z != 0) = false := by simpa using hz0
                  have HNX := Lib.hid (show hasNot (Z.drop (q + 1)) = hasNot Z by rw [← HHN.out, HDR.out]; simp [hasNot, hz0])
                  clear hz0
                  go_wp2_with fail
                  go_roundw
                  case rel => exact ⟨q + 1, by omega, by go_num, by trivial, HNX.out⟩
                  case measure => simp [intOf]; omega
                · have hzz : (z != 0) = true := by simpa using hz0
                  have hmb : madeB k s ls = false := by rw [HMB.out, ← HHN.out, HDR.out]; simp [hasNot, hz0]
                  have HB0 := Lib.hid hmb
                  clear hz0 hmb
                  go_wp2_with fail
                  go_ret2
                  exact ⟨⟨_, ret_ib HB0.out.symm, by unfold madeC; rw [HB0.out, if_neg (by simp)]; exact IsInts.nil _⟩, (S0.step S6.below).below⟩
              · have hmb : madeB k s ls = true := by rw [HMB.out, ← HHN.out, List.drop_eq_nil_of_le (by rw [HZL.out]; omega)]; rfl
                have HB0 := Lib.hid hmb
                clear hmb
                go_wp2_with fail
                go_ret2
                exact ⟨⟨_, ret_ib HB0.out.symm, by rw [HMC.out HB0.out]; exact HTK.out⟩, (S0.step S6.below).below⟩
          · obtain rfl : s = c5 := by omega
            have hds : D.drop s = [] := List.drop_eq_nil_of_le (by omega)
            rw [hds] at HMB
            have hnn : hasNot [] = false := rfl
            rw [hnn] at HMB
            clear hds hnn hdi htk
            go_wp2_with fail
            go_loopw [74] (fun i wr => i = .int .i64 0 ∧ wr = wz) (fun _ _ => 0)
            case atStart => exact ⟨rfl, rfl⟩
            case round =>
              obtain ⟨rfl, rfl⟩ := hrel
              have HB0 : Hid (madeB k s ls = true) := Lib.hid (by rw [HMB.out]; rfl)
              go_wp2_with fail
              go_ret2
              exact ⟨⟨_, ret_ib HB0.out.symm, by rw [HMC.out HB0.out]; exact HTK.out⟩, (S0.step S6.below).below⟩

end Go.Proofs.Ytnpdojjffbhalaa
