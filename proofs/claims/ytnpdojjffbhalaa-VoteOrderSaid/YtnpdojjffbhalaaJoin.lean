/-
  The walk of share.Join.
-/
import Derived.Test.YtnpdojjffbhalaaJoinMath
namespace Go.Proofs.Ytnpdojjffbhalaa
open Go.RowKit

theorem IsShares.from {w : World} {b off L cap : Nat} {ls : List Sh} (h : IsShares w (.slice (some ⟨b, off, none⟩) L cap) ls) (n : Nat) (hn : n ≤ ls.length) :
    IsShares w (.slice (some ⟨b, off + n * 2, none⟩) (L - n) (cap - n)) (ls.drop n) := by
  obtain ⟨a', cap', e, h1, ⟨h2, h3, h4⟩, h5⟩ := h
  simp only [Value.slice.injEq] at e
  obtain ⟨rfl, rfl, rfl⟩ := e
  refine ⟨some ⟨b, off + n * 2, none⟩, cap - n, by simp, by simp; omega, ⟨by simp; omega, by omega, fun e => by cases e⟩, ?_⟩
  intro i hi
  simp at hi
  obtain ⟨b', off', v, s, e, g1, g2, g3, g4, g5⟩ := h5 (n + i) (by omega)
  cases e
  refine ⟨b, off + n * 2, v, s, rfl, ?_, ?_, g3, by rw [List.getElem?_drop]; exact g4, g5⟩
  · rw [show off + n * 2 + i * 2 = off + (n + i) * 2 by omega]; exact g1
  · rw [show off + n * 2 + i * 2 + 1 = off + (n + i) * 2 + 1 by omega]; exact g2

theorem IsShares.take {w : World} {a : Option Addr} {L cap : Nat} {ls : List Sh} (h : IsShares w (.slice a L cap) ls) (n : Nat) (hn : n ≤ ls.length) (c : Nat) (hc : n ≤ c) (hcm : c ≤ 9223372036854775807) (ha : a = none → c = 0) :
    IsShares w (.slice a n c) (ls.take n) := by
  obtain ⟨a', cap', e, h1, ⟨h2, h3, h4⟩, h5⟩ := h
  simp only [Value.slice.injEq] at e
  obtain ⟨rfl, _, rfl⟩ := e
  refine ⟨a, c, by simp; omega, by simp; omega, ⟨by simp; omega, hcm, ha⟩, ?_⟩
  intro i hi
  have hi' : i < n := by simp at hi; omega
  obtain ⟨b, off, v, s, rfl, g1, g2, g3, g4, g5⟩ := h5 i (by omega)
  exact ⟨b, off, v, s, rfl, g1, g2, g3, by rw [List.getElem?_take, if_pos hi']; exact g4, g5⟩

set_option maxRecDepth 100000 in
set_option maxHeartbeats 4000000 in
theorem Join_no (n o s : Int) (v : Value) (ls : List Sh) (W : World) (hd : IsShares W v ls) (hp : planV n o s = 0) (hl : ls.length ≤ 8) (hE : checkL n o s [] ls ≠ 0) :
    Calls Try.prog 22 #[.agg #[.int .i64 n, .int .i64 o, .int .i64 s], v] W fun e w' => e = .returned (.tuple #[.slice none 0 0, .int .i64 (checkL n o s [] ls)]) ∧ Below W.heap.size W w' := by
  obtain ⟨a, c, rfl, hcap, ⟨hm, hcm, hnone⟩, _⟩ := hd.opened
  have S0 := (Since.refl W).alloc (.cells #[.int .i64 n, .int .i64 o, .int .i64 s] 23)
  have hd0 := hd.stays (below_alloc _ (.cells #[.int .i64 n, .int .i64 o, .int .i64 s] 23))
  have c0 : (W.alloc (.cells #[.int .i64 n, .int .i64 o, .int .i64 s] 23)).cell? ⟨W.heap.size, 0, none⟩ = some (.int .i64 n) := by go_simp
  have c1 : (W.alloc (.cells #[.int .i64 n, .int .i64 o, .int .i64 s] 23)).cell? ⟨W.heap.size, 1, none⟩ = some (.int .i64 o) := by go_simp
  have c2 : (W.alloc (.cells #[.int .i64 n, .int .i64 o, .int .i64 s] 23)).cell? ⟨W.heap.size, 2, none⟩ = some (.int .i64 s) := by go_simp
  obtain ⟨w0, hw0⟩ : ∃ w0, w0 = W.alloc (.cells #[.int .i64 n, .int .i64 o, .int .i64 s] 23) := ⟨_, rfl⟩
  rw [← hw0] at S0 hd0 c0 c1 c2
  have HW := Lib.hid hw0
  clear hw0
  obtain ⟨B, hB⟩ : ∃ B, B = W.heap.size := ⟨_, rfl⟩
  rw [← hB] at c0 c1 c2
  have HB := Lib.hid hB
  clear hB
  have l0 := cell_lt c0
  have HP := Lib.hid hp
  have HE := Lib.hid hE
  clear hp hE hd
  go_enter Try.func22, Try.ntmps22
  go_wp2_with fail
  rw [← HW.out, ← HB.out]
  refine (planCheck_any _ _ _ _).mono ?_
  rintro e w1 ⟨rfl, hb1⟩
  rw [HP.out]
  have T1 := (Since.refl w0).step hb1
  clear hb1
  go_wp2_with fail
  go_loopw [35] (fun i wr => ∃ k : Nat, k ≤ ls.length ∧ i = .int .i64 k ∧ Since w0.heap.size w0 wr ∧ checkL n o s (ls.take k) (ls.drop k) = checkL n o s [] ls) (fun i _ => ls.length - (intOf i).toNat)
  case atStart => exact ⟨0, by omega, rfl, T1, by simp⟩
  case round =>
    obtain ⟨k, hk, rfl, hS, hq⟩ := hrel
    have HQ := Lib.hid hq
    clear hq
    have hdr := hd0.stays hS.below
    clear T1
    by_cases hlt : k < ls.length
    · obtain ⟨a', c', ee, _, _, hi⟩ := hdr.opened
      simp only [Value.slice.injEq] at ee
      obtain ⟨rfl, _, rfl⟩ := ee
      obtain ⟨b1, o1, v1, s1, rfl, h1, h2, h3, h4, h5⟩ := hi k hlt
      have HD := Lib.hid (drop_get h4)
      have HT := Lib.hid (show ls.take (k + 1) = ls.take k ++ [s1] by rw [List.take_add_one, h4]; rfl)
      clear h4 hi
      obtain ⟨a1, k1, rfl, _⟩ := h3.opened
      have S2 := hS.alloc (.cells #[.int .i64 s1.1, .slice a1 s1.2.length k1] 33)
      have hdr2 := hdr.stays (below_alloc wr (.cells #[.int .i64 s1.1, .slice a1 s1.2.length k1] 33))
      have h32 := h3.stays (below_alloc wr (.cells #[.int .i64 s1.1, .slice a1 s1.2.length k1] 33))
      have e0 := (S2.below.cell (p := ⟨B, 0, none⟩) l0).trans c0
      have e1 := (S2.below.cell (p := ⟨B, 1, none⟩) l0).trans c1
      have e2 := (S2.below.cell (p := ⟨B, 2, none⟩) l0).trans c2
      have e3 : (wr.alloc (.cells #[.int .i64 s1.1, .slice a1 s1.2.length k1] 33)).cell? ⟨wr.heap.size, 0, none⟩ = some (.int .i64 s1.1) := by go_simp
      have e4 : (wr.alloc (.cells #[.int .i64 s1.1, .slice a1 s1.2.length k1] 33)).cell? ⟨wr.heap.size, 1, none⟩ = some (.slice a1 s1.2.length k1) := by go_simp
      have l3 := cell_lt e3
      have hdk := hdr2.take k hk c (by omega) hcm hnone
      by_cases hone : oneV n o s s1.1 s1.2 = 0
      · have HO := Lib.hid hone
        clear hone
        have hkc : k ≤ c := by omega
        go_wp2_with fail
        refine (One_any _ _ _ _ _ _ _ h32).mono ?_
        rintro e w3 ⟨rfl, hb3⟩
        rw [HO.out]
        have S3 := S2.step hb3
        have hdk3 := hdk.stays hb3
        have e33 := (hb3.cell (p := ⟨wr.heap.size, 0, none⟩) l3).trans e3
        obtain ⟨H, hH⟩ : ∃ H, H = hasN (ls.take k) s1.1 := ⟨_, rfl⟩
        have HH := Lib.hid hH
        clear hH e0 e1 e2 e3 e4 h1 h2 hdr hdr2 hdk hb3
        go_wp2_with fail
        refine (ContainsShares_any _ _ _ _ _ hdk3 e33).mono ?_
        rintro e w4 ⟨rfl, hb4⟩
        rw [← HH.out]
        have S4 := S3.step hb4
        cases H with
        | true =>
          go_wp2_with fail
          go_ret2
          refine ⟨ret_nilE ?_, (S0.step S4.below).below⟩
          rw [← HQ.out, HD.out]
          simp [checkL, HO.out, ← HH.out]
        | false =>
          go_wp2_with fail
          go_roundw
          case rel =>
            refine ⟨k + 1, by omega, by go_num, S4, ?_⟩
            rw [← HQ.out, HD.out, HT.out]
            simp [checkL, HO.out, ← HH.out]
          case measure => simp [intOf]; omega
      · have hone1 : (oneV n o s s1.1 s1.2 != 0) = true := by simpa using hone
        have HO := Lib.hid hone
        clear hone
        go_wp2_with fail
        refine (One_any _ _ _ _ _ _ _ h32).mono ?_
        rintro e w3 ⟨rfl, hb3⟩
        have S3 := S2.step hb3
        clear e0 e1 e2 e3 e4 h1 h2 hdr hdr2 hdk
        go_wp2_with fail
        go_ret2
        refine ⟨ret_nilE ?_, (S0.step S3.below).below⟩
        rw [← HQ.out, HD.out]
        unfold checkL
        rw [if_pos HO.out]
    · obtain rfl : ls.length = k := by omega
      exfalso
      apply HE.out
      rw [← HQ.out]
      simp [checkL]

set_option maxRecDepth 100000 in
set_option maxHeartbeats 8000000 in
theorem Join_ok (n o s : Nat) (v : Value) (ls : List Sh) (W : World) (hd : IsShares W v ls) (hR : Right n o s ls) (hE : checkL n o s [] ls = 0) :
    Calls Try.prog 22 #[.agg #[.int .i64 n, .int .i64 o, .int .i64 s], v] W fun e w' => (∃ v', e = .returned (.tuple #[v', .int .i64 (joinE n o s ls)]) ∧ IsInts w' v' (joinC n o s ls)) ∧ Below W.heap.size W w' := by
  obtain ⟨p1, p2, p3, p4, p5, p6⟩ := planV_bd hR.plan
  have hlen8 := hR.many
  have hfew := hR.few
  obtain ⟨r1, r2, r3⟩ := rowsN_bd (n := n) (s := s) (by omega) (by omega) (by omega) (by omega)
  obtain ⟨a, c, rfl, hcap, ⟨hm, hcm, hnone⟩, hda⟩ := hd.opened
  have S0 := (Since.refl W).alloc (.cells #[.int .i64 (n : Int), .int .i64 (o : Int), .int .i64 (s : Int)] 23)
  have hd0 := hd.stays (below_alloc _ (.cells #[.int .i64 (n : Int), .int .i64 (o : Int), .int .i64 (s : Int)] 23))
  have c0 : (W.alloc (.cells #[.int .i64 (n : Int), .int .i64 (o : Int), .int .i64 (s : Int)] 23)).cell? ⟨W.heap.size, 0, none⟩ = some (.int .i64 (n : Int)) := by go_simp
  have c1 : (W.alloc (.cells #[.int .i64 (n : Int), .int .i64 (o : Int), .int .i64 (s : Int)] 23)).cell? ⟨W.heap.size, 1, none⟩ = some (.int .i64 (o : Int)) := by go_simp
  have c2 : (W.alloc (.cells #[.int .i64 (n : Int), .int .i64 (o : Int), .int .i64 (s : Int)] 23)).cell? ⟨W.heap.size, 2, none⟩ = some (.int .i64 (s : Int)) := by go_simp
  obtain ⟨w0, hw0⟩ : ∃ w0, w0 = W.alloc (.cells #[.int .i64 (n : Int), .int .i64 (o : Int), .int .i64 (s : Int)] 23) := ⟨_, rfl⟩
  rw [← hw0] at S0 hd0 c0 c1 c2
  have HW := Lib.hid hw0
  clear hw0
  obtain ⟨B, hB⟩ : ∃ B, B = W.heap.size := ⟨_, rfl⟩
  rw [← hB] at c0 c1 c2
  have HB := Lib.hid hB
  clear hB
  have l0 := cell_lt c0
  obtain ⟨bd, od, _, _, rfl, _⟩ := hda 0 (by omega)
  have HR := Lib.hid hR
  have HP := Lib.hid hR.plan
  have hchk : checkL n o s [] ls = 0 := hE
  have HE := Lib.hid hchk
  have hJ : joinE n o s ls = if tornsL n ls (rowsN n s) then 9 else if hasNot ((dataL n ls (rowsN n s)).drop s) then 9 else 0 := by
    unfold joinE checksL
    rw [if_neg (c := planV n o s ≠ 0) (by simpa using hR.plan), if_neg (c := 8 < (ls.length : Int)) (by omega), if_neg (c := checkL n o s [] ls ≠ 0) (by simpa using hE), if_neg (c := (ls.length : Int) < n) (by omega)]
    rfl
  have HJ := Lib.hid hJ
  clear hJ hchk hE hd hR hda
  have HL := Lib.hid (longV_nat HP.out)
  obtain ⟨R, hRr⟩ : ∃ R, R = rowsN n s := ⟨_, rfl⟩
  rw [← hRr] at r1 r2 r3 HJ HL
  have HRr := Lib.hid hRr
  clear hRr
  go_enter Try.func22, Try.ntmps22
  go_wp2_with fail
  rw [← HW.out, ← HB.out]
  refine (planCheck_any _ _ _ _).mono ?_
  rintro e w1 ⟨rfl, hb1⟩
  rw [HP.out]
  have T1 := (Since.refl w0).step hb1
  clear hb1
  go_wp2_with fail
  go_loopw [35] (fun i wr => ∃ k : Nat, k ≤ ls.length ∧ i = .int .i64 k ∧ Since w0.heap.size w0 wr ∧ checkL n o s (ls.take k) (ls.drop k) = 0) (fun i _ => ls.length - (intOf i).toNat)
  case atStart => exact ⟨0, by omega, rfl, T1, by simpa using HE.out⟩
  case round =>
    obtain ⟨k, hk, rfl, hS, hq⟩ := hrel
    have hdr := hd0.stays hS.below
    clear T1
    by_cases hlt : k < ls.length
    · obtain ⟨a', c', ee, _, _, hi⟩ := hdr.opened
      simp only [Value.slice.injEq] at ee
      obtain ⟨rfl, _, rfl⟩ := ee
      obtain ⟨b1, o1, v1, s1, e9, h1, h2, h3, h4, h5⟩ := hi k hlt
      cases e9
      rw [drop_get h4] at hq
      have hone : oneV n o s s1.1 s1.2 = 0 := by
        unfold checkL at hq
        split at hq
        · rename_i g; exact absurd hq g
        · rename_i g; simpa using g
      have hhas : hasN (ls.take k) s1.1 = false := by
        unfold checkL at hq
        rw [if_neg (by simpa using hone)] at hq
        split at hq
        · simp at hq
        · rename_i g; simpa using g
      have hnx : checkL n o s (ls.take (k + 1)) (ls.drop (k + 1)) = 0 := by
        unfold checkL at hq
        rw [if_neg (by simpa using hone), if_neg (by simpa using hhas)] at hq
        rw [List.take_add_one, h4]
        exact hq
      have HNX := Lib.hid hnx
      have HO := Lib.hid hone
      have HH := Lib.hid hhas
      clear h4 hi hq hnx hone hhas
      obtain ⟨a1, k1, rfl, _⟩ := h3.opened
      have S2 := hS.alloc (.cells #[.int .i64 s1.1, .slice a1 s1.2.length k1] 33)
      have hdr2 := hdr.stays (below_alloc wr (.cells #[.int .i64 s1.1, .slice a1 s1.2.length k1] 33))
      have h32 := h3.stays (below_alloc wr (.cells #[.int .i64 s1.1, .slice a1 s1.2.length k1] 33))
      have e0 := (S2.below.cell (p := ⟨B, 0, none⟩) l0).trans c0
      have e1 := (S2.below.cell (p := ⟨B, 1, none⟩) l0).trans c1
      have e2 := (S2.below.cell (p := ⟨B, 2, none⟩) l0).trans c2
      have e3 : (wr.alloc (.cells #[.int .i64 s1.1, .slice a1 s1.2.length k1] 33)).cell? ⟨wr.heap.size, 0, none⟩ = some (.int .i64 s1.1) := by go_simp
      have e4 : (wr.alloc (.cells #[.int .i64 s1.1, .slice a1 s1.2.length k1] 33)).cell? ⟨wr.heap.size, 1, none⟩ = some (.slice a1 s1.2.length k1) := by go_simp
      have l3 := cell_lt e3
      have hdk := hdr2.take k hk c (by omega) hcm hnone
      have hkc : k ≤ c := by omega
      go_wp2_with fail
      refine (One_any _ _ _ _ _ _ _ h32).mono ?_
      rintro e w3 ⟨rfl, hb3⟩
      rw [HO.out]
      have S3 := S2.step hb3
      have hdk3 := hdk.stays hb3
      have e33 := (hb3.cell (p := ⟨wr.heap.size, 0, none⟩) l3).trans e3
      clear e0 e1 e2 e3 e4 h1 h2 hdr hdr2 hdk hb3
      go_wp2_with fail
      refine (ContainsShares_any _ _ _ _ _ hdk3 e33).mono ?_
      rintro e w4 ⟨rfl, hb4⟩
      rw [HH.out]
      have S4 := S3.step hb4
      go_wp2_with fail
      go_roundw
      case rel => exact ⟨k + 1, by omega, by go_num, S4, HNX.out⟩
      case measure => simp [intOf]; omega
    · obtain rfl : k = ls.length := by omega
      clear hq hlt hk
      have d0 := (hS.below.cell (p := ⟨B, 0, none⟩) l0).trans c0
      have hnc : n ≤ c := by omega
      have hln : decide (ls.length < n) = false := by simp; omega
      obtain ⟨wo, hwo⟩ : ∃ wo : World, wo = wr := ⟨_, rfl⟩
      rw [← hwo] at hS hdr d0 ⊢
      clear hwo
      go_wp2_with fail
      clear d0
      go_loopw [62, 10] (fun i x wr => ∃ k : Nat, k ≤ n ∧ i = .int .i64 k ∧ Since w0.heap.size w0 wr ∧ OwnInts wr 3 w0.heap.size x (xsL k ls)) (fun i _ _ => n - (intOf i).toNat)
      case atStart => exact ⟨0, by omega, rfl, hS, OwnInts.nil _ _ _⟩
      case round =>
        clear hS hdr
        obtain ⟨k, hk, rfl, hS, hx⟩ := hrel
        by_cases hlt : k < n
        · obtain ⟨a', c', ee, _, _, hi⟩ := (hd0.stays hS.below).opened
          simp only [Value.slice.injEq] at ee
          obtain ⟨rfl, _, rfl⟩ := ee
          obtain ⟨b1, o1, v1, s1, e9, h1, h2, h3, h4, h5⟩ := hi k (by omega)
          cases e9
          have HX := Lib.hid (xsL_step h4)
          have hnum : I64 s1.1 := h5
          obtain ⟨i1, i2⟩ := h5
          clear h4 hi
          obtain ⟨a1, k1, rfl, _⟩ := h3.opened
          have S2 := hS.alloc (.cells #[.int .i64 s1.1, .slice a1 s1.2.length k1] 33)
          have e3 : (wr.alloc (.cells #[.int .i64 s1.1, .slice a1 s1.2.length k1] 33)).cell? ⟨wr.heap.size, 0, none⟩ = some (.int .i64 s1.1) := by go_simp
          have hx2 := hx.stays (below_alloc wr (.cells #[.int .i64 s1.1, .slice a1 s1.2.length k1] 33))
          have hlx : (xsL k ls).length ≤ 8 := by simp [xsL]; omega
          have hgs := hS.2
          go_wp2_with (at_builtin; refine wpList_append_int rfl _ _ 24 rfl 3 Try.underlying24 info_int w0.heap.size _ _ rfl (hx2.stays (below_alloc _ _)) ⟨wr.heap.size + 1, 0, none⟩ 1 s1.1 rfl (by go_simp) hnum (by omega) (by simp; omega) ?_; intro v' w4 hx4 hg4)
          go_roundw
          case rel =>
            exact ⟨k + 1, by omega, by go_num, (S2.alloc _).own (hx2.stays (below_alloc _ _)) hg4, by rw [HX.out]; exact hx4⟩
          case measure => simp [intOf]; omega
        · obtain rfl : n = k := by omega
          clear hlt hk
          have d0 := (hS.below.cell (p := ⟨B, 0, none⟩) l0).trans c0
          have d1 := (hS.below.cell (p := ⟨B, 1, none⟩) l0).trans c1
          have d2 := (hS.below.cell (p := ⟨B, 2, none⟩) l0).trans c2
          go_wp2_with fail
          refine (Long_any _ _ _ _).mono ?_
          rintro e w5 ⟨rfl, hb5⟩
          rw [HL.out]
          have S5 := hS.step hb5
          have hx5 := hx.stays hb5
          clear hS hx d0 d1 d2
          obtain ⟨g1, hg1⟩ : ∃ g1, g1 = w5.heap.size := ⟨_, rfl⟩
          have hxl := fun j (hj : u10.ownBlock = some j) => (hx5.1.lt j hj).2
          rw [← hg1] at hxl
          have hg1' : g1 ≤ w5.heap.size := by omega
          have hg0 : w0.heap.size ≤ g1 := by rw [hg1]; exact S5.2
          clear hg1 hb5
          go_wp2_with fail
          go_loopw [74, 13] (fun i dv wr => ∃ r : Nat, r ≤ R ∧ i = .int .i64 r ∧ Since w0.heap.size w0 wr ∧ g1 ≤ wr.heap.size ∧ OwnInts wr 3 w0.heap.size u10 (xsL n ls) ∧ OwnInts wr 3 g1 dv (dataL n ls r) ∧ tornsL n ls r = false) (fun i _ _ => R - (intOf i).toNat)
          case atStart => exact ⟨0, by omega, rfl, S5, hg1', hx5, OwnInts.nil _ _ _, rfl⟩
          case round =>
            clear S5 hg1' hx5
            obtain ⟨r, hr, rfl, hS, hgw, hx, hdv, hto⟩ := hrel
            obtain ⟨wo, hwo⟩ : ∃ wo : World, wo = wr := ⟨_, rfl⟩
            rw [← hwo] at hS hgw hx hdv ⊢
            clear hwo
            by_cases hlt : r < R
            · have hPT := Lib.hid (ptsV_ok.2 (HR.out.pts r))
              have HTO := Lib.hid hto
              clear hto
              have d0 := (hS.below.cell (p := ⟨B, 0, none⟩) l0).trans c0
              obtain ⟨gy, hgy⟩ : ∃ gy, gy = wo.heap.size := ⟨_, rfl⟩
              have hdl := fun j (hj : u13.ownBlock = some j) => (hdv.1.lt j hj).2
              rw [← hgy] at hdl hgw
              have hgy' : gy ≤ wo.heap.size := by omega
              have hgs := hS.2
              rw [← hgy] at hgs
              clear hgy
              go_wp2_with fail
              clear d0
              go_loopw [82, 15] (fun i y wr => ∃ k : Nat, k ≤ n ∧ i = .int .i64 k ∧ Since w0.heap.size w0 wr ∧ gy ≤ wr.heap.size ∧ OwnInts wr 3 w0.heap.size u10 (xsL n ls) ∧ OwnInts wr 3 g1 u13 (dataL n ls r) ∧ OwnInts wr 3 gy y (ysL k ls r)) (fun i _ _ => n - (intOf i).toNat)
              case atStart => exact ⟨0, by omega, rfl, hS, hgy', hx, hdv, OwnInts.nil _ _ _⟩
              case round =>
                clear hS hgy' hx hdv
                obtain ⟨k, hk, rfl, hS, hgw4, hx, hdv, hy⟩ := hrel
                by_cases hkn : k < n
                · obtain ⟨a', c', ee, _, _, hi⟩ := (hd0.stays hS.below).opened
                  simp only [Value.slice.injEq] at ee
                  obtain ⟨rfl, _, rfl⟩ := ee
                  obtain ⟨b1, o1, v1, s1, e9, h1, h2, h3, h4, h5⟩ := hi k (by omega)
                  cases e9
                  have HY := Lib.hid (ysL_step r h4)
                  have hvl := HR.out.len s1 (List.mem_of_getElem? h4)
                  rw [← HRr.out] at hvl
                  have hvr : r < s1.2.length := by omega
                  clear h4 hi h5 hvl
                  obtain ⟨a1, k1, rfl, _, ⟨q1, _⟩, hz⟩ := h3.opened
                  obtain ⟨b2, o2, z2, rfl, hz1, hz2, hz3⟩ := hz r (by omega)
                  have HZ := Lib.hid (show s1.2.getD r 0 = z2 by rw [List.getD_eq_getElem?_getD, hz2]; rfl)
                  clear hz hz2
                  have S2 := hS.alloc (.cells #[.int .i64 s1.1, .slice (some ⟨b2, o2, none⟩) s1.2.length k1] 33)
                  have bb := below_alloc wr (.cells #[.int .i64 s1.1, .slice (some ⟨b2, o2, none⟩) s1.2.length k1] 33)
                  have e4 : (wr.alloc (.cells #[.int .i64 s1.1, .slice (some ⟨b2, o2, none⟩) s1.2.length k1] 33)).cell? ⟨wr.heap.size, 1, none⟩ = some (.slice (some ⟨b2, o2, none⟩) s1.2.length k1) := by go_simp
                  have e5 := (bb.cell (p := ⟨b2, o2 + r, none⟩) (cell_lt hz1)).trans hz1
                  have hy2 := hy.stays bb
                  have hx2 := hx.stays bb
                  have hd2 := hdv.stays bb
                  have hly : (ysL k ls r).length ≤ 8 := by simp [ysL]; omega
                  have hyl := fun j (hj : u15.ownBlock = some j) => (hy.1.lt j hj).1
                  obtain ⟨z20, z21⟩ := hz3
                  go_wp2_with (at_builtin; refine wpList_append_int rfl _ _ 24 rfl 3 Try.underlying24 info_int gy _ _ rfl (hy2.stays (below_alloc _ _)) ⟨wr.heap.size + 1, 0, none⟩ 1 z2 rfl (by go_simp) ⟨z20, z21⟩ (by omega) (by simp; omega) ?_; intro v' w4 hy4 hg4)
                  go_roundw
                  case rel =>
                    refine ⟨k + 1, by omega, by go_num, (S2.alloc _).grown hg4 (fun j hj => ?_), Nat.le_trans (by simp; omega) hg4.size, (hx2.stays (below_alloc _ _)).kept hg4 ?_, (hd2.stays (below_alloc _ _)).kept hg4 ?_, by rw [HY.out, HZ.out]; exact hy4⟩
                    · have := hyl j hj; omega
                    · cases hb : u10.ownBlock with
                      | none => exact Or.inl rfl
                      | some j => right; intro e; have := hxl j hb; have := hyl j e.symm; omega
                    · cases hb : u13.ownBlock with
                      | none => exact Or.inl rfl
                      | some j => right; intro e; have := hdl j hb; have := hyl j e.symm; omega
                  case measure => simp [intOf]; omega
                · obtain rfl : n = k := by omega
                  clear hkn hk
                  have d0 := (hS.below.cell (p := ⟨B, 0, none⟩) l0).trans c0
                  have hyl := fun j (hj : u15.ownBlock = some j) => (hy.1.lt j hj).1
                  have hap : Apart u13 u15 := fun i j hi hj e => by
                    have := hdl i hi
                    have := hyl j hj
                    omega
                  have hrn : r * n ≤ 24 * 4 := Nat.mul_le_mul (by omega) (by omega)
                  go_wp2_with fail
                  clear d0
                  go_loopw [97, 13] (fun i dv wr => ∃ k : Nat, k ≤ n ∧ i = .int .i64 k ∧ Since w0.heap.size w0 wr ∧ gy ≤ wr.heap.size ∧ OwnInts wr 3 w0.heap.size u10 (xsL n ls) ∧ OwnInts wr 3 g1 dv (dataL n ls r ++ outK n ls r k) ∧ OwnInts wr 3 gy u15 (ysL n ls r) ∧ Apart dv u15) (fun i _ _ => n - (intOf i).toNat)
                  case atStart => exact ⟨0, by omega, rfl, hS, hgw4, hx, by simpa [outK] using hdv, hy, hap⟩
                  case round =>
                    clear hS hgw4 hx hdv hy hap
                    obtain ⟨k, hk, rfl, hS, hgw5, hx, hdv, hy, hap⟩ := hrel
                    by_cases hkn : k < n
                    · go_wp2_with fail
                      refine (At_ok _ _ (xsL n ls) (ysL n ls r) k _ hx.isInts hy.isInts hPT.out (by omega) (by omega)).mono ?_
                      rintro e w6 ⟨rfl, hb6⟩
                      have S6 := hS.step hb6
                      have hx6 := hx.stays hb6
                      have hy6 := hy.stays hb6
                      have hd6 := hdv.stays hb6
                      have hgw6 := Nat.le_trans hgw5 hb6.size
                      have hpb := atV_bd (xsL n ls) (ysL n ls r) k
                      have iz6 : I64 (atV (xsL n ls) (ysL n ls r) k) := ⟨by omega, by omega⟩
                      have hlen6 : (dataL n ls r ++ outK n ls r k).length ≤ 100 := by rw [List.length_append, dataL_len, outK_len]; omega
                      have hd7 := fun o => hd6.stays (below_alloc w6 o)
                      have HD7 := Lib.hid hd7
                      clear hb6 hS hx hdv hd7 hy
                      obtain ⟨du, hdu⟩ : ∃ du, du = dataL n ls r ++ outK n ls r k := ⟨_, rfl⟩
                      rw [← hdu] at hlen6 hd6
                      have HDU := Lib.hid hdu
                      clear hdu
                      go_wp2_with (at_builtin; refine wpList_append_int_at rfl _ _ 24 rfl 3 Try.underlying24 info_int g1 _ du rfl (hd6.stays (below_alloc w6 _)) ⟨w6.heap.size, 0, none⟩ 1 (atV (xsL n ls) (ysL n ls r) k) rfl (by simp) iz6 (by omega) (by simp; omega) ?_; intro v' w7 ho7 hg7 hat7; obtain ⟨av, cv, rfl, _⟩ := ho7.isInts.opened)
                      have hg8 := gr_of (c := u13) rfl hg7
                      have hat8 := at_of (c := u13) rfl hat7
                      clear hg7 hat7
                      have hy7 := hy6.stays (below_alloc w6 (.cells #[.int .i64 (atV (xsL n ls) (ysL n ls r) k)] 3))
                      have hx7 := (hx6.stays (below_alloc w6 (.cells #[.int .i64 (atV (xsL n ls) (ysL n ls r) k)] 3))).kept hg8 (by
                        cases hb : u10.ownBlock with
                        | none => exact Or.inl rfl
                        | some j => right; intro e; have := hxl j hb; have := (hd6.1.lt j e.symm).1; omega)
                      have S7 := (S6.alloc (.cells #[.int .i64 (atV (xsL n ls) (ysL n ls r) k)] 3)).grown hg8 (fun j hj => Nat.le_trans hg0 (hd6.1.lt j hj).1)
                      have hy8 := hy7.kept hg8 hap.ne
                      have hap8 := Apart.grown hap hat8 (fun j hj => (hy7.1.lt j hj).2)
                      rw [List.length_append] at ho7 hap8
                      have ho8 : OwnInts w7 3 g1 (.slice av (du.length + 1) cv) (dataL n ls r ++ outK n ls r (k + 1)) := by
                        rw [outK_step, ← List.append_assoc, ← HDU.out]
                        exact ho7
                      have hgw7 : gy ≤ w7.heap.size := Nat.le_trans hgw6 (Nat.le_trans (by simp) hg8.size)
                      go_roundw
                      case rel => exact ⟨k + 1, by omega, by go_num, S7, hgw7, hx7, ho8, hy8, hap8⟩
                      case measure => simp [intOf]; omega
                    · obtain rfl : n = k := by omega
                      clear hkn hk hap
                      rw [← dataL_step] at hdv
                      have d0 := (hS.below.cell (p := ⟨B, 0, none⟩) l0).trans c0
                      have hgwr : g1 ≤ wr.heap.size := by omega
                      have hx0 := hx
                      obtain ⟨wq, hwq⟩ : ∃ wq : World, wq = wr := ⟨_, rfl⟩
                      rw [← hwq] at hS hgwr hx hdv hy d0 ⊢
                      clear hwq hgw5 hx0
                      by_cases hn : n < c
                      · skip
                        go_wp2_with fail
                        obtain ⟨m, hm⟩ : ∃ m, m = ls.length - n := ⟨_, rfl⟩
                        rw [← hm]
                        have hm8 : m ≤ 8 := by omega
                        have HM := Lib.hid hm
                        clear hm d0
                        go_loopw [120] (fun i wr => ∃ k : Nat, k ≤ m ∧ i = .int .i64 k ∧ Since w0.heap.size w0 wr ∧ g1 ≤ wr.heap.size ∧ OwnInts wr 3 w0.heap.size u10 (xsL n ls) ∧ OwnInts wr 3 g1 u13 (dataL n ls (r + 1)) ∧ OwnInts wr 3 gy u15 (ysL n ls r) ∧ (((ls.drop n).take k).any fun t => decide (atV (xsL n ls) (ysL n ls r) t.1 ≠ t.2.getD r 0)) = false) (fun i _ => m - (intOf i).toNat)
                        case atStart => exact ⟨0, by omega, by go_num, hS, hgwr, hx, hdv, hy, by simp⟩
                        case round =>
                          clear hS hgwr hx hdv hy
                          obtain ⟨k, hk, rfl, hS, hgw6, hx, hdv, hy, hq⟩ := hrel
                          have HQ := Lib.hid hq
                          clear hq
                          by_cases hkl : k < m
                          · obtain ⟨a', c', ee, _, _, hi⟩ := ((hd0.stays hS.below).from n hfew).opened
                            simp only [Value.slice.injEq] at ee
                            obtain ⟨rfl, _, rfl⟩ := ee
                            obtain ⟨b1, o1, v1, s1, e9, h1, h2, h3, h4, h5⟩ := hi k (by have := HM.out; simp; omega)
                            cases e9
                            have HTK := Lib.hid (show (ls.drop n).take (k + 1) = (ls.drop n).take k ++ [s1] by rw [List.take_add_one, h4]; rfl)
                            have hms : s1 ∈ ls := List.mem_of_mem_drop (List.mem_of_getElem? h4)
                            have HMS := Lib.hid (show s1 ∈ ls.drop n from List.mem_of_getElem? h4)
                            have hvl := HR.out.len s1 hms
                            rw [← HRr.out] at hvl
                            have hvr : r < s1.2.length := by omega
                            obtain ⟨n10, n11⟩ := HR.out.num s1 hms
                            clear hms
                            clear h4 hi h5 hvl
                            obtain ⟨a1, k1, rfl, _, ⟨q1, _⟩, hz⟩ := h3.opened
                            obtain ⟨b2, o2, z2, rfl, hz1, hz2, hz3⟩ := hz r (by omega)
                            have HZ := Lib.hid (show s1.2.getD r 0 = z2 by rw [List.getD_eq_getElem?_getD, hz2]; rfl)
                            clear hz hz2
                            have S2 := hS.alloc (.cells #[.int .i64 s1.1, .slice (some ⟨b2, o2, none⟩) s1.2.length k1] 33)
                            have bb := below_alloc wr (.cells #[.int .i64 s1.1, .slice (some ⟨b2, o2, none⟩) s1.2.length k1] 33)
                            have e3 : (wr.alloc (.cells #[.int .i64 s1.1, .slice (some ⟨b2, o2, none⟩) s1.2.length k1] 33)).cell? ⟨wr.heap.size, 0, none⟩ = some (.int .i64 s1.1) := by go_simp
                            have e4 : (wr.alloc (.cells #[.int .i64 s1.1, .slice (some ⟨b2, o2, none⟩) s1.2.length k1] 33)).cell? ⟨wr.heap.size, 1, none⟩ = some (.slice (some ⟨b2, o2, none⟩) s1.2.length k1) := by go_simp
                            have e5 := (bb.cell (p := ⟨b2, o2 + r, none⟩) (cell_lt hz1)).trans hz1
                            have hx2 := hx.stays bb
                            have hy2 := hy.stays bb
                            have hd2 := hdv.stays bb
                            go_wp2_with fail
                            refine (At_ok _ _ (xsL n ls) (ysL n ls r) s1.1 _ hx2.isInts hy2.isInts hPT.out (by omega) (by omega)).mono ?_
                            rintro e w6 ⟨rfl, hb6⟩
                            have f4 := (hb6.cell (p := ⟨wr.heap.size, 1, none⟩) (cell_lt e4)).trans e4
                            have f5 := (hb6.cell (p := ⟨b2, o2 + r, none⟩) (cell_lt e5)).trans e5
                            have S6 := S2.step hb6
                            clear e3 e4 e5 h1 h2 hz1
                            by_cases hv : atV (xsL n ls) (ysL n ls r) s1.1 = z2
                            · have hv1 : (atV (xsL n ls) (ysL n ls r) s1.1 != z2) = false := by simpa using hv
                              have HV := Lib.hid hv
                              clear hv
                              go_wp2_with fail
                              go_roundw
                              case rel =>
                                refine ⟨k + 1, by omega, by go_num, S6, Nat.le_trans hgw6 (Nat.le_trans (by simp) hb6.size), hx2.stays hb6, hd2.stays hb6, hy2.stays hb6, ?_⟩
                                rw [HTK.out, List.any_append, HQ.out]
                                simp only [List.any_cons, List.any_nil]
                                rw [HV.out, HZ.out]
                                simp
                              case measure => simp [intOf]; omega
                            · have hv1 : (atV (xsL n ls) (ysL n ls r) s1.1 != z2) = true := by simpa using hv
                              have h9 : joinE n o s ls = 9 := by
                                rw [HJ.out, if_pos (tornsL_of (r := r) ?_ hlt)]
                                simp only [tornL, List.any_eq_true]
                                exact ⟨s1, HMS.out, by rw [HZ.out]; simpa using hv⟩
                              have H9 := Lib.hid h9
                              clear h9 hv
                              go_wp2_with fail
                              go_ret2
                              rw [joinC_err (by rw [H9.out]; omega), H9.out]
                              exact ⟨⟨_, rfl, IsInts.nil _⟩, (S0.step S6.below).below⟩
                          · have hto : tornL n ls r = false := by
                              have := HQ.out
                              rw [List.take_of_length_le (by have := HM.out; simp; omega)] at this
                              exact this
                            have HT2 := Lib.hid hto
                            clear hto
                            go_wp2_with fail
                            go_roundw
                            case rel => exact ⟨r + 1, by omega, by go_num, hS, hgw6, hx, hdv, by rw [tornsL_step, HTO.out, HT2.out]; rfl⟩
                            case measure => simp [intOf]; omega
                      · obtain rfl : n = c := by omega
                        go_wp2_with fail
                        clear d0
                        go_loopw [120] (fun i wr => ∃ k : Nat, k ≤ ls.length - n ∧ i = .int .i64 k ∧ Since w0.heap.size w0 wr ∧ g1 ≤ wr.heap.size ∧ OwnInts wr 3 w0.heap.size u10 (xsL n ls) ∧ OwnInts wr 3 g1 u13 (dataL n ls (r + 1)) ∧ OwnInts wr 3 gy u15 (ysL n ls r) ∧ (((ls.drop n).take k).any fun t => decide (atV (xsL n ls) (ysL n ls r) t.1 ≠ t.2.getD r 0)) = false) (fun i _ => ls.length - n - (intOf i).toNat)
                        case atStart => exact ⟨0, by omega, by go_num, hS, hgwr, hx, hdv, hy, by simp⟩
                        case round =>
                          clear hS hgwr hx hdv hy
                          obtain ⟨k, hk, rfl, hS, hgw6, hx, hdv, hy, hq⟩ := hrel
                          have HQ := Lib.hid hq
                          clear hq
                          by_cases hkl : k < ls.length - n
                          · omega
                          · have hto : tornL n ls r = false := by
                              have := HQ.out
                              rw [List.take_of_length_le (by simp; omega)] at this
                              exact this
                            have HT2 := Lib.hid hto
                            clear hto
                            go_wp2_with fail
                            go_roundw
                            case rel => exact ⟨r + 1, by omega, by go_num, hS, hgw6, hx, hdv, by rw [tornsL_step, HTO.out, HT2.out]; rfl⟩
                            case measure => simp [intOf]; omega
            · obtain rfl : R = r := by omega
              clear hlt hr
              have hj : joinE n o s ls = if hasNot ((dataL n ls R).drop s) then 9 else 0 := by
                rw [HJ.out, if_neg (by rw [hto]; simp)]
              have HJ2 := Lib.hid hj
              have hD2 : joinD n s ls = (dataL n ls R).take s := by unfold joinD; rw [← HRr.out]
              have HD2 := Lib.hid hD2
              have hDl := dataL_len n ls R
              obtain ⟨D, hD⟩ : ∃ D, D = dataL n ls R := ⟨_, rfl⟩
              rw [← hD] at hdv hDl HJ2 HD2
              clear hD hj hD2 hto
              have hsD : s ≤ D.length := by omega
              have hDb : D.length ≤ 28 := by omega
              clear hDl
              obtain ⟨a5, c5, rfl, hc5, ⟨_, hcm5, _⟩, hdz⟩ := hdv.isInts.opened
              obtain ⟨b5, o5, _, rfl, _⟩ := hdz 0 (by omega)
              clear hdz
              have d2 := (hS.below.cell (p := ⟨B, 2, none⟩) l0).trans c2
              have htk := hdv.isInts.take s hsD
              by_cases hsc : s < c5
              · have hfr := hdv.isInts.from s hsD
                go_wp2_with fail
                refine (ContainsInts_any _ (D.drop s) _ hfr).mono ?_
                rintro e w7 ⟨rfl, hb7⟩
                have S7 := hS.step hb7
                have d27 := (hb7.cell (p := ⟨B, 2, none⟩) (cell_lt d2)).trans d2
                have ht7 := htk.stays hb7
                obtain ⟨X, hX⟩ : ∃ X, X = hasNot (D.drop s) := ⟨_, rfl⟩
                rw [← hX] at HJ2 ⊢
                clear hX
                cases X with
                | true =>
                  go_wp2_with fail
                  go_ret2
                  have h9 : joinE n o s ls = 9 := by rw [HJ2.out]; rfl
                  rw [joinC_err (by rw [h9]; omega), h9]
                  exact ⟨⟨_, rfl, IsInts.nil _⟩, (S0.step S7.below).below⟩
                | false =>
                  go_wp2_with fail
                  go_ret2
                  have h0 : joinE n o s ls = 0 := by rw [HJ2.out]; rfl
                  rw [joinC_ok h0, h0, HD2.out]
                  exact ⟨⟨_, rfl, ht7⟩, (S0.step S7.below).below⟩
              · obtain rfl : s = c5 := by omega
                have hfr : IsInts wo (.slice (some ⟨b5, o5, none⟩) 0 0) [] := ⟨some ⟨b5, o5, none⟩, 0, rfl, Nat.le_refl _, ⟨by simp, by omega, fun e => by cases e⟩, fun i hi => by simp at hi⟩
                have hds : D.drop s = [] := List.drop_eq_nil_of_le (by omega)
                rw [hds] at HJ2
                have hD5 : D.length = s := by omega
                clear hds
                go_wp2_with fail
                refine (ContainsInts_any _ [] _ hfr).mono ?_
                rintro e w7 ⟨rfl, hb7⟩
                have S7 := hS.step hb7
                have d27 := (hb7.cell (p := ⟨B, 2, none⟩) (cell_lt d2)).trans d2
                have ht7 := htk.stays hb7
                have hnn : hasNot [] = false := rfl
                rw [hnn] at HJ2 ⊢
                clear hnn hfr
                go_wp2_with fail
                go_ret2
                have h0 : joinE n o s ls = 0 := by rw [HJ2.out]; rfl
                rw [joinC_ok h0, h0, HD2.out]
                exact ⟨⟨_, rfl, ht7⟩, (S0.step S7.below).below⟩

end Go.Proofs.Ytnpdojjffbhalaa
