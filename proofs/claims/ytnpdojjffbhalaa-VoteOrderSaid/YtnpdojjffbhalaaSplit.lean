/-
  The walk of share.Split.
-/
import Derived.Test.YtnpdojjffbhalaaShare
import Derived.Test.YtnpdojjffbhalaaCurve1
import Derived.Test.YtnpdojjffbhalaaShareMath
import Derived.Test.YtnpdojjffbhalaaBase
namespace Go.Proofs.Ytnpdojjffbhalaa
open Go.RowKit

theorem info_share : (Try.prog.info? 33).map (fun i => (i.zero, i.size, i.bytes)) = some (some (.agg #[.int .i64 0, .slice none 0 0]), 2, 32) := by kernel_rfl

theorem ret_nilE {v : Value} {a b : Int} (h : a = b) : Ending.returned (.tuple #[v, .int .i64 a]) = .returned (.tuple #[v, .int .i64 b]) := by rw [h]

/-- What is wrong with a content. -/
def splitE (n o s : Int) (data : List Int) : Int := if planV n o s ≠ 0 then planV n o s else if (data.length : Int) ≠ s then 3 else allV data

set_option maxRecDepth 100000 in
set_option maxHeartbeats 2000000 in
theorem Split_no (n o s : Int) (v : Value) (data : List Int) (W : World) (hd : IsInts W v data) (hE : splitE n o s data ≠ 0) :
    Calls Try.prog 13 #[.agg #[.int .i64 n, .int .i64 o, .int .i64 s], v] W fun e w' => e = .returned (.tuple #[.slice none 0 0, .int .i64 (splitE n o s data)]) ∧ Below W.heap.size W w' := by
  obtain ⟨a, c, rfl, hc, ⟨hm, _⟩, _⟩ := hd.opened
  have S0 := (Since.refl W).alloc (.cells #[.int .i64 n, .int .i64 o, .int .i64 s] 23)
  have hd0 := hd.stays (below_alloc _ (.cells #[.int .i64 n, .int .i64 o, .int .i64 s] 23))
  have c0 : (W.alloc (.cells #[.int .i64 n, .int .i64 o, .int .i64 s] 23)).cell? ⟨W.heap.size, 0, none⟩ = some (.int .i64 n) := by go_simp
  have c1 : (W.alloc (.cells #[.int .i64 n, .int .i64 o, .int .i64 s] 23)).cell? ⟨W.heap.size, 1, none⟩ = some (.int .i64 o) := by go_simp
  have c2 : (W.alloc (.cells #[.int .i64 n, .int .i64 o, .int .i64 s] 23)).cell? ⟨W.heap.size, 2, none⟩ = some (.int .i64 s) := by go_simp
  obtain ⟨w0, hw0⟩ : ∃ w0, w0 = W.alloc (.cells #[.int .i64 n, .int .i64 o, .int .i64 s] 23) := ⟨_, rfl⟩
  rw [← hw0] at S0 hd0 c0 c1 c2
  have HW := Lib.hid hw0
  clear hw0
  obtain ⟨B, hB⟩ : ∃ B, B = W.heap.size := ⟨_, rfl⟩
  rw [← hB] at c0 c1 c2
  have HB := Lib.hid hB
  clear hB
  have l0 := cell_lt c0
  by_cases hp : planV n o s = 0
  · have HP := Lib.hid hp
    by_cases hl : (data.length : Int) = s
    · have H := Lib.hid (show splitE n o s data = allV data by unfold splitE; rw [if_neg (by simpa using hp), if_neg (by simpa using hl)])
      have hl1 : ((data.length : Int) != s) = false := by simpa using hl
      have HE := Lib.hid hE
      clear hp hl hE hd
      go_enter Try.func13, Try.ntmps13
      go_wp2_with fail
      rw [← HW.out, ← HB.out]
      refine (planCheck_any _ _ _ _).mono ?_
      rintro e w1 ⟨rfl, hb1⟩
      rw [HP.out]
      have d2 := (hb1.cell (p := ⟨B, 2, none⟩) l0).trans c2
      have S1 := S0.step hb1
      have hd1 := hd0.stays hb1
      clear c0 c1 c2 hb1 S0 hd0
      go_wp2_with fail
      obtain ⟨a', c', ee, _, _, hi⟩ := hd1.opened
      simp only [Value.slice.injEq] at ee
      obtain ⟨rfl, _, rfl⟩ := ee
      go_loop [30] (fun i => ∃ k : Nat, k ≤ data.length ∧ i = .int .i64 k ∧ allV (data.drop k) = allV data) (fun i => data.length - (intOf i).toNat)
      case atStart => exact ⟨0, by omega, rfl, rfl⟩
      case round =>
        obtain ⟨k, hk, rfl, hq⟩ := hrel
        have HQ := Lib.hid hq
        clear hq
        by_cases hlt : k < data.length
        · obtain ⟨b1, o1, z1, rfl, hc1, hz1, hi1⟩ := hi k hlt
          have HZ := Lib.hid (drop_get hz1)
          clear hz1
          by_cases n1 : 0 ≤ z1 ∧ z1 < 31
          · obtain ⟨n10, n11⟩ := n1
            go_wp2_with (go_at_call 44; refine (Check_yes _ _ (by omega) (by omega)).mono ?_; rintro e w' ⟨rfl, rfl⟩)
            go_round
            case rel =>
              refine ⟨k + 1, by omega, by go_num, ?_⟩
              rw [← HQ.out, HZ.out]
              simp [allV, numOk_iff.2 ⟨n10, n11⟩]
            case measure => simp [intOf]; omega
          · go_wp2_with (go_at_call 44; refine (Check_no _ _ (by omega)).mono ?_; rintro e w' ⟨rfl, rfl⟩)
            go_ret2
            refine ⟨ret_nilE ?_, S1.below⟩
            rw [H.out, ← HQ.out, HZ.out]
            simp [allV, numOk_no.2 (show z1 < 0 ∨ 31 ≤ z1 by omega)]
        · obtain rfl : k = data.length := by omega
          exfalso
          apply HE.out
          rw [H.out, ← HQ.out]
          simp [allV]
    · have H := Lib.hid (show splitE n o s data = 3 by unfold splitE; rw [if_neg (by simpa using hp), if_pos hl])
      have hl1 : ((data.length : Int) != s) = true := by simpa using hl
      clear hp hl hE hd
      go_enter Try.func13, Try.ntmps13
      go_wp2_with fail
      rw [← HW.out, ← HB.out]
      refine (planCheck_any _ _ _ _).mono ?_
      rintro e w1 ⟨rfl, hb1⟩
      rw [HP.out]
      have d2 := (hb1.cell (p := ⟨B, 2, none⟩) l0).trans c2
      have S1 := S0.step hb1
      clear c0 c1 c2
      go_wp2_with fail
      go_ret2
      exact ⟨ret_nilE H.out.symm, S1.below⟩
  · have H := Lib.hid (show splitE n o s data = planV n o s by unfold splitE; rw [if_pos hp])
    have hne : (planV n o s != 0) = true := by simpa using hp
    clear hp hE
    go_enter Try.func13, Try.ntmps13
    go_wp2_with fail
    rw [← HW.out, ← HB.out]
    refine (planCheck_any _ _ _ _).mono ?_
    rintro e w1 ⟨rfl, hb1⟩
    have S1 := S0.step hb1
    clear c0 c1 c2
    go_wp2_with fail
    go_ret2
    exact ⟨ret_nilE H.out.symm, S1.below⟩

theorem splitE_ok {n o s : Int} {data : List Int} (h : splitE n o s data = 0) : planV n o s = 0 ∧ (data.length : Int) = s ∧ ∀ z ∈ data, 0 ≤ z ∧ z < 31 := by
  unfold splitE at h
  split at h
  · rename_i h1; exact absurd h h1
  · rename_i h1
    split at h
    · simp at h
    · rename_i h2
      exact ⟨by simpa using h1, by simpa using h2, (allV_ok data).1 h⟩
theorem gr_of {w w' : World} {b c : Value} (e : b = c) (h : w.grownBy w' b.ownBlock) : w.grownBy w' c.ownBlock := e ▸ h
theorem at_of {a b c : Value} {t : Option Nat} (e : b = c) (h : a.ownBlock = b.ownBlock ∨ a.ownBlock = t) : a.ownBlock = c.ownBlock ∨ a.ownBlock = t := e ▸ h
/-- The rows of a content. -/
def rowsN (n s : Nat) : Nat := (s + n - 1) / n
theorem rows_end {n s r : Nat} (h1 : 1 ≤ n) (h2 : n ≤ 4) (hr : s ≤ r * n) (hr' : r * n < s + n) : r = rowsN n s := by
  unfold rowsN
  rcases (by omega : n = 1 ∨ n = 2 ∨ n = 3 ∨ n = 4) with rfl | rfl | rfl | rfl <;> omega

set_option maxRecDepth 100000 in
set_option maxHeartbeats 4000000 in
theorem Split_ok (n o s : Nat) (v : Value) (data : List Int) (W : World) (hd : IsInts W v data) (hE : splitE n o s data = 0) :
    Calls Try.prog 13 #[.agg #[.int .i64 n, .int .i64 o, .int .i64 s], v] W fun e w' => (∃ g f, e = .returned (.tuple #[.slice (some ⟨g, 0, none⟩) o o, .int .i64 0]) ∧ OwnSh w' 3 33 W.heap.size g o (sharesL n data o (rowsN n s)) f) ∧ Below W.heap.size W w' := by
  obtain ⟨hp, hl, hnum⟩ := splitE_ok hE
  obtain ⟨p1, p2, p3, p4, p5, p6⟩ := planV_bd hp
  obtain ⟨a, c, rfl, hc, ⟨hm, hcm, _⟩, hda⟩ := hd.opened
  obtain ⟨bd, od, _, rfl, _⟩ := hda 0 (by omega)
  clear hda
  have HP := Lib.hid hp
  have HN := Lib.hid hnum
  have hs1 : s ≤ data.length := by omega
  have hs2 : data.length ≤ s := by omega
  have hl1 : ((data.length : Int) != (s : Int)) = false := by simpa using hl
  have hsl := Lib.hid (show data.length = s by omega)
  clear hp hl hnum hE
  have S0 := (Since.refl W).alloc (.cells #[.int .i64 (n : Int), .int .i64 (o : Int), .int .i64 (s : Int)] 23)
  have hd0 := hd.stays (below_alloc _ (.cells #[.int .i64 (n : Int), .int .i64 (o : Int), .int .i64 (s : Int)] 23))
  have c0 : (W.alloc (.cells #[.int .i64 (n : Int), .int .i64 (o : Int), .int .i64 (s : Int)] 23)).cell? ⟨W.heap.size, 0, none⟩ = some (.int .i64 n) := by go_simp
  have c1 : (W.alloc (.cells #[.int .i64 (n : Int), .int .i64 (o : Int), .int .i64 (s : Int)] 23)).cell? ⟨W.heap.size, 1, none⟩ = some (.int .i64 o) := by go_simp
  have c2 : (W.alloc (.cells #[.int .i64 (n : Int), .int .i64 (o : Int), .int .i64 (s : Int)] 23)).cell? ⟨W.heap.size, 2, none⟩ = some (.int .i64 s) := by go_simp
  obtain ⟨w0, hw0⟩ : ∃ w0, w0 = W.alloc (.cells #[.int .i64 (n : Int), .int .i64 (o : Int), .int .i64 (s : Int)] 23) := ⟨_, rfl⟩
  rw [← hw0] at S0 hd0 c0 c1 c2
  have HW := Lib.hid hw0
  clear hw0
  obtain ⟨B, hB⟩ : ∃ B, B = W.heap.size := ⟨_, rfl⟩
  rw [← hB] at c0 c1 c2
  have HB := Lib.hid hB
  clear hB
  have l0 := cell_lt c0
  clear hd
  go_enter Try.func13, Try.ntmps13
  go_wp2_with fail
  rw [← HW.out, ← HB.out]
  refine (planCheck_any _ _ _ _).mono ?_
  rintro e w1 ⟨rfl, hb1⟩
  rw [HP.out]
  have T1 := (Since.refl w0).step hb1
  have d2 := (T1.below.cell (p := ⟨B, 2, none⟩) l0).trans c2
  have hd1 := hd0.stays T1.below
  go_wp2_with fail
  clear d2
  obtain ⟨a', c', ee, _, _, hi⟩ := hd1.opened
  simp only [Value.slice.injEq] at ee
  obtain ⟨rfl, _, rfl⟩ := ee
  go_loop [30] (fun i => ∃ k : Nat, k ≤ data.length ∧ i = .int .i64 k) (fun i => data.length - (intOf i).toNat)
  case atStart => exact ⟨0, by omega, rfl⟩
  case round =>
    obtain ⟨k, hk, rfl⟩ := hrel
    by_cases hlt : k < data.length
    · obtain ⟨b1, o1, z1, e3, hc1, hz1, hi1⟩ := hi k hlt
      cases e3
      obtain ⟨n10, n11⟩ := HN.out z1 (List.mem_of_getElem? hz1)
      clear hz1
      go_wp2_with (go_at_call 44; refine (Check_yes _ _ (by omega) (by omega)).mono ?_; rintro e w' ⟨rfl, rfl⟩)
      go_round
      case rel => exact ⟨k + 1, by omega, by go_num⟩
      case measure => simp [intOf]; omega
    · obtain rfl : k = data.length := by omega
      clear hi hd1 hlt hk
      have d0 := (T1.below.cell (p := ⟨B, 0, none⟩) l0).trans c0
      go_wp2_with fail
      clear d0
      go_loopw [42, 10] (fun i x wr => ∃ k : Nat, k ≤ n ∧ i = .int .i64 k ∧ Since w0.heap.size w0 wr ∧ OwnInts wr 3 w0.heap.size x (placesL k)) (fun i _ _ => n - (intOf i).toNat)
      case atStart => exact ⟨0, by omega, rfl, T1, OwnInts.nil _ _ _⟩
      case round =>
        obtain ⟨k, hk, rfl, hS, hx⟩ := hrel
        by_cases hlt : k < n
        · have hpl := placesL_len k
          have HPL := Lib.hid hpl
          have hpl2 : (placesL k).length ≤ 4 := by omega
          clear hpl
          have hgs := hS.2
          go_wp2_with (at_builtin; refine wpList_append_int rfl _ _ 24 rfl 3 Try.underlying24 info_int w0.heap.size _ _ rfl (hx.stays (below_alloc wr _)) ⟨wr.heap.size, 0, none⟩ 1 (k : Int) rfl (by simp) ⟨by omega, by omega⟩ (by omega) (by simp; omega) ?_; intro v' w4 hx4 hg4)
          go_roundw
          case rel => exact ⟨k + 1, by omega, by go_num, (hS.alloc _).own (hx.stays (below_alloc wr _)) hg4, by rw [show placesL (k + 1) = placesL k ++ [(k : Int)] by simp [placesL, List.range_succ]]; exact hx4⟩
          case measure => simp [intOf]; omega
        · obtain rfl : n = k := by omega
          clear hlt hk T1
          have d1 := (hS.below.cell (p := ⟨B, 1, none⟩) l0).trans c1
          obtain ⟨wo, hwo⟩ : ∃ wo : World, wo = wr := ⟨_, rfl⟩
          rw [← hwo] at hS hx d1 ⊢
          clear hwo
          have hog := hx.1.lt
          have hgs := hS.2
          go_wp2_with (at_make; refine wpList_make_shares rfl _ _ 25 rfl 3 33 Try.underlying25 info_share wo.heap.size _ o rfl rfl rfl (by omega) (Nat.le_refl _) ?_; intro w2 hO2 hg2)
          have S2 : Since w0.heap.size w0 w2 := hS.grown hg2 (fun k hk => by cases hk)
          have hx2 := hx.kept hg2 (by cases u10.ownBlock <;> simp)
          obtain ⟨g, hg⟩ : ∃ g, g = wo.heap.size := ⟨_, rfl⟩
          rw [← hg] at hO2 hog hgs ⊢
          clear hg hg2 hx hS d1
          go_loopw [13] (fun i wr => ∃ r : Nat, ∃ f : Nat → Value, r * n < s + n ∧ r ≤ 24 ∧ i = .int .i64 ((r * n : Nat) : Int) ∧ Since w0.heap.size w0 wr ∧ OwnInts wr 3 w0.heap.size u10 (placesL n) ∧ OwnSh wr 3 33 g g o (stL n data o r 0) f) (fun i _ => s + n - (intOf i).toNat)
          case atStart => exact ⟨0, _, by omega, by omega, by go_num, S2, hx2, by rw [stL_start]; exact hO2⟩
          case round =>
            obtain ⟨r, f, hr1, hr2, rfl, hS, hx, hO⟩ := hrel
            obtain ⟨q, hq⟩ : ∃ q, q = r * n := ⟨_, rfl⟩
            rw [← hq] at hr1 ⊢
            have HQ := Lib.hid hq
            clear hq S2 hx2 hO2
            obtain ⟨wo, hwo⟩ : ∃ wo : World, wo = wr := ⟨_, rfl⟩
            rw [← hwo] at hS hx hO ⊢
            clear hwo
            by_cases hlt : q < data.length
            · have d0 := (hS.below.cell (p := ⟨B, 0, none⟩) l0).trans c0
              have hdr := (hd0.stays hS.below).from q (by omega)
              obtain ⟨r0, hr0⟩ : ∃ r0, r0 = wo.heap.size := ⟨_, rfl⟩
              have hq2 : q < c := by omega
              have e1 : ¬ (q = c) := by omega
              go_wp2_with (first | (at_make; refine wpList_make_ints rfl _ _ 24 rfl 3 Try.underlying24 info_int wo.heap.size _ n rfl rfl rfl (by omega) (Nat.le_refl _) ?_; intro w3 hw3 hg3; have hdr3 := hdr.stays (show Below wo.heap.size wo w3 from (Below.refl _ _).grown hg3 (Nat.le_refl _) (fun k hk => by cases hk))) | (refine wpList_copy_ints rfl (.tmp 64) (.tmp 67) 24 rfl 3 Try.underlying24 info_int wo.heap.size wo.heap.size n n _ rfl hw3 (data.drop q) _ rfl hdr3 ?_; intro w4 cc hw4 hg4))
              rw [HQ.out, row_copied n data r (by rw [← HQ.out]; omega)] at hw4
              have hgl := hO.lt
              have hfl := fun k hk j hj => (hO.flt (k := k) (j := j) hk hj).2
              have S4 : Since w0.heap.size w0 w4 := (hS.grown hg3 (fun k hk => by cases hk)).grown hg4 (fun k hk => by cases hk; exact hS.2)
              have hO4 := (hO.kept hg3 (by simp) (fun k _ => by cases (f k).ownBlock <;> simp)).kept hg4 (by simp; omega) (fun k hk => by
                cases hfk : (f k).ownBlock with
                | none => exact Or.inl rfl
                | some j => right; have := hfl k hk j hfk; simp; omega)
              have hx4 := (hx.kept hg3 (by cases u10.ownBlock <;> simp)).kept hg4 (by
                cases hxk : u10.ownBlock with
                | none => exact Or.inl rfl
                | some j => right; have := (hog j hxk).2; simp; omega)
              have hoff4 : ∀ k, k < o → (f k).ownBlock ≠ some wo.heap.size := fun k hk e => by have := hfl k hk _ e; omega
              have hwog : ¬ g = wo.heap.size := by omega
              have hr0g : w0.heap.size ≤ wo.heap.size := hS.2
              clear hS hx hO hdr hdr3 hw3 hg3 hg4 d0 hgl hfl e1
              generalize wo.heap.size = r0 at *
              go_loopw [71] (fun i wr => ∃ m : Nat, ∃ f : Nat → Value, m ≤ o ∧ i = .int .i64 m ∧ Since w0.heap.size w0 wr ∧ OwnInts wr 3 w0.heap.size u10 (placesL n) ∧ OwnInts wr 3 r0 (.slice (some ⟨r0, 0, none⟩) n n) (rowL n data r) ∧ OwnSh wr 3 33 g g o (stL n data o r m) f ∧ ∀ k, k < o → (f k).ownBlock ≠ some r0) (fun i _ => o - (intOf i).toNat)
              case atStart => exact ⟨0, f, by omega, rfl, S4, hx4, hw4, hO4, hoff4⟩
              case round =>
                obtain ⟨m, f', hm1, rfl, hS, hx, hrow, hO, hoff⟩ := hrel
                have HOFF := Lib.hid hoff
                clear hoff S4 hx4 hw4 hO4 hoff4
                by_cases hlm : m < o
                · obtain ⟨N, hN⟩ := stL_at n data o r m hlm
                  have HPT := Lib.hid (ptsV_ok.2 (ptsOk_row (n := n) (data := data) (by omega) (by omega) HN.out r))
                  go_wp2_with fail
                  refine (At_ok _ _ (placesL n) (rowL n data r) m _ hx.isInts hrow.isInts HPT.out (by omega) (by omega)).mono ?_
                  rintro e w5 ⟨rfl, hb5⟩
                  have S5 := hS.step hb5
                  have hx5 := hx.stays hb5
                  have hrow5 := hrow.stays hb5
                  have hO5 := hO.stays hb5
                  have hpb := atV_bd (placesL n) (rowL n data r) m
                  have cV := hO5.cellV hN
                  have cN := hO5.cellN hN
                  have fz0 := hO5.free (m * 2)
                  have fz1 := hO5.free (m * 2 + 1)
                  have hfo := hO5.own m _ hN
                  obtain ⟨vf, hvf⟩ : ∃ vf, vf = f' m := ⟨_, rfl⟩
                  rw [← hvf] at cV hfo
                  have HVF := Lib.hid hvf
                  clear hvf hb5 hS hx hrow hO
                  have hgs5 := S5.2
                  have hgl5 := hO5.lt
                  have hlen5 : ((List.range r).map (partV n data m)).length ≤ 24 := by simp; omega
                  have iz5 : I64 (atV (placesL n) (rowL n data r) m) := ⟨by omega, by omega⟩
                  have hO5a := fun o => hO5.stays (below_alloc w5 o)
                  have HO5a := Lib.hid hO5a
                  clear hO5a
                  go_wp2_with (at_builtin; refine wpList_append_int_at rfl _ _ 24 rfl 3 Try.underlying24 info_int g _ ((List.range r).map (partV n data m)) rfl (hfo.stays (below_alloc w5 _)) ⟨w5.heap.size, 0, none⟩ 1 (atV (placesL n) (rowL n data r) m) rfl (by simp) iz5 (by omega) (by simp; omega) ?_; intro v' w6 ho6 hg6 hat6; obtain ⟨av, cv, rfl, _⟩ := ho6.isInts.opened; have hg7 := gr_of HVF.out hg6; have hat7 := at_of HVF.out hat6; have hgq := (HO5a.out _).same hlm hg7; have c6N := (World.cell?_of_block (a := ⟨g, m * 2, none⟩) hgq).trans ((HO5a.out _).cellN hN); have c6V := (World.cell?_of_block (a := ⟨g, m * 2 + 1, none⟩) hgq).trans ((HO5a.out _).cellV hN); have z6N := (World.frozen?_of_block (a := ⟨g, m * 2, none⟩) hgq).trans ((HO5a.out _).free (m * 2)); have z6V := (World.frozen?_of_block (a := ⟨g, m * 2 + 1, none⟩) hgq).trans ((HO5a.out _).free (m * 2 + 1)); have HGQ := Lib.hid hgq; clear hgq)
                  clear hg6 hat6
                  have hln : ((List.range r).map (partV n data m) ++ [atV (placesL n) (rowL n data r) m]).length = r + 1 := by simp
                  have hfm := fun b (hb : (f' m).ownBlock = some b) => (hO5.flt hlm hb)
                  have hrl := hrow5.1.lt r0 rfl
                  rw [hln] at ho6 hat7
                  have hput := OwnSh.put (HO5a.out _) hlm (N := (m : Int)) ⟨by omega, by omega⟩ (Nat.le_refl _) hg7 ho6 hat7
                  have hst : (stL n data o r m).set m ((m : Int), (List.range r).map (partV n data m) ++ [atV (placesL n) (rowL n data r) m]) = stL n data o r (m + 1) := stL_step n data o r m
                  rw [hst] at hput
                  have S6 := (((S5.alloc _).grown hg7 (fun k hk => Nat.le_trans hgs (hfm k hk).1)).setCell (a := ⟨g, m * 2, none⟩) hgs (.int .i64 m)).setCell (a := ⟨g, m * 2 + 1, none⟩) hgs (.slice av (r + 1) cv)
                  have hx6 := (((hx5.stays (below_alloc w5 _)).kept hg7 (by
                    cases hxk : u10.ownBlock with
                    | none => exact Or.inl rfl
                    | some j => right; intro e; have := (hog j hxk).2; have := (hfm j e.symm).1; omega)).kept (grown_setCell w6 ⟨g, m * 2, none⟩ (.int .i64 m)) (by
                    cases hxk : u10.ownBlock with
                    | none => exact Or.inl rfl
                    | some j => right; intro e; have := (hog j hxk).2; simp at e; omega)).kept (grown_setCell _ ⟨g, m * 2 + 1, none⟩ (.slice av (r + 1) cv)) (by
                    cases hxk : u10.ownBlock with
                    | none => exact Or.inl rfl
                    | some j => right; intro e; have := (hog j hxk).2; simp at e; omega)
                  have hrow6 := (((hrow5.stays (below_alloc w5 _)).kept hg7 (Or.inr fun e => HOFF.out m hlm e.symm)).kept (grown_setCell w6 ⟨g, m * 2, none⟩ (.int .i64 m)) (Or.inr fun e => hwog (by cases e; rfl))).kept (grown_setCell _ ⟨g, m * 2 + 1, none⟩ (.slice av (r + 1) cv)) (Or.inr fun e => hwog (by cases e; rfl))
                  have hoff6 : ∀ k, k < o → (if k = m then Value.slice av (r + 1) cv else f' k).ownBlock ≠ some r0 := by
                    intro k hk
                    split
                    · intro e
                      rcases hat7 with hat | hat
                      · exact HOFF.out m hlm (hat ▸ e)
                      · rw [hat] at e
                        simp only [Option.some.injEq] at e
                        simp at e
                        omega
                    · exact HOFF.out k hk
                  have HPUT := Lib.hid hput
                  have HX6 := Lib.hid hx6
                  have HR6 := Lib.hid hrow6
                  have HF6 := Lib.hid hoff6
                  have HS6 := Lib.hid S6
                  clear hput hx6 hrow6 hoff6 S6 ho6 hg7 hat7 hfm
                  go_roundw
                  case rel => exact ⟨m + 1, _, by omega, by go_num, HS6.out, HX6.out, HR6.out, HPUT.out, HF6.out⟩
                  case measure => simp [intOf]; omega
                · obtain rfl : o = m := by omega
                  have d0' := (hS.below.cell (p := ⟨B, 0, none⟩) l0).trans c0
                  go_wp2_with fail
                  go_roundw
                  case rel =>
                    refine ⟨r + 1, f', ?_, ?_, ?_, hS, hx, by rw [← stL_next]; exact hO⟩
                    · rw [Nat.add_mul, ← HQ.out]; omega
                    · have := HQ.out
                      have : r ≤ q := by rw [HQ.out]; exact Nat.le_mul_of_pos_right _ (by omega)
                      omega
                    · rw [Nat.add_mul, ← HQ.out]; go_num
                  case measure => simp [intOf]; omega
            · go_wp2_with fail
              go_ret2
              have hrn : r = rowsN n s := rows_end (by omega) (by omega) (by rw [← HQ.out]; omega) (by rw [← HQ.out]; omega)
              have hr0 : 0 < r := by
                rcases Nat.eq_zero_or_pos r with h0 | h0
                · have := HQ.out; subst h0; omega
                · exact h0
              rw [stL_done _ _ _ _ hr0, hrn] at hO
              exact ⟨⟨g, f, rfl, hO.mono (Nat.le_trans S0.2 hgs)⟩, (S0.step hS.below).below⟩

end Go.Proofs.Ytnpdojjffbhalaa
