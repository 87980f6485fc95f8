/-
  The walks of package curve and of the reference's CheckPoints and ValueAt.
-/
import Derived.Test.YtnpdojjffbhalaaField1
import Derived.Test.YtnpdojjffbhalaaBase
import Derived.StillTailTactics
namespace Go.Proofs.Ytnpdojjffbhalaa
open Go.RowKit

theorem zero_bool (w : World) : (zeroValue 4).run Try.prog w = .ok (.bool false) w := by kernel_rfl

set_option maxRecDepth 100000 in
set_option maxHeartbeats 400000 in
theorem ptsCheck_any (vx vy : Value) (x y : List Int) (w : World) (hx : IsInts w vx x) (hy : IsInts w vy y) :
    Calls Try.prog 86 #[vx, vy] w fun e w' => e = .returned (.int .i64 (ptsV x y)) ∧ Below w.heap.size w w' := by
  obtain ⟨ax, cx, rfl, hcx, hmx, hx⟩ := hx.opened
  obtain ⟨ay, cy, rfl, hcy, hmy, hy⟩ := hy.opened
  have hmm := @run_makeMap Try.prog
  by_cases hl : x.length = y.length
  · have hl1 : ((x.length : Int) != (y.length : Int)) = false := by simp [hl]
    have hl2 : y.length ≤ x.length := by omega
    have hl3 : x.length ≤ y.length := by omega
    have HL := Lib.hid hl
    clear hl
    by_cases h0 : x.length = 0 ∨ 8 < x.length
    · have H := Lib.hid (show ptsV x y = 1 by unfold ptsV; rw [if_neg (by simpa using HL.out), if_pos h0])
      rcases h0 with h0 | h0
      · have h1 : ((x.length : Int) == 0) = true := by simpa using h0
        clear h0
        go_enter Try.func86, Try.ntmps86
        go_wp2
        go_ret
        exact ⟨ret_int H.out.symm, Below.refl _ _⟩
      · have h1 : ((x.length : Int) == 0) = false := by simp; intro e; subst e; simp at h0
        go_enter Try.func86, Try.ntmps86
        go_wp2
        go_ret
        exact ⟨ret_int H.out.symm, Below.refl _ _⟩
    · have h1 : ((x.length : Int) == 0) = false := by simp; intro e; subst e; simp at h0
      have h2 : x.length ≤ 8 := by omega
      have H := Lib.hid (show ptsV x y = ptsFrom x y [] by unfold ptsV; rw [if_neg (by simpa using HL.out), if_neg h0])
      clear h0
      have h3 : decide ((8 : Int) < (x.length : Int)) = false := by simp; omega
      have Hl : 1 ≤ x.length := by cases x with | nil => simp at h1 | cons => simp
      go_enter Try.func86, Try.ntmps86
      go_wp2
      go_loopw [24] (fun i wr => ∃ k : Nat, k ≤ x.length ∧ i = .int .i64 k ∧ OwnsSet Try.prog 3 4 wr w.heap.size (x.take k) ∧ Below w.heap.size w wr ∧ ptsFrom (x.drop k) (y.drop k) (x.take k) = ptsV x y) (fun i _ => x.length - (intOf i).toNat)
      case atStart => exact ⟨0, by omega, rfl, OwnsSet.made w, (Below.refl _ _).alloc (Nat.le_refl _) _, H.out.symm⟩
      case round =>
        rename_i wr
        obtain ⟨k, hk, rfl, hown, hb, hq⟩ := hrel
        have HQ := Lib.hid hq
        clear hq H
        by_cases hlt : k < x.length
        · obtain ⟨b1, o1, z1, rfl, hc1, hz1, hi1⟩ := (hx.stays hb) k hlt
          obtain ⟨b2, o2, z2, rfl, hc2, hz2, hi2⟩ := (hy.stays hb) k (by omega)
          have HQ2 : Hid (x.drop k = z1 :: x.drop (k + 1)) := Lib.hid (drop_get hz1)
          have HQ3 : Hid (y.drop k = z2 :: y.drop (k + 1)) := Lib.hid (drop_get hz2)
          have HQ4 : Hid (x.take (k + 1) = x.take k ++ [z1]) := Lib.hid (take_get hz1)
          have hlk : (x.take k).length ≤ 8 := by simp; omega
          clear hz1 hz2
          by_cases n1 : 0 ≤ z1 ∧ z1 < 31
          · by_cases n2 : 0 ≤ z2 ∧ z2 < 31
            · by_cases hm : z1 ∈ x.take k
              · go_wp2_with fail
                refine (Check_yes _ _ (by omega) (by omega)).mono ?_
                rintro e w' ⟨rfl, rfl⟩
                go_wp2_with fail
                refine (Check_yes _ _ (by omega) (by omega)).mono ?_
                rintro e w' ⟨rfl, rfl⟩
                go_wp2_with (at_lookup; refine wpList_lookup_set _ rfl _ _ 75 rfl Try.underlying3 Try.underlying4 Try.underlying75 (zero_bool _) _ _ rfl hown _ rfl hi1 true (decide_eq_true hm) ?_)
                go_ret
                refine ⟨ret_int ?_, hb⟩
                rw [← HQ.out, HQ2.out, HQ3.out]
                simp only [ptsFrom]
                rw [numOk_iff.2 n1, numOk_iff.2 n2, Bool.and_self, if_pos rfl, if_pos hm]
              · go_wp2_with fail
                refine (Check_yes _ _ (by omega) (by omega)).mono ?_
                rintro e w' ⟨rfl, rfl⟩
                go_wp2_with fail
                refine (Check_yes _ _ (by omega) (by omega)).mono ?_
                rintro e w' ⟨rfl, rfl⟩
                go_wp2_with (first | (at_lookup; refine wpList_lookup_set _ rfl _ _ 75 rfl Try.underlying3 Try.underlying4 Try.underlying75 (zero_bool _) _ _ rfl hown _ rfl hi1 false (decide_eq_false hm) ?_) | (at_mapUpdate; refine wpList_store_set _ rfl _ _ _ 75 rfl Try.underlying3 Try.underlying4 Try.underlying75 _ _ rfl hown (by omega) _ rfl rfl hi1 ?_; intro w1 hown1 hg1))
                go_roundw
                case rel =>
                  refine ⟨k + 1, by omega, by go_num, by rw [HQ4.out]; exact hown1, hb.grown hg1 hb.size (fun k hk => by cases hk; omega), ?_⟩
                  rw [← HQ.out, HQ2.out, HQ3.out, HQ4.out]
                  simp only [ptsFrom]
                  rw [numOk_iff.2 n1, numOk_iff.2 n2, Bool.and_self, if_pos rfl, if_neg hm]
                case measure => simp [intOf]; omega
            · go_wp2_with fail
              refine (Check_yes _ _ (by omega) (by omega)).mono ?_
              rintro e w' ⟨rfl, rfl⟩
              go_wp2_with fail
              refine (Check_no _ _ (by omega)).mono ?_
              rintro e w' ⟨rfl, rfl⟩
              go_wp2_with fail
              go_ret
              refine ⟨ret_int ?_, hb⟩
              rw [← HQ.out, HQ2.out, HQ3.out]
              simp [ptsFrom, numOk_no.2 (show z2 < 0 ∨ 31 ≤ z2 by omega)]
          · go_wp2_with fail
            refine (Check_no _ _ (by omega)).mono ?_
            rintro e w' ⟨rfl, rfl⟩
            go_wp2_with fail
            go_ret
            refine ⟨ret_int ?_, hb⟩
            rw [← HQ.out, HQ2.out, HQ3.out]
            simp [ptsFrom, numOk_no.2 (show z1 < 0 ∨ 31 ≤ z1 by omega)]
        · obtain rfl : k = x.length := by omega
          go_wp2
          go_ret
          refine ⟨ret_int ?_, hb⟩
          rw [← HQ.out]
          simp [ptsFrom]
  · have hl1 : ((x.length : Int) != (y.length : Int)) = true := by simp; omega
    have H := Lib.hid (show ptsV x y = 3 by simp [ptsV, hl])
    clear hl
    go_enter Try.func86, Try.ntmps86
    go_wp2
    go_ret
    exact ⟨ret_int H.out.symm, Below.refl _ _⟩

set_option maxRecDepth 100000 in
set_option maxHeartbeats 1000000 in
theorem At_ok (vx vy : Value) (x y : List Int) (p : Int) (w : World) (hx : IsInts w vx x) (hy : IsInts w vy y) (hok : ptsV x y = 0) (hp0 : 0 ≤ p) (hp1 : p < 31) :
    Calls Try.prog 45 #[vx, vy, .int .i64 p] w fun e w' => e = .returned (.tuple #[.int .i64 (atV x y p), .int .i64 0]) ∧ Below w.heap.size w w' := by
  have HO := Lib.hid (ptsV_ok.1 hok)
  have HK := Lib.hid hok
  clear hok
  have hx0 := hx
  have hy0 := hy
  obtain ⟨ax, cx, rfl, hcx, hmx, hx⟩ := hx.opened
  obtain ⟨ay, cy, rfl, hcy, hmy, hy⟩ := hy.opened
  have h8 := HO.out.top
  have hl1 : x.length ≤ y.length := by rw [HO.out.len]; exact Nat.le_refl _
  clear hmx hmy
  go_enter Try.func45, Try.ntmps45
  go_wp2_with fail
  refine (ptsCheck_any _ _ x y _ hx0 hy0).mono ?_
  rintro e w1 ⟨rfl, hb1⟩
  rw [HK.out]
  have hx1 := hx.stays hb1
  have hy1 := hy.stays hb1
  clear hx0 hy0 hx hy
  go_wp2_with fail
  refine (Check_yes _ _ (by omega) (by omega)).mono ?_
  rintro e w' ⟨rfl, rfl⟩
  go_wp2_with fail
  go_loop [29, 10] (fun i s => ∃ k : Nat, ∃ s' : Int, k ≤ x.length ∧ i = .int .i64 k ∧ s = .int .i64 s' ∧ 0 ≤ s' ∧ s' < 31 ∧ atFrom x p (x.drop k) (y.drop k) k s' = atV x y p) (fun i _ => x.length - (intOf i).toNat)
  case atStart => exact ⟨0, 0, by omega, rfl, rfl, by omega, by omega, rfl⟩
  case round =>
    obtain ⟨k, s, hk, rfl, rfl, hs0, hs1, hq⟩ := hrel
    have HQ := Lib.hid hq
    clear hq
    by_cases hlt : k < x.length
    · obtain ⟨b1, o1, z1, rfl, hc1, hz1, hi1⟩ := hx1 k hlt
      obtain ⟨b2, o2, z2, rfl, hc2, hz2, hi2⟩ := hy1 k (by omega)
      have n1 := HO.out.numx z1 (List.mem_of_getElem? hz1)
      have n2 := HO.out.numy z2 (List.mem_of_getElem? hz2)
      have HZ1 := Lib.hid hz1
      have HZ2 := Lib.hid hz2
      clear hz1 hz2
      go_wp2_with fail
      go_loop [40, 13] (fun j t => ∃ m : Nat, ∃ t' : Int, m ≤ x.length ∧ j = .int .i64 m ∧ t = .int .i64 t' ∧ 0 ≤ t' ∧ t' < 31 ∧ termFrom k z1 p (x.drop m) m t' = termFrom k z1 p x 0 z2) (fun j _ => x.length - (intOf j).toNat)
      case atStart => exact ⟨0, z2, by omega, rfl, rfl, n2.1, n2.2, rfl⟩
      case round =>
        obtain ⟨m, t, hm, rfl, rfl, ht0, ht1, hq⟩ := hrel
        have HR := Lib.hid hq
        clear hq
        by_cases hlt2 : m < x.length
        · obtain ⟨b3, o3, z3, e3, hc3, hz3, hi3⟩ := hx1 m hlt2
          cases e3
          have n3 := HO.out.numx z3 (List.mem_of_getElem? hz3)
          have HZ3 := Lib.hid hz3
          clear hz3
          by_cases hmk : m = k
          · have hne : ((m : Int) != (k : Int)) = false := by simp [hmk]
            have HM := Lib.hid hmk
            clear hmk
            go_wp2_with fail
            go_round
            case rel =>
              refine ⟨m + 1, t, by omega, by go_num, rfl, ht0, ht1, ?_⟩
              rw [← HR.out, drop_get HZ3.out]
              simp only [termFrom]
              rw [if_pos HM.out]
            case measure => simp [intOf]; omega
          · have hne : ((m : Int) != (k : Int)) = true := by simp; omega
            have HM := Lib.hid hmk
            clear hmk
            have hmb : 0 ≤ t * (p + 31 - z3) ∧ t * (p + 31 - z3) ≤ 1900 := by
              have e1 : t * (p + 31 - z3) ≤ 30 * (p + 31 - z3) := Int.mul_le_mul_of_nonneg_right (by omega) (by omega)
              exact ⟨Int.mul_nonneg ht0 (by omega), by omega⟩
            obtain ⟨hmb0, hmb1⟩ := hmb
            have hd := divT_bd (a := t * (p + 31 - z3) % 31) ((z1 + 31 - z3) % 31) (by omega) (by omega)
            go_wp2_with (go_at_call 87; refine (Div_any _ _ _ (by omega) (by omega) (by omega) (by omega)).mono ?_; rintro e w' ⟨rfl, rfl⟩)
            go_round
            case rel =>
              refine ⟨m + 1, _, by omega, by go_num, rfl, hd.1, hd.2, ?_⟩
              rw [← HR.out, drop_get HZ3.out]
              simp only [termFrom]
              rw [if_neg HM.out]
            case measure => simp [intOf]; omega
        · obtain rfl : m = x.length := by omega
          go_wp2_with fail
          go_round
          case rel =>
            refine ⟨k + 1, (s + t) % 31, by omega, by go_num, rfl, by omega, by omega, ?_⟩
            rw [← HQ.out, drop_get HZ1.out, drop_get HZ2.out]
            simp only [atFrom]
            rw [← HR.out]
            simp [termFrom]
          case measure => simp [intOf]; omega
    · obtain rfl : k = x.length := by omega
      go_wp2_with fail
      go_ret2
      refine ⟨ret_pair ?_ rfl, hb1⟩
      rw [← HQ.out]
      simp [atFrom]

theorem follows_mixed : Try.prog.follows .mixedOrders = true := by kernel_rfl
theorem same_sym {e : Ending} {v : Value} {w w' : World} (h : e = .returned v ∧ w = w') : e = .returned v ∧ w' = w := ⟨h.1, h.2.symm⟩

theorem i64_num {z : Int} (h : 0 ≤ z ∧ z < 31) : I64 z := ⟨by omega, by omega⟩
theorem OwnInts.drew {w : World} {e : TypeId} {base : Nat} {v : Value} {l : List Int} (h : OwnInts w e base v l) : OwnInts w.drew e base v l := h
theorem IntsAt.drew {w : World} {a : Option Addr} {l : List Int} (h : IntsAt w a l) : IntsAt w.drew a l := h

set_option maxRecDepth 100000 in
set_option maxHeartbeats 2000000 in
theorem ValueAt_any (vx vy : Value) (x y : List Int) (p : Int) (w : World) (hx : IsInts w vx x) (hy : IsInts w vy y) (hok : PtsOk x y) (hp0 : 0 ≤ p) (hp1 : p < 31) :
    Calls Try.prog 106 #[vx, vy, .int .i64 p] w fun e w' => e = .returned (.int .i64 (valV x y p)) ∧ Below w.heap.size w w' := by
  have HO := Lib.hid hok
  have hpos := hok.pos
  have htop := hok.top
  have hx0 := hx
  obtain ⟨ax, cx, rfl, hcx, hmx, hx⟩ := hx.opened
  clear hmx hok
  go_enter Try.func106, Try.ntmps106
  go_wp2_with fail
  refine (Clone_ints _ y _ hy).mono ?_
  rintro e w1 ⟨⟨vc, rfl, hown⟩, hb1⟩
  have hx1 := hx.stays hb1
  have hyl : y.length ≤ x.length := by rw [HO.out.len]; exact Nat.le_refl _
  have hyl2 : x.length ≤ y.length := by rw [HO.out.len]; exact Nat.le_refl _
  obtain ⟨g, cap, rfl, hg1, hg2, hcap1, hcap2⟩ := hown.shape (by omega)
  clear hx0 hy hx1
  go_wp2_with fail
  go_loopw [8] (fun i wr => ∃ k : Nat, ∃ c : List Int, 1 ≤ k ∧ k ≤ x.length ∧ i = .int .i64 k ∧ OwnInts wr 3 w.heap.size (.slice (some ⟨g, 0, none⟩) y.length cap) c ∧ c.length = y.length ∧ AllNum c ∧ Below w.heap.size w wr ∧ w1.grownBy wr (some g) ∧ ddOut x (x.length - k) k c = ddOut x (x.length - 1) 1 y) (fun i _ => x.length - (intOf i).toNat)
  case atStart => exact ⟨1, y, by omega, by omega, rfl, hown, rfl, HO.out.numy, hb1, ⟨rfl, rfl, rfl, Nat.le_refl _, fun _ _ _ => rfl⟩, rfl⟩
  case round =>
    obtain ⟨wo, rfl⟩ : ∃ wo : World, wo = wr := ⟨_, rfl⟩
    obtain ⟨k, c, hk1, hk2, rfl, ho, hcl, hnum, hb, hg, hq⟩ := hrel
    have HQ := Lib.hid hq
    have HC := Lib.hid hcl
    clear hq hcl
    by_cases hlt : k < x.length
    · go_wp2_with fail
      go_loopw [9] (fun i wr' => ∃ m : Nat, ∃ c' : List Int, m ≤ x.length - k ∧ i = .int .i64 ((k : Int) + m - 1) ∧ OwnInts wr' 3 w.heap.size (.slice (some ⟨g, 0, none⟩) y.length cap) c' ∧ c'.length = y.length ∧ AllNum c' ∧ Below w.heap.size w wr' ∧ w1.grownBy wr' (some g) ∧ ddIn x k m c' = ddIn x k (x.length - k) c) (fun i _ => (intOf i + 1 - k).toNat)
      case atStart => exact ⟨x.length - k, c, by omega, by go_num, ho, HC.out, hnum, hb, hg, rfl⟩
      case round =>
        obtain ⟨m, c', hm, rfl, ho', hcl', hnum', hb', hg', hq'⟩ := hrel
        have HR := Lib.hid hq'
        have HC' := Lib.hid hcl'
        clear hq' hcl'
        by_cases hm0 : 1 ≤ m
        · obtain ⟨m, rfl⟩ : ∃ m', m = m' + 1 := ⟨m - 1, by omega⟩
          have hcl2 : c'.length ≤ y.length := by rw [HC'.out]; exact Nat.le_refl _
          have hcl3 : y.length ≤ c'.length := by rw [HC'.out]; exact Nat.le_refl _
          rw [show ((k : Int) + ((m + 1 : Nat) : Int) - 1) = ((k + m : Nat) : Int) by omega]
          obtain ⟨i, hi⟩ : ∃ i, i = k + m := ⟨_, rfl⟩
          rw [← hi]
          have hik : i - k = m := by omega
          have hi1 : k ≤ i := by omega
          have hi2 : i < x.length := by omega
          have hi3 : i < y.length := by omega
          have hc1 := ho'.cell i (by omega)
          have hc2 := ho'.cell (i - 1) (by omega)
          have hfz := ho'.free i
          have hn1 := hnum'.getD i
          have hn2 := hnum'.getD (i - 1)
          obtain ⟨u1, hu1⟩ : ∃ u, u = c'.getD i 0 := ⟨_, rfl⟩
          obtain ⟨u2, hu2⟩ : ∃ u, u = c'.getD (i - 1) 0 := ⟨_, rfl⟩
          rw [← hu1] at hc1 hn1
          rw [← hu2] at hc2 hn2
          obtain ⟨b1, o1, z1, e1, hc3, hz1, hi4⟩ := (hx.stays hb') i hi2
          obtain ⟨b2, o2, z2, e2, hc4, hz2, hi5⟩ := (hx.stays hb') (i - k) (by omega)
          subst e1
          cases e2
          have n1 := HO.out.numx z1 (List.mem_of_getElem? hz1)
          have n2 := HO.out.numx z2 (List.mem_of_getElem? hz2)
          have HX1 := Lib.hid (show x.getD (k + m) 0 = z1 by rw [← hi]; simp [List.getD_eq_getElem?_getD, hz1])
          have HX2 := Lib.hid (show x.getD m 0 = z2 by rw [← hik]; simp [List.getD_eq_getElem?_getD, hz2])
          have HU1 := Lib.hid (show c'.getD (k + m) 0 = u1 by rw [← hi, hu1])
          have HU2 := Lib.hid (show c'.getD (k + m - 1) 0 = u2 by rw [← hi, hu2])
          have HI := Lib.hid hi
          clear hu1 hu2 hz1 hz2 hi hik
          have l1 := lessV_bd u1 u2
          have l2 := lessV_bd z1 z2
          have q1 := quoV_bd (lessV u1 u2) (lessV z1 z2)
          have C1 := Lib.hid (fun w => less_any u1 u2 w (by omega) (by omega) (by omega) (by omega))
          have C2 := Lib.hid (fun w => less_any z1 z2 w (by omega) (by omega) (by omega) (by omega))
          have C3 := Lib.hid (fun w => Quotient_any (lessV u1 u2) (lessV z1 z2) w (by omega) (by omega))
          go_wp2_with fail
          have s2 : (0 : Int) ≤ (i : Int) - 1 := by omega
          have s3 : (i : Int) - 1 < (y.length : Int) := by omega
          have s11 : (1 : Int) ≤ (i : Int) := by omega
          have s12 : (k : Int) ≤ (i : Int) := by omega
          have s6 : (0 : Int) ≤ (i : Int) - (k : Int) := by omega
          have s7 : (i : Int) - (k : Int) < (x.length : Int) := by omega
          have s9 : (i : Int) < (x.length : Int) := by omega
          have s10 : (i : Int) < (y.length : Int) := by omega
          have s4 : ((i : Int) - 1).toNat = i - 1 := by omega
          have s8 : ((i : Int) - (k : Int)).toNat = i - k := by omega
          have s1 : IntKind.i64.wrap ((i : Int) - 1) = (i : Int) - 1 := IntWalk.i64_in _ (by omega)
          have s5 : IntKind.i64.wrap ((i : Int) - (k : Int)) = (i : Int) - (k : Int) := IntWalk.i64_in _ (by omega)
          refine wp_region_still_tail 25 follows_mixed (by kernel_rfl) ?_
          simp only [List.take_succ_cons, List.take_zero, List.drop_succ_cons, List.drop_zero]
          repeat still_step
          still_call ((C1.out _).mono fun _ _ h => same_sym h)
          repeat still_step
          still_call ((C2.out _).mono fun _ _ h => same_sym h)
          repeat still_step
          still_call ((C3.out _).mono fun _ _ h => same_sym h)
          repeat still_step
          clear s1 s2 s3 s4 s5 s6 s7 s8 s9 s10 s11 s12
          try refine wpStill_nil ?_
          change wpList _ _ _ _ _ wr.drew
          have ho2 := (ho'.drew).stored i (quoV (lessV u1 u2) (lessV z1 z2)) (i64_num q1)
          have hfz2 : wr.drew.frozen? ⟨g, i, none⟩ = false := hfz
          have hcd : wr.drew.cell? ⟨g, i, none⟩ = some (.int .i64 u1) := hc1
          have hbd : Below w.heap.size w wr.drew := hb'.drew
          have hgd : w1.grownBy wr.drew (some g) := ⟨hg'.os, hg'.tape, hg'.output, hg'.size, hg'.block⟩
          generalize wr.drew = w2 at *
          clear hc1 hc2 hc3 hc4 hfz
          go_wp2_with fail
          go_roundw
          case rel =>
            refine ⟨m, c'.set i (quoV (lessV u1 u2) (lessV z1 z2)), by omega, by rw [HI.out]; go_num, ho2, by simp [HC'.out], hnum'.set _ q1.1 q1.2, hbd.setCell hg1 _, ⟨hgd.os, hgd.tape, hgd.output, by simpa using hgd.size, fun j hj hne => (Below.heap_setCell _ _ _ _ (by intro e; exact hne (by rw [e]))).trans (hgd.block j hj hne)⟩, ?_⟩
            rw [← HR.out]
            simp only [ddIn]
            rw [HX1.out, HX2.out, HU1.out, HU2.out, HI.out]
          case measure => simp [intOf]; omega
        · obtain rfl : m = 0 := by omega
          go_wp2_with fail
          go_roundw
          case rel =>
            refine ⟨k + 1, c', by omega, by omega, by go_num, ho', HC'.out, hnum', hb', hg', ?_⟩
            rw [← HQ.out, show x.length - k = (x.length - (k + 1)) + 1 by omega]
            simp only [ddOut]
            have := HR.out
            simp only [ddIn] at this
            rw [← this]
          case measure => simp [intOf]; omega
    · obtain rfl : k = x.length := by omega
      have hq2 := HQ.out
      rw [Nat.sub_self] at hq2
      simp only [ddOut] at hq2
      have HQ2 := Lib.hid hq2
      clear hq2
      go_wp2_with fail
      go_loopw [10, 11] (fun v i wr => ∃ m : Nat, ∃ v' : Int, m ≤ x.length ∧ i = .int .i64 ((m : Int) - 1) ∧ v = .int .i64 v' ∧ 0 ≤ v' ∧ v' < 31 ∧ OwnInts wr 3 w.heap.size (.slice (some ⟨g, 0, none⟩) y.length cap) c ∧ Below w.heap.size w wr ∧ hoFrom x c p m v' = valV x y p) (fun _ i _ => (intOf i + 1).toNat)
      case atStart => exact ⟨x.length, 0, by omega, by go_num, rfl, by omega, by omega, ho, hb, by unfold valV; rw [HQ2.out]⟩
      case round =>
        obtain ⟨m, v, hm, rfl, rfl, hv0, hv1, ho', hb', hq'⟩ := hrel
        have HR := Lib.hid hq'
        clear hq'
        by_cases hm0 : 1 ≤ m
        · obtain ⟨m, rfl⟩ : ∃ m', m = m' + 1 := ⟨m - 1, by omega⟩
          rw [show (((m + 1 : Nat) : Int) - 1) = (m : Int) by omega]
          have hcl3 : y.length ≤ c.length := by rw [HC.out]; exact Nat.le_refl _
          have hm2 : m < y.length := by omega
          have hc1 := ho'.cell m (by omega)
          have hn1 := hnum.getD m
          obtain ⟨u1, hu1⟩ : ∃ u, u = c.getD m 0 := ⟨_, rfl⟩
          rw [← hu1] at hc1 hn1
          obtain ⟨b1, o1, z1, e1, hc3, hz1, hi4⟩ := (hx.stays hb') m (by omega)
          subst e1
          have n1 := HO.out.numx z1 (List.mem_of_getElem? hz1)
          have HX1 := Lib.hid (show x.getD m 0 = z1 by simp [List.getD_eq_getElem?_getD, hz1])
          have HU1 := Lib.hid hu1
          clear hu1 hz1
          have l1 := lessV_bd p z1
          have C1 := Lib.hid (fun w => less_any p z1 w (by omega) (by omega) (by omega) (by omega))
          have hmb : 0 ≤ v * lessV p z1 ∧ v * lessV p z1 ≤ 900 := mul_bd hv0 hv1 l1.1 l1.2
          obtain ⟨mb0, mb1⟩ := hmb
          go_wp2_with fail
          have s2 : (0 : Int) ≤ (m : Int) := by omega
          have s3 : (m : Int) < (y.length : Int) := by omega
          have s4 : (m : Int) < (x.length : Int) := by omega
          have s6 : 0 ≤ v * lessV p z1 + u1 := by omega
          have s1 : IntKind.i64.wrap (v * lessV p z1) = v * lessV p z1 := IntWalk.i64_in _ (by omega)
          have s5 : IntKind.i64.wrap (v * lessV p z1 + u1) = v * lessV p z1 + u1 := IntWalk.i64_in _ (by omega)
          have s7 : (v * lessV p z1 + u1).tmod 31 = (v * lessV p z1 + u1) % 31 := IntWalk.rem_in _ _ s6
          refine wp_region_still_tail 14 follows_mixed (by kernel_rfl) ?_
          simp only [List.take_succ_cons, List.take_zero, List.drop_succ_cons, List.drop_zero]
          repeat still_step
          still_call ((C1.out _).mono fun _ _ h => same_sym h)
          repeat still_step
          clear s1 s2 s3 s4 s5 s6 s7
          try refine wpStill_nil ?_
          change wpList _ _ _ _ _ wr.drew
          have hod : OwnInts wr.drew 3 w.heap.size (.slice (some ⟨g, 0, none⟩) y.length cap) c := ho'
          have hbd : Below w.heap.size w wr.drew := hb'.drew
          generalize wr.drew = w2 at *
          clear hc1 hc3
          go_wp2_with fail
          go_roundw
          case rel =>
            refine ⟨m, _, by omega, by go_num, rfl, by omega, by omega, hod, hbd, ?_⟩
            rw [← HR.out]
            simp only [hoFrom]
            rw [HX1.out, ← HU1.out]
          case measure => simp [intOf]
        · obtain rfl : m = 0 := by omega
          go_wp2_with fail
          go_ret
          exact ⟨ret_int HR.out, hb'⟩

end Go.Proofs.Ytnpdojjffbhalaa
