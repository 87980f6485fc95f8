/-
  The walk of CurveThrough.
-/
import Derived.Test.YtbodfbpikpkkbaaCurve2
import Derived.Test.YtbodfbpikpkkbaaConcat
import Derived.Test.YtbodfbpikpkkbaaLib2
import Derived.Deep.RegionHeld3
namespace Go.Proofs.Ytbodfbpikpkkbaa
open Go.RowKit

theorem run_makeFunc (fn : Fn) (first cap : Array Value) (w : World) : (Instr.makeFunc fn first cap).run Try.prog w = .ok (.func fn first cap) w := rfl

set_option maxHeartbeats 400000 in
theorem value_any (b1 b2 : Nat) (vx vy : Value) (x y : List Int) (k : Int) (w : World) (c1 : w.cell? ⟨b1, 0, none⟩ = some vx) (c2 : w.cell? ⟨b2, 0, none⟩ = some vy) (hx : IsInts w vx x) (hy : IsInts w vy y) (hok : ptsV x y = 0) (h0 : 0 ≤ k) (h1 : k < 31) :
    Calls Try.prog 33 #[.int .i64 k, .pointer (some ⟨b1, 0, none⟩), .pointer (some ⟨b2, 0, none⟩)] w fun e w' => e = .returned (.int .i64 (atV x y k)) ∧ Below w.heap.size w w' := by
  obtain ⟨ax, cx, rfl, _⟩ := hx.opened
  obtain ⟨ay, cy, rfl, _⟩ := hy.opened
  have HK := Lib.hid hok
  clear hok
  go_enter Try.func33, Try.ntmps33
  go_wp2_with fail
  refine (At_ok _ _ x y k _ hx hy HK.out h0 h1).mono ?_
  rintro e w1 ⟨rfl, hb1⟩
  go_wp2_with fail
  go_ret
  exact ⟨rfl, hb1⟩

set_option maxHeartbeats 1000000 in
theorem curveThrough_no (v0 : Value) (x : List Int) (v1 : Value) (y : List Int) (v2 : Value) (x3 : Int) (W : World) (hx : IsInts W v0 x) (hy : IsInts W v1 y) (h : ptsV x y ≠ 0) :
    Calls Try.prog 10 #[v0, v1, v2, .int .i64 x3] W fun e w' => e = .returned (.bool true) ∧ Below W.heap.size W w' := by
  have S := Since.refl W
  have hne : (ptsV x y != 0) = true := by simpa using h
  clear h
  obtain ⟨ax, cx, rfl, _⟩ := hx.opened
  obtain ⟨ay, cy, rfl, _⟩ := hy.opened
  go_enter Try.func10, Try.ntmps10
  go_wp2_with fail
  have S0 := (S.alloc (.cells #[.slice ax x.length cx] 24)).alloc (.cells #[.slice ay y.length cy] 24)
  have c1 : ((W.alloc (.cells #[.slice ax x.length cx] 24)).alloc (.cells #[.slice ay y.length cy] 24)).cell? ⟨W.heap.size, 0, none⟩ = some (.slice ax x.length cx) := by go_simp
  have c2 : ((W.alloc (.cells #[.slice ax x.length cx] 24)).alloc (.cells #[.slice ay y.length cy] 24)).cell? ⟨W.heap.size + 1, 0, none⟩ = some (.slice ay y.length cy) := by go_simp
  have hx0 := (hx.stays (below_alloc _ (.cells #[.slice ax x.length cx] 24))).stays (below_alloc _ (.cells #[.slice ay y.length cy] 24))
  have hy0 := (hy.stays (below_alloc _ (.cells #[.slice ax x.length cx] 24))).stays (below_alloc _ (.cells #[.slice ay y.length cy] 24))
  clear hx hy S
  generalize ((W.alloc (.cells #[.slice ax x.length cx] 24)).alloc (.cells #[.slice ay y.length cy] 24)) = w0 at *
  refine (curved_any _).mono ?_
  rintro e w1 ⟨rfl, hb1⟩
  have S1 := S0.step hb1
  have hx1 := hx0.stays hb1
  have hy1 := hy0.stays hb1
  have d1 := (hb1.cell (p := ⟨W.heap.size, 0, none⟩) (cell_lt c1)).trans c1
  have d2 := (hb1.cell (p := ⟨W.heap.size + 1, 0, none⟩) (cell_lt c2)).trans c2
  clear S0 hb1 hx0 hy0 c1 c2
  go_wp2_with fail
  refine (ptsCheck_any _ _ x y _ hx1 hy1).mono ?_
  rintro e w2 ⟨rfl, hb2⟩
  have S2 := S1.step hb2
  clear S1 hb2 hx1 hy1 d1 d2
  go_wp2_with fail
  refine (curved_any _).mono ?_
  rintro e w3 ⟨rfl, hb3⟩
  have S3 := S2.step hb3
  clear S2 hb3
  go_wp2_with fail
  go_ret
  exact ⟨rfl, S3.below⟩

set_option maxRecDepth 100000 in
set_option maxHeartbeats 4000000 in
theorem curveThrough_ok (v0 : Value) (x : List Int) (v1 : Value) (y : List Int) (v2 : Value) (o : List Int) (x3 : Int) (W : World) (hx : IsInts W v0 x) (hy : IsInts W v1 y) (ho : IsInts W v2 o) (i3 : I64 x3) (hok : ptsV x y = 0) :
    Calls Try.prog 10 #[v0, v1, v2, .int .i64 x3] W fun e w' => e = .returned (.bool true) ∧ Below W.heap.size W w' := by
  have S := Since.refl W
  have P := Lib.hid (ptsV_ok.1 hok)
  have K := Lib.hid hok
  clear hok
  obtain ⟨i30, i31⟩ := i3
  have hxl : x.length ≤ 8 := P.out.top
  have hyl : x.length ≤ y.length := by rw [P.out.len]; exact Nat.le_refl _
  have hyl2 : y.length ≤ x.length := by rw [P.out.len]; exact Nat.le_refl _
  obtain ⟨ax, cx, rfl, hcx, _, hxa⟩ := hx.opened
  obtain ⟨ay, cy, rfl, hcy, _, hya⟩ := hy.opened
  obtain ⟨ao, co, rfl, hco, ⟨hmo, _⟩, hoa⟩ := ho.opened
  have hm := modV_bd x3 (n := 31) (by omega)
  go_enter Try.func10, Try.ntmps10
  go_wp2_with fail
  have S0 := (S.alloc (.cells #[.slice ax x.length cx] 24)).alloc (.cells #[.slice ay y.length cy] 24)
  have c1 : ((W.alloc (.cells #[.slice ax x.length cx] 24)).alloc (.cells #[.slice ay y.length cy] 24)).cell? ⟨W.heap.size, 0, none⟩ = some (.slice ax x.length cx) := by go_simp
  have c2 : ((W.alloc (.cells #[.slice ax x.length cx] 24)).alloc (.cells #[.slice ay y.length cy] 24)).cell? ⟨W.heap.size + 1, 0, none⟩ = some (.slice ay y.length cy) := by go_simp
  have hx0 := (hx.stays (below_alloc _ (.cells #[.slice ax x.length cx] 24))).stays (below_alloc _ (.cells #[.slice ay y.length cy] 24))
  have hy0 := (hy.stays (below_alloc _ (.cells #[.slice ax x.length cx] 24))).stays (below_alloc _ (.cells #[.slice ay y.length cy] 24))
  have ho0 := (ho.stays (below_alloc _ (.cells #[.slice ax x.length cx] 24))).stays (below_alloc _ (.cells #[.slice ay y.length cy] 24))
  clear hx hy ho S hxa hya hoa
  generalize ((W.alloc (.cells #[.slice ax x.length cx] 24)).alloc (.cells #[.slice ay y.length cy] 24)) = w0 at *
  obtain ⟨B1, hB1⟩ : ∃ B, B = W.heap.size := ⟨_, rfl⟩
  obtain ⟨B2, hB2⟩ : ∃ B, B = W.heap.size + 1 := ⟨_, rfl⟩
  rw [← hB1] at c1
  rw [← hB2] at c2
  rw [← hB2, ← hB1]
  have l1 := cell_lt c1
  have l2 := cell_lt c2
  clear hB1 hB2
  have T := Since.refl w0
  refine (curved_any _).mono ?_
  rintro e w1 ⟨rfl, hb1⟩
  have T1 := T.step hb1
  have d1 := (T1.below.cell (p := ⟨B1, 0, none⟩) l1).trans c1
  have d2 := (T1.below.cell (p := ⟨B2, 0, none⟩) l2).trans c2
  clear T hb1
  go_wp2_with fail
  refine (ptsCheck_any _ _ x y _ (hx0.stays T1.below) (hy0.stays T1.below)).mono ?_
  rintro e w2 ⟨rfl, hb2⟩
  rw [K.out]
  have T2 := T1.step hb2
  clear T1 hb2 d1 d2
  go_wp2_with fail
  refine (at_any _ _ _ (by omega) (by omega) (by omega) (by omega)).mono ?_
  rintro e w' ⟨rfl, rfl⟩
  generalize modV x3 31 = p at *
  obtain ⟨p0, p1⟩ := hm
  have d1 := (T2.below.cell (p := ⟨B1, 0, none⟩) l1).trans c1
  have d2 := (T2.below.cell (p := ⟨B2, 0, none⟩) l2).trans c2
  have hmf := run_makeFunc
  go_wp2_with fail
  clear d1 d2
  go_loopw [34] (fun i wr => ∃ k : Nat, k ≤ x.length ∧ i = .int .i64 k ∧ Since w0.heap.size w0 wr) (fun i _ => x.length - (intOf i).toNat)
  case atStart => exact ⟨0, by omega, rfl, T2⟩
  case round =>
    obtain ⟨k, hk, rfl, hS⟩ := hrel
    have d1 := (hS.below.cell (p := ⟨B1, 0, none⟩) l1).trans c1
    have d2 := (hS.below.cell (p := ⟨B2, 0, none⟩) l2).trans c2
    by_cases hlt : k < x.length
    · have hxr := hx0.stays hS.below
      have hyr := hy0.stays hS.below
      obtain ⟨axx, cxx, e1, _, _, hxi⟩ := hxr.opened
      obtain ⟨ayy, cyy, e2, _, _, hyi⟩ := hyr.opened
      simp only [Value.slice.injEq] at e1 e2
      obtain ⟨rfl, _, rfl⟩ := e1
      obtain ⟨rfl, _, rfl⟩ := e2
      obtain ⟨b1, o1, z1, rfl, hc1, hz1, hi1⟩ := hxi k hlt
      obtain ⟨b2, o2, z2, rfl, hc2, hz2, hi2⟩ := hyi k (by omega)
      have n1 := P.out.numx z1 (List.mem_of_getElem? hz1)
      obtain ⟨n10, n11⟩ := n1
      have HT := Lib.hid (atV_through P.out hz1 hz2)
      clear hz1 hz2 hxi hyi
      have lx : b1 < wr.heap.size := cell_lt hc1
      have ly : b2 < wr.heap.size := cell_lt hc2
      have l3 := Nat.lt_of_lt_of_le l1 hS.2
      have l4 := Nat.lt_of_lt_of_le l2 hS.2
      have hneq : (z2 != z2) = false := by simp
      have s1 : (k : Int) < (x.length : Int) := by omega
      have s2 : (k : Int) < (y.length : Int) := by omega
      go_wp2_with fail
      have V := Lib.hid (value_any B1 B2 _ _ x y z1 wr.drew d1 d2 hxr hyr K.out n10 n11)
      go_region_held3 (fun w' => w'.cell? ⟨B1, 0, none⟩ = some (.slice (some ⟨b1, o1, none⟩) x.length cx) ∧ w'.cell? ⟨B2, 0, none⟩ = some (.slice (some ⟨b2, o2, none⟩) y.length cy) ∧ w'.cell? ⟨b1, o1 + k, none⟩ = some (.int .i64 z1) ∧ w'.cell? ⟨b2, o2 + k, none⟩ = some (.int .i64 z2)) (first | exact ⟨d1, d2, hc1, hc2⟩ | exact ⟨d1', d2', hc1', hc2'⟩ | go_keep) (first | (go_at_call 33; refine V.out.mono ?_; rintro e w5 ⟨rfl, hb5⟩; rw [HT.out]; have d1' := (Below.cell hb5 (p := ⟨B1, 0, none⟩) l3).trans d1; have d2' := (Below.cell hb5 (p := ⟨B2, 0, none⟩) l4).trans d2; have hc1' := (Below.cell hb5 (p := ⟨b1, o1 + k, none⟩) lx).trans hc1; have hc2' := (Below.cell hb5 (p := ⟨b2, o2 + k, none⟩) ly).trans hc2))
      all_goals
        have hS5 := hS.drew.step hb5
        clear d1' d2' hc1' hc2' d1 d2 hc1 hc2 s1 s2
        go_wp2_with fail
        go_roundw
        case rel => exact ⟨k + 1, by omega, by go_num, hS5⟩
        case measure => simp [intOf]; omega
    · obtain rfl : k = x.length := by omega
      obtain ⟨wo, hwo⟩ : ∃ wo : World, wo = wr := ⟨_, rfl⟩
      rw [← hwo] at hS d1 d2 ⊢
      clear hwo
      clear hlt hk d1 d2 T2
      go_wp2_with fail
      go_loopw [51, 11, 12] (fun i a b wr => ∃ k : Nat, ∃ la : List Int, k ≤ o.length ∧ i = .int .i64 k ∧ Since w0.heap.size w0 wr ∧ OwnInts wr 3 w0.heap.size a la ∧ OwnInts wr 3 w0.heap.size b (la.map (atV x y)) ∧ Apart a b ∧ la.length ≤ x.length ∧ la.Nodup ∧ (∀ k ∈ la, 0 ≤ k ∧ k < 31)) (fun i _ _ _ => o.length - (intOf i).toNat)
      case atStart => exact ⟨0, [], by omega, rfl, hS, OwnInts.nil _ _ _, OwnInts.nil _ _ _, Apart.nil_l _ _ _, by simp, List.nodup_nil, by simp⟩
      case round =>
        obtain ⟨k, la, hk, rfl, hS, ha, hb, hab, hll, hnd, hnum⟩ := hrel
        have HND := Lib.hid hnd
        have HNUM := Lib.hid hnum
        have HAB := Lib.hid hab
        clear hnd hnum hab
        obtain ⟨aa, ca, rfl, _⟩ := ha.isInts.opened
        have d1 := (hS.below.cell (p := ⟨B1, 0, none⟩) l1).trans c1
        have d2 := (hS.below.cell (p := ⟨B2, 0, none⟩) l2).trans c2
        by_cases hlt : k < o.length
        · obtain ⟨aoo, coo, e1, _, _, hoi⟩ := (ho0.stays hS.below).opened
          simp only [Value.slice.injEq] at e1
          obtain ⟨rfl, _, rfl⟩ := e1
          obtain ⟨b1, o1, z1, rfl, hc1, hz1, ⟨hi10, hi11⟩⟩ := hoi k hlt
          clear hz1 hoi
          have hq := modV_bd z1 (n := 31) (by omega)
          go_wp2_with fail
          refine (at_any _ _ _ (by omega) (by omega) (by omega) (by omega)).mono ?_
          rintro e w' ⟨rfl, rfl⟩
          generalize modV z1 31 = q at *
          obtain ⟨q0, q1⟩ := hq
          go_wp2_with fail
          refine (Contains_ints _ la _ _ ha.isInts).mono ?_
          rintro e w' ⟨rfl, rfl⟩
          by_cases hmem : q ∈ la
          · rw [show memB q la = true by simp [memB, hmem]]
            clear hmem d1 d2 hc1
            go_wp2_with fail
            go_roundw
            case rel => exact ⟨k + 1, la, by omega, by go_num, hS, ha, hb, HAB.out, hll, HND.out, HNUM.out⟩
            case measure => simp [intOf]; omega
          · rw [show memB q la = false by simp [memB, hmem]]
            have HM := Lib.hid hmem
            clear hmem hc1
            by_cases hfull : la.length < x.length
            · have iq : I64 q := ⟨by omega, by omega⟩
              have ib : I64 (atV x y q) := by have := atV_bd x y q; exact ⟨by omega, by omega⟩
              have hgs := hS.2
              go_wp2_with (first
                | (at_builtin; refine wpList_append_int_at rfl (.tmp 68) (.tmp 70) 24 rfl 3 Try.underlying24 info_int w0.heap.size _ la rfl (ha.stays (below_alloc wr _)) ⟨wr.heap.size, 0, none⟩ 1 q rfl (by simp) iq (by omega) (by simp; omega) ?_; intro va' w4 ha4 hg4 hat4; have S4 := (hS.alloc _).own (ha.stays (below_alloc wr _)) hg4; have hb4 := (hb.stays (below_alloc wr _)).kept hg4 HAB.out.ne; have HAB4 := Lib.hid (Apart.grown HAB.out hat4 (fun j hj => ((hb.stays (below_alloc wr _)).1.lt j hj).2)); have e1 := (S4.below.cell (p := ⟨B1, 0, none⟩) l1).trans c1; have e2 := (S4.below.cell (p := ⟨B2, 0, none⟩) l2).trans c2)
                | (go_at_call 33; refine (value_any B1 B2 _ _ x y q _ e1 e2 (hx0.stays S4.below) (hy0.stays S4.below) K.out q0 q1).mono ?_; rintro e w5 ⟨rfl, hb5⟩; have S5 := S4.step hb5; have ha5 := ha4.stays hb5; have hbb5 := hb4.stays hb5; have hgs5 := S5.2; clear e1 e2)
                | (at_builtin; refine wpList_append_int_at rfl (.tmp 72) (.tmp 76) 24 rfl 3 Try.underlying24 info_int w0.heap.size _ (la.map (atV x y)) rfl (hbb5.stays (below_alloc w5 _)) ⟨w5.heap.size, 0, none⟩ 1 (atV x y q) rfl (by simp) ib (by simp; omega) (by simp; omega) ?_; intro vb' w6 hb6 hg6 hat6))
              have S6 := (S5.alloc _).own (hbb5.stays (below_alloc w5 _)) hg6
              have ha6 := (ha5.stays (below_alloc w5 _)).kept hg6 HAB4.out.symm.ne
              have HAB6 := Apart.symm (Apart.grown HAB4.out.symm hat6 (fun j hj => ((ha5.stays (below_alloc w5 _)).1.lt j hj).2))
              clear d1 d2 S4 S5 ha4 ha5 hb4 hbb5 hg4 hg6 hat4 hat6
              go_wp2_with fail
              go_roundw
              case rel =>
                refine ⟨k + 1, la ++ [q], by omega, by go_num, S6, ha6, by simpa using hb6, HAB6, by simp; omega, ?_, ?_⟩
                · rw [List.nodup_append]
                  exact ⟨HND.out, by simp, by intro c hc d hd e; simp at hd; subst hd; subst e; exact HM.out hc⟩
                · intro c hc
                  simp at hc
                  rcases hc with hc | rfl
                  · exact HNUM.out c hc
                  · exact ⟨q0, q1⟩
              case measure => simp [intOf]; omega
            · have hnf : decide ((la.length : Int) < (x.length : Int)) = false := by simp; omega
              go_wp2_with fail
              go_roundw
              case rel => exact ⟨k + 1, la, by omega, by go_num, hS, ha, hb, HAB.out, hll, HND.out, HNUM.out⟩
              case measure => simp [intOf]; omega
        · obtain rfl : k = o.length := by omega
          clear hlt hk
          have SR := hS
          by_cases hfull : la.length = x.length
          · have hf1 : ((la.length : Int) == (x.length : Int)) = true := by simp; omega
            have SM := Lib.hid (atV_same P.out HND.out HNUM.out hfull)
            clear hfull
            go_wp2_with fail
            refine (At_ok _ _ la (la.map (atV x y)) p _ ha.isInts hb.isInts (ptsV_ok.2 SM.out.1) p0 p1).mono ?_
            rintro e w5 ⟨rfl, hb5⟩
            rw [SM.out.2 p]
            have S5 := SR.step hb5
            clear SR hS ha hb hb5 d1 d2
            have e1 := (S5.below.cell (p := ⟨B1, 0, none⟩) l1).trans c1
            have e2 := (S5.below.cell (p := ⟨B2, 0, none⟩) l2).trans c2
            go_wp2_with fail
            refine (value_any B1 B2 _ _ x y p _ e1 e2 (hx0.stays S5.below) (hy0.stays S5.below) K.out p0 p1).mono ?_
            rintro e w6 ⟨rfl, hb6⟩
            have SR := S5.step hb6
            clear S5 hb6 e1 e2
            have hvv : (atV x y p != atV x y p) = false := by simp
            have d1 := (SR.below.cell (p := ⟨B1, 0, none⟩) l1).trans c1
            have d2 := (SR.below.cell (p := ⟨B2, 0, none⟩) l2).trans c2
            have hxR := hx0.stays SR.below
            have hyR := hy0.stays SR.below
            by_cases h8 : x.length = 8
            · have h81 : ((x.length : Int) == 8) = true := by simp; omega
              clear h8
              go_wp2_with fail
              go_ret
              exact ⟨rfl, (S0.step SR.below).below⟩
            · have h81 : ((x.length : Int) == 8) = false := by simp; omega
              have h82 : x.length < 8 := by omega
              clear h8
              go_wp2_with fail
              refine (Contains_ints _ x _ _ hxR).mono ?_
              rintro e w' ⟨rfl, rfl⟩
              by_cases hmem : p ∈ x
              · rw [show memB p x = true by simp [memB, hmem]]
                go_wp2_with fail
                go_ret
                exact ⟨rfl, (S0.step SR.below).below⟩
              · rw [show memB p x = false by simp [memB, hmem]]
                have MO := Lib.hid (atV_more P.out p0 p1 hmem h82)
                clear hmem
                go_wp2_with fail
                refine (at_any _ _ _ (by omega) (by omega) (by omega) (by omega)).mono ?_
                rintro e w' ⟨rfl, rfl⟩
                have hfar := modV_bd (p + 7) (n := 31) (by omega)
                generalize modV (p + 7) 31 = far at *
                obtain ⟨far0, far1⟩ := hfar
                have ip : I64 p := ⟨by omega, by omega⟩
                have iv : I64 (atV x y p) := by have := atV_bd x y p; exact ⟨by omega, by omega⟩
                go_wp2_with fail
                have lb1 : B1 < w6.heap.size := cell_lt d1
                have lb2 : B2 < w6.heap.size := cell_lt d2
                have lb3 : B1 < w6.heap.size + 1 := by omega
                have lb4 : B2 < w6.heap.size + 1 := by omega
                have tokA : True := trivial
                have CA := Lib.hid (concat_one_drew _ x p w6 hxR ip (by omega))
                go_region_held3 (fun w' => w'.cell? ⟨B1, 0, none⟩ = some (.slice ax x.length cx) ∧ w'.cell? ⟨B2, 0, none⟩ = some (.slice ay y.length cy)) (first | exact ⟨d1, d2⟩ | exact ⟨d1', d2'⟩ | exact ⟨e1', e2'⟩ | exact ⟨f1', f2'⟩ | exact ⟨g1', g2'⟩ | go_keep) (first | (have _t := tokA; go_at_call 35; refine CA.out.mono ?_; rintro e w7 ⟨⟨va7, rfl, ho7⟩, hb7⟩; have S7 := SR.step hb7; clear tokA CA; have d1' := (S7.below.cell (p := ⟨B1, 0, none⟩) l1).trans c1; have d2' := (S7.below.cell (p := ⟨B2, 0, none⟩) l2).trans c2) | (go_at_call 33; refine (value_any B1 B2 _ _ x y p _ d1' d2' (hx0.stays S7.below) (hy0.stays S7.below) K.out p0 p1).mono ?_; rintro e w8 ⟨rfl, hb8⟩; have S8 := S7.step hb8; have ho8 := ho7.stays hb8; have e1' := (S8.below.cell (p := ⟨B1, 0, none⟩) l1).trans c1; have e2' := (S8.below.cell (p := ⟨B2, 0, none⟩) l2).trans c2; have lb8 : B2 < w8.heap.size := cell_lt e2'; have lb9 : B2 < w8.heap.size + 1 := by omega) | (go_at_call 35; refine (concat_one _ y _ _ (hy0.stays S8.below) iv (by omega)).mono ?_; rintro e w9 ⟨⟨va9, rfl, ho9⟩, hb9⟩; have S9 := S8.step hb9; have hox9 := ho8.stays hb9; have f1' := (S9.below.cell (p := ⟨B1, 0, none⟩) l1).trans c1; have f2' := (S9.below.cell (p := ⟨B2, 0, none⟩) l2).trans c2) | (go_at_call 28; refine (At_ok _ _ _ _ far _ hox9.isInts ho9.isInts (ptsV_ok.2 MO.out.1) far0 far1).mono ?_; rintro e w10 ⟨rfl, hb10⟩; rw [MO.out.2 far]; have S10 := S9.step hb10; have g1' := (S10.below.cell (p := ⟨B1, 0, none⟩) l1).trans c1; have g2' := (S10.below.cell (p := ⟨B2, 0, none⟩) l2).trans c2))
                all_goals
                  clear d1 d2 d1' d2' e1' e2' f1' f2' g1' g2' S7 S8 S9 ho7 ho8 ho9 hox9 hb7 hb8 hb9 hb10
                  have f1 := (S10.below.cell (p := ⟨B1, 0, none⟩) l1).trans c1
                  have f2 := (S10.below.cell (p := ⟨B2, 0, none⟩) l2).trans c2
                  have hv2 : (atV x y far == atV x y far) = true := by simp
                  go_wp2_with fail
                  refine (value_any B1 B2 _ _ x y far _ f1 f2 (hx0.stays S10.below) (hy0.stays S10.below) K.out far0 far1).mono ?_
                  rintro e w11 ⟨rfl, hb11⟩
                  have S11 := S10.step hb11
                  clear f1 f2
                  go_wp2_with fail
                  go_ret
                  exact ⟨rfl, (S0.step S11.below).below⟩

          · have hf1 : ((la.length : Int) == (x.length : Int)) = false := by simp; omega
            clear hfull hS ha hb d1 d2
            have d1 := (SR.below.cell (p := ⟨B1, 0, none⟩) l1).trans c1
            have d2 := (SR.below.cell (p := ⟨B2, 0, none⟩) l2).trans c2
            have hxR := hx0.stays SR.below
            have hyR := hy0.stays SR.below
            by_cases h8 : x.length = 8
            · have h81 : ((x.length : Int) == 8) = true := by simp; omega
              clear h8
              go_wp2_with fail
              go_ret
              exact ⟨rfl, (S0.step SR.below).below⟩
            · have h81 : ((x.length : Int) == 8) = false := by simp; omega
              have h82 : x.length < 8 := by omega
              clear h8
              go_wp2_with fail
              refine (Contains_ints _ x _ _ hxR).mono ?_
              rintro e w' ⟨rfl, rfl⟩
              by_cases hmem : p ∈ x
              · rw [show memB p x = true by simp [memB, hmem]]
                go_wp2_with fail
                go_ret
                exact ⟨rfl, (S0.step SR.below).below⟩
              · rw [show memB p x = false by simp [memB, hmem]]
                have MO := Lib.hid (atV_more P.out p0 p1 hmem h82)
                clear hmem
                go_wp2_with fail
                refine (at_any _ _ _ (by omega) (by omega) (by omega) (by omega)).mono ?_
                rintro e w' ⟨rfl, rfl⟩
                have hfar := modV_bd (p + 7) (n := 31) (by omega)
                generalize modV (p + 7) 31 = far at *
                obtain ⟨far0, far1⟩ := hfar
                have ip : I64 p := ⟨by omega, by omega⟩
                have iv : I64 (atV x y p) := by have := atV_bd x y p; exact ⟨by omega, by omega⟩
                go_wp2_with fail
                have lb1 : B1 < wr.heap.size := cell_lt d1
                have lb2 : B2 < wr.heap.size := cell_lt d2
                have lb3 : B1 < wr.heap.size + 1 := by omega
                have lb4 : B2 < wr.heap.size + 1 := by omega
                have tokA : True := trivial
                have CA := Lib.hid (concat_one_drew _ x p wr hxR ip (by omega))
                go_region_held3 (fun w' => w'.cell? ⟨B1, 0, none⟩ = some (.slice ax x.length cx) ∧ w'.cell? ⟨B2, 0, none⟩ = some (.slice ay y.length cy)) (first | exact ⟨d1, d2⟩ | exact ⟨d1', d2'⟩ | exact ⟨e1', e2'⟩ | exact ⟨f1', f2'⟩ | exact ⟨g1', g2'⟩ | go_keep) (first | (have _t := tokA; go_at_call 35; refine CA.out.mono ?_; rintro e w7 ⟨⟨va7, rfl, ho7⟩, hb7⟩; have S7 := SR.step hb7; clear tokA CA; have d1' := (S7.below.cell (p := ⟨B1, 0, none⟩) l1).trans c1; have d2' := (S7.below.cell (p := ⟨B2, 0, none⟩) l2).trans c2) | (go_at_call 33; refine (value_any B1 B2 _ _ x y p _ d1' d2' (hx0.stays S7.below) (hy0.stays S7.below) K.out p0 p1).mono ?_; rintro e w8 ⟨rfl, hb8⟩; have S8 := S7.step hb8; have ho8 := ho7.stays hb8; have e1' := (S8.below.cell (p := ⟨B1, 0, none⟩) l1).trans c1; have e2' := (S8.below.cell (p := ⟨B2, 0, none⟩) l2).trans c2; have lb8 : B2 < w8.heap.size := cell_lt e2'; have lb9 : B2 < w8.heap.size + 1 := by omega) | (go_at_call 35; refine (concat_one _ y _ _ (hy0.stays S8.below) iv (by omega)).mono ?_; rintro e w9 ⟨⟨va9, rfl, ho9⟩, hb9⟩; have S9 := S8.step hb9; have hox9 := ho8.stays hb9; have f1' := (S9.below.cell (p := ⟨B1, 0, none⟩) l1).trans c1; have f2' := (S9.below.cell (p := ⟨B2, 0, none⟩) l2).trans c2) | (go_at_call 28; refine (At_ok _ _ _ _ far _ hox9.isInts ho9.isInts (ptsV_ok.2 MO.out.1) far0 far1).mono ?_; rintro e w10 ⟨rfl, hb10⟩; rw [MO.out.2 far]; have S10 := S9.step hb10; have g1' := (S10.below.cell (p := ⟨B1, 0, none⟩) l1).trans c1; have g2' := (S10.below.cell (p := ⟨B2, 0, none⟩) l2).trans c2))
                all_goals
                  clear d1 d2 d1' d2' e1' e2' f1' f2' g1' g2' S7 S8 S9 ho7 ho8 ho9 hox9 hb7 hb8 hb9 hb10
                  have f1 := (S10.below.cell (p := ⟨B1, 0, none⟩) l1).trans c1
                  have f2 := (S10.below.cell (p := ⟨B2, 0, none⟩) l2).trans c2
                  have hv2 : (atV x y far == atV x y far) = true := by simp
                  go_wp2_with fail
                  refine (value_any B1 B2 _ _ x y far _ f1 f2 (hx0.stays S10.below) (hy0.stays S10.below) K.out far0 far1).mono ?_
                  rintro e w11 ⟨rfl, hb11⟩
                  have S11 := S10.step hb11
                  clear f1 f2
                  go_wp2_with fail
                  go_ret
                  exact ⟨rfl, (S0.step S11.below).below⟩


theorem CurveThrough_walk (v0 : Value) (x : List Int) (v1 : Value) (y : List Int) (v2 : Value) (o : List Int) (v3 : Value) (x3 : Int) (W : World) (hx : IsInts W v0 x) (hy : IsInts W v1 y) (ho : IsInts W v2 o) (h3 : IsInt v3 x3) :
    Calls Try.prog 10 #[v0, v1, v2, v3] W fun e w' => e = .returned (.bool true) ∧ Below W.heap.size W w' := by
  obtain ⟨rfl, i3⟩ := h3
  by_cases h : ptsV x y = 0
  · exact curveThrough_ok v0 x v1 y v2 o x3 W hx hy ho i3 h
  · exact curveThrough_no v0 x v1 y v2 x3 W hx hy h

end Go.Proofs.Ytbodfbpikpkkbaa
