/-
  The walk of ShareAdds.
-/
import Derived.Test.YtlaabmpadikkjaaSplit2
namespace Go.Proofs.Ytlaabmpadikkjaa
open Go.RowKit

theorem eqSh_refl (l : List Sh) : eqSh l l = true := by
  induction l with
  | nil => rfl
  | cons s l ih => simp [eqSh, ih, sameV, eqInts]
theorem splitE_mk {n o s : Int} {data : List Int} (hp : planV n o s = 0) (hl : (data.length : Int) = s) (hn : ∀ z ∈ data, 0 ≤ z ∧ z < 31) : splitE n o s data = 0 := by
  unfold splitE
  rw [if_neg (by simpa using hp), if_neg (by simpa using hl)]
  exact (allV_ok _).2 hn
theorem planV_need {n o s : Int} (h : planV n o s = 0) : planV n n s = 0 := by
  obtain ⟨p1, p2, p3, p4, p5, p6⟩ := planV_bd h
  unfold planV
  rw [if_neg (by omega)]

set_option maxRecDepth 100000 in
set_option maxHeartbeats 2000000 in
theorem shareAdds_no (n o s : Int) (v u : Value) (a b : List Int) (W : World) (ha : IsInts W v a) (hb : IsInts W u b) (hE : splitE n o s a ≠ 0 ∨ splitE n o s a = 0 ∧ splitE n o s b ≠ 0) :
    Calls Try.prog 4 #[.agg #[.int .i64 n, .int .i64 o, .int .i64 s], v, u] W fun e w' => e = .returned (.bool true) ∧ Below W.heap.size W w' := by
  obtain ⟨aa, ca, rfl, _⟩ := ha.opened
  obtain ⟨ab, cb, rfl, _⟩ := hb.opened
  have S0 := (Since.refl W).alloc (.cells #[.int .i64 n, .int .i64 o, .int .i64 s] 23)
  have c0 : (W.alloc (.cells #[.int .i64 n, .int .i64 o, .int .i64 s] 23)).cell? ⟨W.heap.size, 0, none⟩ = some (.int .i64 n) := by go_simp
  have c1 : (W.alloc (.cells #[.int .i64 n, .int .i64 o, .int .i64 s] 23)).cell? ⟨W.heap.size, 1, none⟩ = some (.int .i64 o) := by go_simp
  have c2 : (W.alloc (.cells #[.int .i64 n, .int .i64 o, .int .i64 s] 23)).cell? ⟨W.heap.size, 2, none⟩ = some (.int .i64 s) := by go_simp
  have ha0 := ha.stays S0.below
  have hb0 := hb.stays S0.below
  clear ha hb
  go_enter Try.func4, Try.ntmps4
  go_upto_region 1 with fail
  generalize W.alloc (.cells #[.int .i64 n, .int .i64 o, .int .i64 s] 23) = w0 at *
  obtain ⟨B, hB⟩ : ∃ B, B = W.heap.size := ⟨_, rfl⟩
  rw [← hB] at c0 c1 c2 ⊢
  clear hB
  have l0 := cell_lt c0
  have HE := Lib.hid hE
  clear hE
  go_wp2_with fail
  refine (Split_any n o s _ a _ ha0).mono ?_
  rintro e w1 ⟨⟨v1, rfl, hs1⟩, hb1⟩
  obtain ⟨a1, n1, rfl, _⟩ := hs1.opened
  have T1 := (Since.refl w0).step hb1
  have d0 := (T1.below.cell (p := ⟨B, 0, none⟩) l0).trans c0
  have d1 := (T1.below.cell (p := ⟨B, 1, none⟩) l0).trans c1
  have d2 := (T1.below.cell (p := ⟨B, 2, none⟩) l0).trans c2
  clear hb1 hs1 c0 c1 c2
  go_wp2_with fail
  refine (Split_any n o s _ b _ (hb0.stays T1.below)).mono ?_
  rintro e w2 ⟨⟨v2, rfl, hs2⟩, hb2⟩
  obtain ⟨a2, n2, rfl, _⟩ := hs2.opened
  have T2 := T1.step hb2
  clear hb2 hs2 d0 d1 d2 T1
  go_wp2_with fail
  refine (parted_any _).mono ?_
  rintro e w3 ⟨rfl, hb3⟩
  have T3 := T2.step hb3
  clear hb3 T2
  rcases HE.out with h | ⟨h0, h⟩
  · have hne : (splitE n o s a != 0) = true := by simpa using h
    clear h
    go_wp2_with fail
    refine (parted_any _).mono ?_
    rintro e w4 ⟨rfl, hb4⟩
    go_wp2_with fail
    go_ret
    exact ⟨rfl, (S0.step (T3.step hb4).below).below⟩
  · rw [h0]
    have hne : (splitE n o s b != 0) = true := by simpa using h
    clear h h0
    go_wp2_with fail
    refine (parted_any _).mono ?_
    rintro e w4 ⟨rfl, hb4⟩
    go_wp2_with fail
    go_ret
    exact ⟨rfl, (S0.step (T3.step hb4).below).below⟩

set_option maxRecDepth 100000 in
set_option maxHeartbeats 2000000 in
theorem shareAdds_ok (n o s : Nat) (v u : Value) (a b : List Int) (W : World) (ha : IsInts W v a) (hb : IsInts W u b) (hE : splitE n o s a = 0) (hF : splitE n o s b = 0) :
    Calls Try.prog 4 #[.agg #[.int .i64 n, .int .i64 o, .int .i64 s], v, u] W fun e w' => e = .returned (.bool true) ∧ Below W.heap.size W w' := by
  obtain ⟨hp, hla, hna⟩ := splitE_zero hE
  obtain ⟨_, hlb, hnb⟩ := splitE_zero hF
  obtain ⟨p1, p2, p3, p4, p5, p6⟩ := planV_bd hp
  have hr24 : rowsN n s ≤ 24 := (rowsN_bd (n := n) (s := s) (by omega) (by omega) (by omega) (by omega)).2.2
  have hab : a.length = b.length := by omega
  obtain ⟨X, hX⟩ : ∃ X, X = sumL a b := ⟨_, rfl⟩
  have hXl : X.length = a.length := by rw [hX]; exact sumL_len hab
  have HG := Lib.hid (show splitE n o s X = 0 from splitE_mk hp (by omega) (by rw [hX]; exact sumL_nums))
  have HN := Lib.hid (show splitE n n s a = 0 from splitE_mk (planV_need hp) hla hna)
  have HX := Lib.hid hX
  have HXG : Hid (∀ (k : Nat) (x y : Int), a[k]? = some x → b[k]? = some y → X[k]? = some ((x + y) % 31)) := Lib.hid (fun k x y h1 h2 => by rw [hX]; exact sumL_get h1 h2)
  have HPS := Lib.hid (fun k r => partV_sum (n := n) (by omega) (by omega) hna hnb hab k r)
  have HNA := Lib.hid hna
  have HNB := Lib.hid hnb
  have HE := Lib.hid hE
  have HF := Lib.hid hF
  have x1 : a.length ≤ s := by omega
  have x2 : s ≤ a.length := by omega
  have x3 : b.length ≤ s := by omega
  have x4 : s ≤ b.length := by omega
  have x5 : X.length ≤ s := by omega
  have x6 : s ≤ X.length := by omega
  obtain ⟨aa, ca, rfl, _⟩ := ha.opened
  obtain ⟨ab, cb, rfl, _⟩ := hb.opened
  have S0 := (Since.refl W).alloc (.cells #[.int .i64 n, .int .i64 o, .int .i64 s] 23)
  have c0 : (W.alloc (.cells #[.int .i64 n, .int .i64 o, .int .i64 s] 23)).cell? ⟨W.heap.size, 0, none⟩ = some (.int .i64 n) := by go_simp
  have c1 : (W.alloc (.cells #[.int .i64 n, .int .i64 o, .int .i64 s] 23)).cell? ⟨W.heap.size, 1, none⟩ = some (.int .i64 o) := by go_simp
  have c2 : (W.alloc (.cells #[.int .i64 n, .int .i64 o, .int .i64 s] 23)).cell? ⟨W.heap.size, 2, none⟩ = some (.int .i64 s) := by go_simp
  have c3 : (W.alloc (.cells #[.int .i64 n, .int .i64 o, .int .i64 s] 23)).frozen? ⟨W.heap.size, 1, none⟩ = false := by go_simp
  have ha0 := ha.stays S0.below
  have HA0 := Lib.hid ha
  have hb0 := hb.stays S0.below
  clear ha hb hp hla hlb hna hnb hab hX hXl hE hF
  go_enter Try.func4, Try.ntmps4
  go_upto_region 1 with fail
  generalize W.alloc (.cells #[.int .i64 n, .int .i64 o, .int .i64 s] 23) = w0 at *
  obtain ⟨B, hB⟩ : ∃ B, B = W.heap.size := ⟨_, rfl⟩
  have hBW : W.heap.size ≤ B := by omega
  rw [← hB] at c0 c1 c2 c3 ⊢
  clear hB
  have l0 := cell_lt c0
  have HC : Hid (∀ w', Since w0.heap.size w0 w' → (w'.cell? ⟨B, 0, none⟩ = some (.int .i64 n) ∧ w'.cell? ⟨B, 1, none⟩ = some (.int .i64 o) ∧ w'.cell? ⟨B, 2, none⟩ = some (.int .i64 s) ∧ w'.frozen? ⟨B, 1, none⟩ = false)) := Lib.hid (fun w' q => ⟨(q.below.cell (p := ⟨B, 0, none⟩) l0).trans c0, (q.below.cell (p := ⟨B, 1, none⟩) l0).trans c1, (q.below.cell (p := ⟨B, 2, none⟩) l0).trans c2, (q.below.frozen (p := ⟨B, 1, none⟩) l0).trans c3⟩)
  go_wp2_with fail
  refine (Split_ok n o s _ a _ ha0 HE.out).mono ?_
  rintro e w1 ⟨⟨g1, f1, rfl, ho1⟩, hb1⟩
  have hs1 := ho1.isShares
  have T1 := (Since.refl w0).step hb1
  obtain ⟨d0, d1, d2, _⟩ := HC.out _ T1
  clear hb1 c0 c1 c2 c3
  go_wp2_with fail
  refine (Split_any n o s _ b _ (hb0.stays T1.below)).mono ?_
  rintro e w2 ⟨⟨v2, rfl, hs2⟩, hb2⟩
  rw [HF.out]
  rw [splitL_ok HF.out] at hs2
  obtain ⟨a2, n2, rfl, _⟩ := hs2.opened
  have T2 := T1.step hb2
  have hs12 := shares_stays hs1 hb2
  have ho12 := ho1.stays hb2
  clear hb2 d0 d1 d2 T1 hs1 ho1
  go_wp2_with fail
  refine (parted_any _).mono ?_
  rintro e w3 ⟨rfl, hb3⟩
  have T3 := T2.step hb3
  have HS1 := Lib.hid (shares_stays hs12 hb3)
  have HO3 := Lib.hid (ho12.stays hb3)
  have HS2 := Lib.hid (shares_stays hs2 hb3)
  have HA := Lib.hid (ha0.stays T3.below)
  have HBB := Lib.hid (hb0.stays T3.below)
  clear hb3 T2 hs12 hs2 ha0 hb0 ho12
  go_wp2_with fail
  go_loopw [43, 11] (fun i t wr => ∃ k : Nat, k ≤ a.length ∧ i = .int .i64 k ∧ OwnInts wr 3 w3.heap.size t (X.take k) ∧ Since w3.heap.size w3 wr) (fun i _ _ => a.length - (intOf i).toNat)
  case atStart => exact ⟨0, by omega, rfl, OwnInts.nil _ _ _, Since.refl _⟩
  case round =>
    obtain ⟨k, hk, rfl, ho, hS⟩ := hrel
    by_cases hlt : k < a.length
    · have hlt2 : k < b.length := by omega
      have hz1 : a[k]? = some a[k] := List.getElem?_eq_getElem hlt
      have hz2 : b[k]? = some b[k] := List.getElem?_eq_getElem hlt2
      obtain ⟨n10, n11⟩ := HNA.out _ (List.mem_of_getElem? hz1)
      obtain ⟨n20, n21⟩ := HNB.out _ (List.mem_of_getElem? hz2)
      obtain ⟨b1, o1, e1, hc1, _⟩ := ints_at (HA.out.stays hS.below) hz1
      obtain ⟨b2, o2, e2, hc2, _⟩ := ints_at (HBB.out.stays hS.below) hz2
      subst e1 e2
      have HT := Lib.hid (take_get (HXG.out k _ _ hz1 hz2))
      clear hz1 hz2
      generalize a[k] = z1 at *
      generalize b[k] = z2 at *
      have hlen : (X.take k).length ≤ 24 := by simp; omega
      have iz : I64 ((z1 + z2) % 31) := ⟨by omega, by omega⟩
      go_wp2_with fail
      have s1 : (k : Int) < (a.length : Int) := by omega
      have s2 : (k : Int) < (b.length : Int) := by omega
      have s3 : (0 : Int) ≤ (k : Int) := by omega
      have s4 : IntKind.i64.wrap (z1 + z2) = z1 + z2 := IntWalk.i64_in _ (by omega)
      have s5 : (z1 + z2).tmod 31 = (z1 + z2) % 31 := IntWalk.rem_in _ _ (by omega)
      have hgs := hS.2
      go_region_law (refine step_append_int rfl _ _ 24 rfl 3 Try.underlying24 info_int w3.heap.size _ _ rfl (ho.stays (Below.drew (below_alloc wr _))) ⟨wr.heap.size, 0, none⟩ 1 ((z1 + z2) % 31) rfl (by simp) iz (by omega) (by simp; omega) ?_; intro v' w4 ho4 hg4)
      all_goals
        clear s1 s2 s3 s4 s5
        go_wp2_with fail
        go_roundw
        case rel => exact ⟨k + 1, by omega, by go_num, by rw [HT.out]; exact ho4, (hS.step (Below.drew (below_alloc wr _))).own (ho.stays (Below.drew (below_alloc wr _))) hg4⟩
        case measure => simp [intOf]; omega
    · obtain rfl : a.length = k := by omega
      rw [List.take_of_length_le (by omega)] at ho
      have T4 := T3.step hS.below
      obtain ⟨d0, d1, d2, _⟩ := HC.out _ T4
      have hoi := ho.isInts
      have HS1' := Lib.hid (shares_stays HS1.out hS.below)
      have HO4 := Lib.hid (HO3.out.stays hS.below)
      have HS2' := Lib.hid (shares_stays HS2.out hS.below)
      have HA' := Lib.hid (HA.out.stays hS.below)
      obtain ⟨wo, hwo⟩ : ∃ wo : World, wo = wr := ⟨_, rfl⟩
      rw [← hwo] at hoi T4 d0 d1 d2 HS1' HS2' HA' HO4 ⊢
      clear hwo ho hS T3 HS1 HS2 HA HBB
      go_wp2_with fail
      refine (Split_any n o s _ X _ hoi).mono ?_
      rintro e w5 ⟨⟨v5, rfl, hs5⟩, hb5⟩
      rw [HG.out]
      rw [splitL_ok HG.out] at hs5
      have T5 := T4.step hb5
      have HS51 := Lib.hid (shares_stays HS1'.out hb5)
      have HO5 := Lib.hid (HO4.out.stays hb5)
      have HS52 := Lib.hid (shares_stays HS2'.out hb5)
      have HS53 := Lib.hid hs5
      obtain ⟨a5, n5, rfl, _⟩ := hs5.opened
      rw [sharesL_len]
      clear hb5 hs5 hoi d0 d1 d2 T4 HS1' HS2' HA'
      have HPN := Lib.hid (fun k (hk : k < o) => sharesL_get n X (rowsN n s) hk)
      have HPA := Lib.hid (fun k (hk : k < o) => sharesL_get n a (rowsN n s) hk)
      have HPB := Lib.hid (fun k (hk : k < o) => sharesL_get n b (rowsN n s) hk)
      go_wp2_with fail
      go_loopw [70] (fun q wr => ∃ k : Nat, k ≤ o ∧ q = .int .i64 k ∧ Since w5.heap.size w5 wr) (fun q _ => o - (intOf q).toNat)
      case atStart => exact ⟨0, by omega, rfl, Since.refl w5⟩
      case round =>
        obtain ⟨k, hk, rfl, hS⟩ := hrel
        by_cases hlt : k < o
        · obtain ⟨g3, off3, u3, q3, e3, _, k3, i3, _⟩ := shares_at (shares_stays HS53.out hS.below) (HPN.out k hlt)
          subst e3
          rw [shareL_len] at k3 i3
          have HI3 := Lib.hid i3
          have L2 := Lib.hid (sharesL_len n b o (rowsN n s))
          clear i3
          go_wp2_with fail
          obtain ⟨wo2, hwo2⟩ : ∃ wo : World, wo = wr := ⟨_, rfl⟩
          rw [← hwo2] at HI3 hS ⊢
          clear hwo2 k3
          go_loopw [79] (fun q wr => ∃ i : Nat, i ≤ rowsN n s ∧ q = .int .i64 i ∧ Since wo2.heap.size wo2 wr) (fun q _ => rowsN n s - (intOf q).toNat)
          case atStart => exact ⟨0, by omega, rfl, Since.refl wo2⟩
          case round =>
            obtain ⟨i, hi, rfl, hSw⟩ := hrel
            by_cases hli : i < rowsN n s
            · have hS5 := hS.step hSw.below
              obtain ⟨b1, o1, e1, m1, _⟩ := ints_at (HI3.out.stays hSw.below) (shareL_get n X k hli)
              subst e1
              obtain ⟨g4, off4, u4, q4, e4, _, k4, i4, _⟩ := shares_at (shares_stays HS51.out hS5.below) (HPA.out k hlt)
              cases e4
              simp only [Nat.zero_add] at k4
              obtain ⟨b2, o2, e2, m2, _⟩ := ints_at i4 (shareL_get n a k hli)
              subst e2
              obtain ⟨g6, off6, u6, q6, e6, _, k6, i6, _⟩ := shares_at (shares_stays HS52.out hS5.below) (HPB.out k hlt)
              subst e6
              obtain ⟨b3, o3, e7, m3, _⟩ := ints_at i6 (shareL_get n b k hli)
              subst e7
              rw [shareL_len] at k4 k6
              have hz := HPS.out k i
              rw [← HX.out] at hz
              rw [hz] at m1
              have y1 := partV_bd n a k i
              have y2 := partV_bd n b k i
              clear hz i4 i6
              generalize partV n a k i = za at *
              generalize partV n b k i = zb at *
              have s1 : (k : Int) < (o : Int) := by omega
              have s1b : (k : Int) < ((sharesL n b o (rowsN n s)).length : Int) := by rw [L2.out]; omega
              have s2 : (i : Int) < (rowsN n s : Int) := by omega
              have s3 : (0 : Int) ≤ (k : Int) := by omega
              have s3b : (0 : Int) ≤ (i : Int) := by omega
              have s4 : IntKind.i64.wrap (za + zb) = za + zb := IntWalk.i64_in _ (by omega)
              have s5 : (za + zb).tmod 31 = (za + zb) % 31 := IntWalk.rem_in _ _ (by omega)
              have s6 : ((za + zb) % 31 != (za + zb) % 31) = false := by simp
              obtain ⟨y10, y11⟩ := y1
              obtain ⟨y20, y21⟩ := y2
              go_wp2_with (go_quiet (fail))
              go_roundw
              case rel => exact ⟨i + 1, by omega, by go_num, since_drewN hSw nq⟩
              case measure => simp [intOf]; omega
            · obtain rfl : i = rowsN n s := by omega
              go_wp2_with fail
              go_roundw
              case rel => exact ⟨k + 1, by omega, by go_num, hS.step hSw.below⟩
              case measure => simp [intOf]; omega
        · have T6 := T5.step hS.below
          obtain ⟨d0, d1, d2, d3⟩ := HC.out _ T6
          have HO6 := Lib.hid (HO5.out.stays hS.below)
          have hl1 := cell_lt d0
          obtain ⟨wo, hwo⟩ : ∃ wo : World, wo = wr := ⟨_, rfl⟩
          rw [← hwo] at HO6 T6 d0 d1 d2 d3 hl1 ⊢
          clear hwo hS
          have S6 := S0.step T6.below
          have S7 := S6.setCell (a := ⟨B, 1, none⟩) hBW (.int .i64 (n : Int))
          have e0 : (wo.setCell ⟨B, 1, none⟩ (.int .i64 (n : Int))).cell? ⟨B, 0, none⟩ = some (.int .i64 n) := by go_simp
          have e1 : (wo.setCell ⟨B, 1, none⟩ (.int .i64 (n : Int))).cell? ⟨B, 1, none⟩ = some (.int .i64 n) := by go_simp
          have e2 : (wo.setCell ⟨B, 1, none⟩ (.int .i64 (n : Int))).cell? ⟨B, 2, none⟩ = some (.int .i64 s) := by go_simp
          have ho7 := HO6.out.kept (grown_setCell wo ⟨B, 1, none⟩ (.int .i64 (n : Int))) (fun e => by have h1 := HO6.out.low; have h2 : B = g1 := (by simpa using e); omega) (fun k hk => by
            cases hh : (f1 k).ownBlock with
            | none => exact Or.inl rfl
            | some j => right; intro e; have h1 := HO6.out.flt hk hh; have h2 : j = B := (by simpa using e); omega)
          have HS7 := Lib.hid (shares_take ho7.isShares n (by rw [sharesL_len]; omega))
          have ha7 := HA0.out.stays S7.below
          have HTK := Lib.hid (sharesL_take n a (rowsN n s) (show n ≤ o by omega))
          clear ho7 HS52 HS53
          go_upto_region 25 with fail
          generalize wo.setCell ⟨B, 1, none⟩ (.int .i64 (n : Int)) = w8 at *
          go_wp2_with fail
          refine (Split_any n n s _ a _ ha7).mono ?_
          rintro e w9 ⟨⟨v9, rfl, hs9⟩, hb9⟩
          rw [HN.out]
          rw [splitL_ok HN.out] at hs9
          have HS9 := Lib.hid (shares_stays HS7.out hb9)
          have HH9 := Lib.hid hs9
          obtain ⟨a9, n9, rfl, _⟩ := hs9.opened
          have f0 := (hb9.cell (p := ⟨B, 0, none⟩) (cell_lt e0)).trans e0
          have S9 := S7.step hb9
          have q1 : (n : Int) ≤ (o : Int) := by omega
          clear hb9 hs9 e0 e1 e2 d0 d1 d2 d3
          go_wp2_with fail
          have HTT := HS9.out
          rw [HTK.out] at HTT
          refine (EqualShares_any _ _ (sharesL n a n (rowsN n s)) (sharesL n a n (rowsN n s)) _ HH9.out HTT).mono ?_
          rintro e w10 ⟨rfl, hb10⟩
          rw [eqSh_refl]
          have S10 := S9.step hb10
          go_wp2_with fail
          go_ret
          exact ⟨rfl, S10.below⟩

theorem ShareAdds_walk (v0 : Value) (p : Plan3) (v1 : Value) (a : List Int) (v2 : Value) (b : List Int) (W : World) (h0 : IsPlan v0 p) (h1 : IsInts W v1 a) (h2 : IsInts W v2 b) :
    Calls Try.prog 4 #[v0, v1, v2] W fun e w' => e = .returned (.bool true) ∧ Below W.heap.size W w' := by
  obtain ⟨rfl, _⟩ := h0
  obtain ⟨n, o, s⟩ := p
  by_cases h : splitE n o s a = 0
  · by_cases h' : splitE n o s b = 0
    · obtain ⟨n, o, s, rfl, rfl, rfl⟩ := plan_nat (splitE_zero h).1
      exact shareAdds_ok n o s v1 v2 a b W h1 h2 h h'
    · exact shareAdds_no n o s v1 v2 a b W h1 h2 (Or.inr ⟨h, h'⟩)
  · exact shareAdds_no n o s v1 v2 a b W h1 h2 (Or.inl h)

end Go.Proofs.Ytlaabmpadikkjaa
