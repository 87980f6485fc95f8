/-
  The walk of ShareBegins.
-/
import Derived.Test.YtlaabmpadikkjaaParted
import Derived.Test.YtlaabmpadikkjaaReadRow
import Derived.Deep.QuietTactic
namespace Go.Proofs.Ytlaabmpadikkjaa
open Go.RowKit

theorem since_drewN {g : Nat} {W w : World} (h : Since g W w) : ∀ n, Since g W (w.drewN n)
  | 0 => h
  | n + 1 => (since_drewN h n).drew
theorem plan_nat {n o s : Int} (h : planV n o s = 0) : ∃ n' o' s' : Nat, n = n' ∧ o = o' ∧ s = s' := by
  obtain ⟨p1, p2, p3, p4, p5, p6⟩ := planV_bd h
  exact ⟨n.toNat, o.toNat, s.toNat, by omega, by omega, by omega⟩
theorem splitE_zero {n o s : Int} {data : List Int} (h : splitE n o s data = 0) : planV n o s = 0 ∧ (data.length : Int) = s ∧ ∀ z ∈ data, 0 ≤ z ∧ z < 31 := by
  unfold splitE at h
  split at h
  · rename_i h1; exact absurd h h1
  · rename_i h1
    split at h
    · simp at h
    · rename_i h2
      exact ⟨by simpa using h1, by simpa using h2, (allV_ok _).1 h⟩
/-- The number at a place of the content stands in a share. -/
theorem begins_at {n o s : Nat} {data : List Int} (hp : planV n o s = 0) (hl : data.length = s) (hd : ∀ z ∈ data, 0 ≤ z ∧ z < 31) {k : Nat} {z : Int} (hz : data[k]? = some z) :
    k % n < o ∧ k / n < rowsN n s ∧ (sharesL n data o (rowsN n s))[k % n]? = some (shareL n data (rowsN n s) (k % n)) ∧ (shareL n data (rowsN n s) (k % n)).2[k / n]? = some z := by
  obtain ⟨p1, p2, p3, p4, p5, p6⟩ := planV_bd hp
  have hk := (List.getElem?_eq_some_iff.1 hz).1
  have hm : k % n < n := Nat.mod_lt _ (by omega)
  have hb := rowsN_bd (n := n) (s := s) (by omega) (by omega) (by omega) (by omega)
  have hdiv : k / n < rowsN n s := (Nat.div_lt_iff_lt_mul (by omega)).2 (by omega)
  refine ⟨by omega, hdiv, sharesL_get n data _ (by omega), ?_⟩
  rw [shareL_get n data (k % n) hdiv, partV_place (by omega) (by omega) hd (k / n) hm, Nat.mul_comm, Nat.div_add_mod]
  simp [hz]

set_option maxRecDepth 100000 in
set_option maxHeartbeats 1500000 in
theorem shareBegins_no (n o s : Int) (v : Value) (data : List Int) (W : World) (hd : IsInts W v data) (hE : splitE n o s data ≠ 0) :
    Calls Try.prog 3 #[.agg #[.int .i64 n, .int .i64 o, .int .i64 s], v] W fun e w' => e = .returned (.bool true) ∧ Below W.heap.size W w' := by
  obtain ⟨a, c, rfl, _⟩ := hd.opened
  have hne : (splitE n o s data != 0) = true := by simpa using hE
  have S0 := (Since.refl W).alloc (.cells #[.int .i64 n, .int .i64 o, .int .i64 s] 23)
  have hd0 := hd.stays S0.below
  have HE := Lib.hid hE
  clear hd hE
  go_enter Try.func3, Try.ntmps3
  go_wp2_with fail
  refine (Split_no n o s _ data _ hd0 HE.out).mono ?_
  rintro e w1 ⟨rfl, hb1⟩
  have S1 := S0.step hb1
  clear hb1 hd0 S0
  go_wp2_with fail
  refine (parted_any _).mono ?_
  rintro e w2 ⟨rfl, hb2⟩
  have S2 := S1.step hb2
  clear hb2 S1
  go_wp2_with fail
  refine (parted_any _).mono ?_
  rintro e w3 ⟨rfl, hb3⟩
  have S3 := S2.step hb3
  clear hb3 S2
  go_wp2_with fail
  go_ret
  exact ⟨rfl, S3.below⟩

set_option maxRecDepth 100000 in
set_option maxHeartbeats 1500000 in
theorem shareBegins_ok (n o s : Nat) (v : Value) (data : List Int) (W : World) (hd : IsInts W v data) (hE : splitE n o s data = 0) :
    Calls Try.prog 3 #[.agg #[.int .i64 n, .int .i64 o, .int .i64 s], v] W fun e w' => e = .returned (.bool true) ∧ Below W.heap.size W w' := by
  obtain ⟨hp, hl, hnum⟩ := splitE_zero hE
  obtain ⟨p1, p2, p3, p4, p5, p6⟩ := planV_bd hp
  have hls : data.length = s := by omega
  have HAT := Lib.hid (fun (k : Nat) (z : Int) (hz : data[k]? = some z) => begins_at hp hls hnum hz)
  have HLO := Lib.hid (longV_nat hp)
  obtain ⟨r1, r2, r3⟩ := rowsN_bd (n := n) (s := s) (by omega) (by omega) (by omega) (by omega)
  obtain ⟨a, c, rfl, hca, ⟨hma, hma', _⟩, _⟩ := hd.opened
  have HE := Lib.hid hE
  have S0 := (Since.refl W).alloc (.cells #[.int .i64 n, .int .i64 o, .int .i64 s] 23)
  have c0 : (W.alloc (.cells #[.int .i64 n, .int .i64 o, .int .i64 s] 23)).cell? ⟨W.heap.size, 0, none⟩ = some (.int .i64 n) := by go_simp
  have c1 : (W.alloc (.cells #[.int .i64 n, .int .i64 o, .int .i64 s] 23)).cell? ⟨W.heap.size, 1, none⟩ = some (.int .i64 o) := by go_simp
  have c2 : (W.alloc (.cells #[.int .i64 n, .int .i64 o, .int .i64 s] 23)).cell? ⟨W.heap.size, 2, none⟩ = some (.int .i64 s) := by go_simp
  have hd0 := hd.stays S0.below
  have HSH := Lib.hid (fun k (h : k < o) => sharesL_get n data (rowsN n s) h)
  have hl1 : s ≤ data.length := by omega
  have hl2 : data.length ≤ s := by omega
  clear hd hE hp hnum hl hls
  generalize hR : rowsN n s = R at *
  have HR := Lib.hid hR
  clear hR
  go_enter Try.func3, Try.ntmps3
  go_upto_region 1 with fail
  generalize W.alloc (.cells #[.int .i64 n, .int .i64 o, .int .i64 s] 23) = w0 at *
  obtain ⟨B, hB⟩ : ∃ B, B = W.heap.size := ⟨_, rfl⟩
  rw [← hB] at c0 c1 c2 ⊢
  clear hB
  have l0 := cell_lt c0
  have HC0 := Lib.hid c0
  have HC1 := Lib.hid c1
  have HC2 := Lib.hid c2
  go_wp2_with fail
  refine (Split_ok n o s _ data _ hd0 HE.out).mono ?_
  rintro e w1 ⟨⟨g, f, rfl, ho1⟩, hb1⟩
  rw [HR.out] at ho1
  have T1 := (Since.refl w0).step hb1
  clear hb1
  go_wp2_with fail
  refine (parted_any _).mono ?_
  rintro e w2 ⟨rfl, hb2⟩
  have T2 := T1.step hb2
  have ho2 := ho1.stays hb2
  have d0 := (T2.below.cell (p := ⟨B, 0, none⟩) l0).trans HC0.out
  have d1 := (T2.below.cell (p := ⟨B, 1, none⟩) l0).trans HC1.out
  have d2 := (T2.below.cell (p := ⟨B, 2, none⟩) l0).trans HC2.out
  clear hb2 ho1 T1 c0 c1 c2
  go_wp2_with fail
  refine (Long_any n o s _).mono ?_
  rintro e w3 ⟨rfl, hb3⟩
  rw [HLO.out]
  have T3 := T2.step hb3
  have ho3 := ho2.stays hb3
  have HO3 := Lib.hid ho3
  have HD3 := Lib.hid (hd0.stays T3.below)
  have e0 := (T3.below.cell (p := ⟨B, 0, none⟩) l0).trans HC0.out
  have e2 := (T3.below.cell (p := ⟨B, 2, none⟩) l0).trans HC2.out
  have HE0 := Lib.hid e0
  have HE2 := Lib.hid e2
  clear hb3 ho2 ho3 T2 d0 d1 d2 hd0
  obtain ⟨R1, rfl⟩ : ∃ R1, R = R1 + 1 := ⟨R - 1, by
    rcases Nat.eq_zero_or_pos R with h | h
    · rw [h] at r1; omega
    · omega⟩
  obtain ⟨M1, hM1⟩ : ∃ M1, M1 = R1 * n := ⟨_, rfl⟩
  rw [Nat.add_mul, Nat.one_mul, ← hM1] at r1 r2
  have x1 : ((R1 + 1 : Nat) : Int) * (n : Int) = ((M1 + n : Nat) : Int) := by rw [← Int.natCast_mul, Nat.add_mul, Nat.one_mul, hM1]
  have x2 : (R1 : Int) * (n : Int) = (M1 : Int) := by rw [← Int.natCast_mul, hM1]
  have X1 : ((R1 : Int) + 1) * (n : Int) = (M1 : Int) + (n : Int) := by rw [show ((R1 : Int) + 1) = ((R1 + 1 : Nat) : Int) by omega, x1]; omega
  have x3 : IntKind.i64.wrap ((M1 : Int) + (n : Int)) = (M1 : Int) + (n : Int) := IntWalk.i64_in _ (by omega)
  have x4 : IntKind.i64.wrap ((R1 : Int) + 1 - 1) = (R1 : Int) := by rw [show (R1 : Int) + 1 - 1 = (R1 : Int) by omega]; exact IntWalk.i64_in _ (by omega)
  have x5 : IntKind.i64.wrap (M1 : Int) = (M1 : Int) := IntWalk.i64_in _ (by omega)
  have x6 : decide ((M1 : Int) + (n : Int) < (s : Int)) = false := by simp; omega
  have x7 : decide ((s : Int) ≤ (M1 : Int)) = false := by simp; omega
  clear hM1 x1
  go_wp2_with fail
  clear X1 x2 x3 x4 x5 x6 x7 e0 e2
  go_loopw [46] (fun q wr => ∃ k : Nat, k ≤ data.length ∧ q = .int .i64 k ∧ Since w3.heap.size w3 wr) (fun q _ => data.length - (intOf q).toNat)
  case atStart => exact ⟨0, by omega, rfl, Since.refl w3⟩
  case round =>
    obtain ⟨k, hk, rfl, hS⟩ := hrel
    by_cases hlt : k < data.length
    · obtain ⟨_, _, e1, _, _, hxi⟩ := (HD3.out.stays hS.below).opened
      simp only [Value.slice.injEq, true_and] at e1
      obtain ⟨rfl, rfl⟩ := e1
      obtain ⟨b1, o1, z, e2, hc1, hz1, hiz⟩ := hxi k hlt
      subst e2
      obtain ⟨g1, g2, g3, g4⟩ := HAT.out k z hz1
      have ho := HO3.out.stays hS.below
      have k0 := (hS.below.cell (p := ⟨B, 0, none⟩) (cell_lt HE0.out)).trans HE0.out
      have m1 := ho.cellV g3
      have hiv := (ho.own _ _ g3).isInts
      obtain ⟨fv, hfv⟩ : ∃ fv, fv = f (k % n) := ⟨_, rfl⟩
      rw [← hfv] at m1 hiv
      clear hfv
      generalize hLL : (shareL n data (R1 + 1) (k % n)).2 = LL at *
      have hLn : LL.length = R1 + 1 := by rw [← hLL, shareL_len]
      obtain ⟨b2, o2, z2, q2, rfl⟩ : ∃ b2 o2 z2 q2, fv = .slice (some ⟨b2, o2, none⟩) z2 q2 := by
        obtain ⟨a2, q2, e3, _, _, hy⟩ := hiv.opened
        obtain ⟨b2, o2, z2, e4, _⟩ := hy (k / n) (by omega)
        exact ⟨b2, o2, _, q2, by rw [e3, e4]⟩
      obtain ⟨_, _, e3, _, _, hy⟩ := hiv.opened
      simp only [Value.slice.injEq] at e3
      obtain ⟨rfl, rfl, rfl⟩ := e3
      obtain ⟨_, _, z2, e4, hc2, hz2, _⟩ := hy (k / n) (by omega)
      simp only [Option.some.injEq, Addr.mk.injEq] at e4
      obtain ⟨rfl, rfl, _⟩ := e4
      rw [g4] at hz2
      cases hz2
      rw [hLn] at m1
      obtain ⟨r, hr⟩ : ∃ r, r = k % n := ⟨_, rfl⟩
      obtain ⟨q, hq⟩ : ∃ q, q = k / n := ⟨_, rfl⟩
      rw [← hr] at g1 m1
      rw [← hq] at g2 hc2
      have y1 : (k : Int).tmod (n : Int) = (r : Int) := by rw [Int.tmod_eq_emod_of_nonneg (by omega), hr, Int.natCast_emod]
      have y2 : (k : Int) % (n : Int) = (r : Int) := by rw [hr, Int.natCast_emod]
      have y3 : (k : Int).tdiv (n : Int) = (q : Int) := by rw [Int.tdiv_eq_ediv_of_nonneg (by omega), hq, Int.natCast_ediv]
      have y4 : (k : Int) / (n : Int) = (q : Int) := by rw [hq, Int.natCast_ediv]
      have y5 : ((n : Int) == 0) = false := beq_eq_false_iff_ne.2 (by omega)
      have y6 : (0 : Int) ≤ (r : Int) := by omega
      have y7 : (r : Int) < (o : Int) := by omega
      have y8 : (0 : Int) ≤ (q : Int) := by omega
      have y9 : (q : Int) < ((R1 + 1 : Nat) : Int) := by omega
      have y10 : (q : Int) < (R1 : Int) + 1 := by omega
      have y11 : (z != z) = false := by simp
      have y12 : IntKind.i64.wrap (q : Int) = (q : Int) := IntWalk.i64_in _ (by omega)
      have y13 : IntKind.i64.wrap (r : Int) = (r : Int) := IntWalk.i64_in _ (by omega)
      clear hz1 hxi hy g3 g4 hLL hLn hiv ho hr hq
      go_wp2_with (go_quiet (fail))
      go_roundw
      case rel => exact ⟨k + 1, by omega, by go_num, since_drewN hS nq⟩
      case measure => simp [intOf]; omega
    · have ho := HO3.out.stays hS.below
      have HOW := Lib.hid ho
      have hot := ho.top
      obtain ⟨wo, hwo⟩ : ∃ wo : World, wo = wr := ⟨_, rfl⟩
      rw [← hwo] at HOW hS ⊢
      clear hwo ho
      go_wp2_with fail
      go_loopw [70] (fun q wr => ∃ k : Nat, k ≤ o ∧ q = .int .i64 k ∧ Since wo.heap.size wo wr) (fun q _ => o - (intOf q).toNat)
      case atStart => exact ⟨0, by omega, rfl, Since.refl wo⟩
      case round =>
        obtain ⟨m, hm, rfl, hSw⟩ := hrel
        by_cases hlm : m < o
        · have ho := HOW.out.stays hSw.below
          have g3 := HSH.out m hlm
          have k1 := ho.cellN g3
          have k2 := ho.cellV g3
          have hiv := (ho.own _ _ g3).isInts
          obtain ⟨fv, hfv⟩ : ∃ fv, fv = f m := ⟨_, rfl⟩
          rw [← hfv] at k2 hiv
          obtain ⟨a2, q2, rfl, _⟩ := hiv.opened
          rw [shareL_len] at k2
          have kN : (shareL n data (R1 + 1) m).1 = (m : Int) := rfl
          rw [kN] at k1
          have hne : (((R1 + 1 : Nat) : Int) != ((R1 + 1 : Nat) : Int)) = false := by simp
          have hne2 : (((R1 : Int) + 1) != ((R1 : Int) + 1)) = false := by simp
          clear g3 hiv kN ho hfv
          go_wp2_with fail
          clear k1 k2
          go_roundw
          case rel => exact ⟨m + 1, by omega, by go_num, hSw.alloc _⟩
          case measure => simp [intOf]; omega
        · go_wp2_with fail
          go_ret
          exact ⟨rfl, (S0.step (T3.step (hS.step hSw.below).below).below).below⟩

theorem ShareBegins_walk (v0 : Value) (p : Plan3) (v1 : Value) (data : List Int) (W : World) (h0 : IsPlan v0 p) (h1 : IsInts W v1 data) :
    Calls Try.prog 3 #[v0, v1] W fun e w' => e = .returned (.bool true) ∧ Below W.heap.size W w' := by
  obtain ⟨rfl, _⟩ := h0
  obtain ⟨n, o, s⟩ := p
  by_cases h : splitE n o s data = 0
  · obtain ⟨n, o, s, rfl, rfl, rfl⟩ := plan_nat (splitE_zero h).1
    exact shareBegins_ok n o s v1 data W h1 h
  · exact shareBegins_no n o s v1 data W h1 h

end Go.Proofs.Ytlaabmpadikkjaa
