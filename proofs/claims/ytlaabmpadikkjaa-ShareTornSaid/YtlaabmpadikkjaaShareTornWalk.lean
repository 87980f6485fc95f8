/-
  The walk of ShareTorn.
-/
import Derived.Test.YtlaabmpadikkjaaTornLaw
import Derived.StillTailTactics
namespace Go.Proofs.Ytlaabmpadikkjaa
open Go.RowKit

section
variable {E : Nat → Prop} {w5 w6 : World} {e ei : TypeId} {base g N cap : Nat} {ps : List Sh} {k i : Nat} {t : Sh} {z : Int}
/-- The row behind the two stores that bend one number of one share. -/
theorem bent_row (hO : OwnRow 2 RShare E w5 e base (.slice (some ⟨g, 0, none⟩) N cap) ps) (hb : Below w5.heap.size w5 w6) (hk : ps[k]? = some t) {b' c' L : Nat} (hv : OwnInts w6 ei w5.heap.size (.slice (some ⟨b', 0, none⟩) L c') t.2) (hz : I64 z) :
    IsRow 2 RShare ((w6.setCell ⟨g, k * 2 + 1, none⟩ (.slice (some ⟨b', 0, none⟩) L c')).setCell ⟨b', i, none⟩ (.int .i64 z)) (.slice (some ⟨g, 0, none⟩) N cap) (bentL ps k i t z) := by
  have hrow := hO.isRow
  obtain ⟨a, c, e1, hc1, hc2, _⟩ := hrow.opened
  simp only [Value.slice.injEq] at e1
  obtain ⟨rfl, rfl, rfl⟩ := e1
  have hg := hO.lt g rfl
  have hb' := hv.1.lt b' rfl
  have hgb : g ≠ b' := by omega
  have hlen : (bentL ps k i t z).length = ps.length := by simp [bentL]
  have hgc : w6.heap.size ≤ (w6.setCell ⟨g, k * 2 + 1, none⟩ (.slice (some ⟨b', 0, none⟩) L c')).heap.size := by simp
  have hdirty : Dirty (fun j => (Value.slice (some ⟨g, 0, none⟩) ps.length cap).ownBlock = some j ∨ E j) w5 ((w6.setCell ⟨g, k * 2 + 1, none⟩ (.slice (some ⟨b', 0, none⟩) L c')).setCell ⟨b', i, none⟩ (.int .i64 z)) := by
    refine ⟨by simpa using hb.size, fun j hj hn => ?_⟩
    rw [Below.heap_setCell _ _ _ _ (by intro e; have : j = b' := e; omega), Below.heap_setCell _ _ _ _ (by intro e; exact hn (Or.inl (by have : j = g := e; rw [this]; rfl)))]
    exact hb.block j hj
  refine ⟨some ⟨g, 0, none⟩, cap, by rw [hlen], by omega, by rw [hlen]; exact hc2, fun m x hx => ⟨g, 0, rfl, ?_⟩⟩
  by_cases hm : m = k
  · subst hm
    have hx' : x = (t.1, t.2.set i z) := by
      have hkl := (List.getElem?_eq_some_iff.1 hk).1
      unfold bentL at hx
      rw [List.getElem?_set, if_pos rfl, if_pos hkl] at hx
      exact (Option.some.inj hx).symm
    subst hx'
    obtain ⟨r, g', hg', hl, h1, hc, hf⟩ := hO.get hk
    simp only [Value.ownBlock, Option.some.injEq] at hg'
    subst hg'
    obtain ⟨u, rfl, hu, i1⟩ := hf.now
    have hv2 := (hv.kept (grown_setCell w6 ⟨g, m * 2 + 1, none⟩ (.slice (some ⟨b', 0, none⟩) L c')) (Or.inr (by intro e; exact hgb (by simpa [Value.ownBlock] using e.symm)))).stored i z hz
    refine ⟨[.int .i64 t.1, .slice (some ⟨b', 0, none⟩) L c'], rfl, fun j y hj => ?_, _, rfl, hv2.isInts, i1⟩
    rw [Nat.zero_add]
    match j, hj with
    | 0, hj =>
      simp at hj; subst hj
      have h0 := hc 0 _ rfl
      rw [cell_set_other _ _ _ _ (by exact hgb)]
      have h0' := (hb.cell (p := ⟨g, m * 2 + 0, none⟩) (cell_lt h0)).trans h0
      rw [Nat.add_zero] at h0' ⊢
      exact (World.cell?_setCell_other (a := ⟨g, m * 2 + 1, none⟩) (b := ⟨g, m * 2, none⟩) _ _ (by simp)).trans h0'
    | 1, hj =>
      simp at hj; subst hj
      have h0 := hc 1 _ rfl
      rw [cell_set_other _ _ _ _ (by exact hgb)]
      have h0' := (hb.cell (p := ⟨g, m * 2 + 1, none⟩) (cell_lt h0)).trans h0
      exact World.cell?_setCell_same _ _ _ h0'
  · have hx' : ps[m]? = some x := by
      unfold bentL at hx
      rwa [List.getElem?_set, if_neg (fun e => hm e.symm)] at hx
    obtain ⟨r, g', hg', hl, h1, hc, hf⟩ := hO.get hx'
    simp only [Value.ownBlock, Option.some.injEq] at hg'
    subst hg'
    refine ⟨r, hl, fun j y hj => ?_, hf _ hdirty⟩
    rw [Nat.zero_add]
    have hjl := (List.getElem?_eq_some_iff.1 hj).1
    have h0 := hc j y hj
    rw [cell_set_other _ _ _ _ (by exact hgb)]
    have h0' := (hb.cell (p := ⟨g, m * 2 + j, none⟩) (cell_lt h0)).trans h0
    exact (World.cell?_setCell_other (a := ⟨g, k * 2 + 1, none⟩) (b := ⟨g, m * 2 + j, none⟩) _ _ (by intro e; have e2 : k * 2 + 1 = m * 2 + j := congrArg Addr.off e; omega)).trans h0'
end

theorem follows_mixedT : Try.prog.follows .mixedOrders = true := by kernel_rfl
theorem same_symT {e : Ending} {v : Value} {w w' : World} (h : e = .returned v ∧ w = w') : e = .returned v ∧ w' = w := ⟨h.1, h.2.symm⟩
/-- How many are picked. -/
theorem torn_len {n o many : Nat} {l : List Sh} {ps rest : List Sh} (h : ps.length + rest.length = o) (h1 : rest = [] ∨ (many : Int) ≤ ps.length) (h2 : (ps.length : Int) ≤ many ∨ ps = []) (hm : many ≤ o) (hn : 1 ≤ many) (_ : l = l) (_ : n = n) : ps.length = many := by
  rcases h1 with rfl | h1
  · rcases h2 with h2 | rfl
    · simp at h; omega
    · simp at h; omega
  · rcases h2 with h2 | rfl
    · omega
    · simp at h1; omega

set_option maxRecDepth 100000 in
set_option maxHeartbeats 2000000 in
theorem shareTorn_no (n o s k i by_ : Int) (v u : Value) (data order : List Int) (W : World) (hd : IsInts W v data) (hu : IsInts W u order) (hE : splitE n o s data ≠ 0) :
    Calls Try.prog 7 #[.agg #[.int .i64 n, .int .i64 o, .int .i64 s], v, u, .int .i64 k, .int .i64 i, .int .i64 by_] W fun e w' => e = .returned (.bool true) ∧ Below W.heap.size W w' := by
  obtain ⟨a, c, rfl, _⟩ := hd.opened
  obtain ⟨a', c', rfl, _⟩ := hu.opened
  have hne : (splitE n o s data != 0) = true := by simpa using hE
  have S0 := (Since.refl W).alloc (.cells #[.int .i64 n, .int .i64 o, .int .i64 s] 23)
  have hd0 := hd.stays S0.below
  have HE := Lib.hid hE
  clear hd hu hE
  go_enter Try.func7, Try.ntmps7
  go_wp2_with fail
  refine (Split_no n o s _ data _ hd0 HE.out).mono ?_
  rintro e w1 ⟨rfl, hb1⟩
  have S1 := S0.step hb1
  clear hb1 hd0 S0
  go_wp2_with fail
  refine (parted_any _).mono ?_
  rintro e w2 ⟨rfl, hb2⟩
  have S2 := S1.step hb2
  clear hb2 S1
  go_wp2_with fail
  refine (parted_any _).mono ?_
  rintro e w3 ⟨rfl, hb3⟩
  have S3 := S2.step hb3
  clear hb3 S2
  go_wp2_with fail
  go_ret
  exact ⟨rfl, S3.below⟩

set_option maxRecDepth 100000 in
set_option maxHeartbeats 3000000 in
theorem shareTorn_ok (n o s : Nat) (k0 i0 by_ : Int) (v u : Value) (data order : List Int) (W : World) (hd : IsInts W v data) (hu : IsInts W u order) (hk0 : I64 k0) (hi0 : I64 i0) (hby : I64 by_) (hE : splitE n o s data = 0) :
    Calls Try.prog 7 #[.agg #[.int .i64 n, .int .i64 o, .int .i64 s], v, u, .int .i64 k0, .int .i64 i0, .int .i64 by_] W fun e w' => e = .returned (.bool true) ∧ Below W.heap.size W w' := by
  obtain ⟨hp, hl, hnum⟩ := splitE_zero hE
  obtain ⟨p1, p2, p3, p4, p5, p6⟩ := planV_bd hp
  have hls : data.length = s := by omega
  obtain ⟨k00, k01⟩ := hk0
  obtain ⟨i00, i01⟩ := hi0
  obtain ⟨by0, by1⟩ := hby
  have hr24 := rowsN_bd (n := n) (s := s) (by omega) (by omega) (by omega) (by omega)
  have hR1 : 1 ≤ rowsN n s := by
    rcases Nat.eq_zero_or_pos (rowsN n s) with h | h
    · rw [h] at hr24; omega
    · exact h
  have hR2 : rowsN n s ≤ 24 := hr24.2.2
  have HP := Lib.hid (And.intro hp (And.intro hls hnum))
  have HLO := Lib.hid (longV_nat hp)
  have HSL := Lib.hid (sharesL_len n data o (rowsN n s))
  clear hr24
  obtain ⟨a, c, rfl, _⟩ := hd.opened
  obtain ⟨a', c', rfl, _⟩ := hu.opened
  have HE := Lib.hid hE
  have S0 := (Since.refl W).alloc (.cells #[.int .i64 n, .int .i64 o, .int .i64 s] 23)
  have c0 : (W.alloc (.cells #[.int .i64 n, .int .i64 o, .int .i64 s] 23)).cell? ⟨W.heap.size, 0, none⟩ = some (.int .i64 n) := by go_simp
  have c1 : (W.alloc (.cells #[.int .i64 n, .int .i64 o, .int .i64 s] 23)).cell? ⟨W.heap.size, 1, none⟩ = some (.int .i64 o) := by go_simp
  have c2 : (W.alloc (.cells #[.int .i64 n, .int .i64 o, .int .i64 s] 23)).cell? ⟨W.heap.size, 2, none⟩ = some (.int .i64 s) := by go_simp
  have hd0 := hd.stays S0.below
  have hu0 := hu.stays S0.below
  clear hd hu hE hp hl hnum hls
  go_enter Try.func7, Try.ntmps7
  go_upto_region 1 with fail
  generalize W.alloc (.cells #[.int .i64 n, .int .i64 o, .int .i64 s] 23) = w0 at *
  obtain ⟨B, hB⟩ : ∃ B, B = W.heap.size := ⟨_, rfl⟩
  rw [← hB] at c0 c1 c2 ⊢
  clear hB
  have l0 := cell_lt c0
  have HC : Hid (∀ w', Since w0.heap.size w0 w' → (w'.cell? ⟨B, 0, none⟩ = some (.int .i64 n) ∧ w'.cell? ⟨B, 1, none⟩ = some (.int .i64 o) ∧ w'.cell? ⟨B, 2, none⟩ = some (.int .i64 s))) := Lib.hid (fun w' q => ⟨(q.below.cell (p := ⟨B, 0, none⟩) l0).trans c0, (q.below.cell (p := ⟨B, 1, none⟩) l0).trans c1, (q.below.cell (p := ⟨B, 2, none⟩) l0).trans c2⟩)
  go_wp2_with fail
  refine (Split_ok n o s _ data _ hd0 HE.out).mono ?_
  rintro e w1 ⟨⟨g, f, rfl, ho1⟩, hb1⟩
  have T1 := (Since.refl w0).step hb1
  clear hb1 c0 c1 c2
  go_wp2_with fail
  refine (parted_any _).mono ?_
  rintro e w2 ⟨rfl, hb2⟩
  have T2 := T1.step hb2
  have HO2 := Lib.hid (ho1.stays hb2)
  have HD2 := Lib.hid (hd0.stays T2.below)
  have HU2 := Lib.hid (hu0.stays T2.below)
  obtain ⟨d0, d1, d2⟩ := HC.out _ T2
  have HS : Hid (∀ w', Since w2.heap.size w2 w' → (w'.cell? ⟨B, 0, none⟩ = some (.int .i64 n) ∧ w'.cell? ⟨B, 1, none⟩ = some (.int .i64 o) ∧ w'.cell? ⟨B, 2, none⟩ = some (.int .i64 s))) := Lib.hid (fun w' q => HC.out w' (T2.step q.below))
  have HSH := Lib.hid (HO2.out.isShares)
  obtain ⟨many, hmany1, hmany2, hmany3⟩ : ∃ many : Nat, many ≤ o ∧ 1 ≤ many ∧ (many = n + 1 ∧ n + 1 ≤ o ∨ many = o ∧ o = n) := by
    by_cases h : n + 1 ≤ o
    · exact ⟨n + 1, h, by omega, Or.inl ⟨rfl, h⟩⟩
    · exact ⟨o, by omega, by omega, Or.inr ⟨rfl, by omega⟩⟩
  have HMN := Lib.hid hmany3
  have hmin : (if (o : Int) < (n : Int) + 1 then (o : Int) else (n : Int) + 1) = (many : Int) := by
    split <;> omega
  clear hb2 ho1 hd0 hu0 T1
  go_wp2_with fail
  refine (picked_any _ (sharesL n data o (rowsN n s)) _ order many w2 HSH.out HU2.out (by rw [HSL.out]; omega)).mono ?_
  rintro e w5 ⟨⟨v5, rfl, ps, rest, hw5, hperm, hfin, hfew⟩, hb5⟩
  have hpl := torn_len (n := n) (l := ps) (perm_len hperm) hfin hfew hmany1 hmany2 rfl rfl
  have q5 := (Since.refl w2).step hb5
  have HPM := Lib.hid hperm
  obtain ⟨N, hN⟩ : ∃ N, N = ps.length := ⟨_, rfl⟩
  have hN1 : 1 ≤ N := by omega
  have hN2 : N ≤ 8 := by omega
  have HNL := Lib.hid hN
  have HNM := Lib.hid (show N = many by omega)
  rcases hw5.shape with ⟨_, hnil⟩ | ⟨gp, cap, cur, rfl, hgp1, hgp2, hgp3, hgp4, _, _⟩
  · exfalso; rw [hnil] at hN; simp at hN; omega
  rw [← hN] at hw5 hgp3 ⊢
  have HW5 := Lib.hid hw5
  obtain ⟨d0, d1, d2⟩ := HS.out _ q5
  have s5 := HS.out _ q5.drew
  have hmk := modV_bd k0 (n := (N : Int)) (by omega)
  have hmi := modV_bd i0 (n := (rowsN n s : Int)) (by omega)
  have HR := Lib.hid (show rowsN n s = rowsN n s from rfl)
  clear hfin hfew hperm hb5 hpl hw5 hN hmin hmany3 HSL
  go_upto_region 5 with fail
  go_region_held3 (fun w' => w'.cell? ⟨B, 0, none⟩ = some (.int .i64 n) ∧ w'.cell? ⟨B, 1, none⟩ = some (.int .i64 o) ∧ w'.cell? ⟨B, 2, none⟩ = some (.int .i64 s)) (first | exact s5 | exact s6) (first
    | (go_at_call 28; refine (at_any _ _ _ (by omega) (by omega) (by omega) (by omega)).mono ?_; rintro e w' ⟨rfl, rfl⟩)
    | (go_at_call 15; refine (Long_any n o s _).mono ?_; rintro e w6 ⟨rfl, hb6⟩; rw [HLO.out]; have q6 := q5.drew.step hb6; have s6 := HS.out w6 q6))
  all_goals
    have r6 := (Since.refl w5).drew.step hb6
    generalize modV k0 (N : Int) = kk at *
    generalize modV i0 (rowsN n s : Int) = ii at *
    obtain ⟨k, rfl⟩ := Int.eq_ofNat_of_zero_le hmk.1
    obtain ⟨i, rfl⟩ := Int.eq_ofNat_of_zero_le hmi.1
    have hkN : k < N := by omega
    have hiR : i < rowsN n s := by omega
    clear hmk hmi s5 s6 hb6 d0 d1 d2
    have HW6 := Lib.hid (HW5.out.stays r6.below)
    have hkl : k < ps.length := by rw [← HNL.out]; exact hkN
    have hs : ps[k]? = some ps[k] := List.getElem?_eq_getElem hkl
    have hso := someOf_perm HPM.out
    obtain ⟨kk, hkk, hteq⟩ := hso.of _ (List.mem_of_getElem? hs)
    obtain ⟨g', cap', ua, cq, e1, m1, m2, i1, hf⟩ := ownShare_at HW6.out hs
    simp only [Value.slice.injEq, Option.some.injEq, Addr.mk.injEq] at e1
    obtain ⟨⟨rfl, hq1, hq2⟩, hq3, rfl⟩ := e1
    clear hq1 hq2 hq3
    have hfr := HW6.out.free (g := gp) rfl (k * 2 + 1)
    obtain ⟨uv, e2, hiv, _⟩ := hf.now
    simp only [List.cons.injEq, true_and, and_true] at e2
    subst e2
    have htl : ps[k].2.length = rowsN n s := by rw [hteq, shareL_len]
    have hty : ps[k].2[i]? = some (partV n data kk i) := by rw [hteq]; exact shareL_get n data kk hiR
    have hyb := partV_bd n data kk i
    have HS6 := Lib.hid hs
    have HTY := Lib.hid hty
    generalize ps[k] = t at *
    generalize partV n data kk i = y at *
    rw [htl] at m2
    have HTL := Lib.hid htl
    rw [htl] at hiv
    have y1 : (k : Int) < (N : Int) := by omega
    have y2 : (0 : Int) ≤ (k : Int) := by omega
    clear hs hso hteq hf m1 hty htl
    go_wp2_with fail
    refine (Clone_ints _ t.2 _ hiv).mono ?_
    rintro e w7 ⟨⟨v7, rfl, hv7⟩, hb7⟩
    obtain ⟨b', c', rfl, hb1, hb2, hb3, hb4⟩ := hv7.shape (by rw [HTL.out]; exact hR1)
    have HV7 := Lib.hid hv7
    have HB7 := Lib.hid hb7
    have HTG := Lib.hid (HV7.out.cell i (by rw [HTL.out]; exact hiR))
    have hty : w7.cell? ⟨b', i, none⟩ = some (.int .i64 y) := by
      have h1 := HTG.out
      rwa [List.getD_eq_getElem?_getD, HTY.out] at h1
    have htf := HV7.out.free i
    rw [HTL.out] at hb3 ⊢
    have m3 := below_cell hb7 m2
    have f3 := below_free hb7 m2 hfr
    have q7 := q6.step hb7
    have hs6 := q6.2
    have hgl : gp < w6.heap.size := cell_lt m2
    have hgb : gp ≠ b' := by omega
    have hbg : b' ≠ gp := by omega
    have q8 := q7.setCell (a := ⟨gp, k * 2 + 1, none⟩) (show w2.heap.size ≤ gp from hgp1) (.slice (some ⟨b', 0, none⟩) (rowsN n s) c')
    have m4 : (w7.setCell ⟨gp, k * 2 + 1, none⟩ (.slice (some ⟨b', 0, none⟩) (rowsN n s) c')).cell? ⟨gp, k * 2 + 1, none⟩ = some (.slice (some ⟨b', 0, none⟩) (rowsN n s) c') := World.cell?_setCell_same _ _ _ m3
    have ty4 := (cell_set_other w7 gp (k * 2 + 1) (.slice (some ⟨b', 0, none⟩) (rowsN n s) c') (p := ⟨b', i, none⟩) hbg).trans hty
    have tf4 := (free_set_other w7 gp (k * 2 + 1) (.slice (some ⟨b', 0, none⟩) (rowsN n s) c') (p := ⟨b', i, none⟩) hbg).trans htf
    obtain ⟨z, hz⟩ : ∃ z, z = (y + 1 + modV by_ 30) % 31 := ⟨_, rfl⟩
    have hm30 := modV_bd by_ (n := 30) (by omega)
    have iz : I64 z := ⟨by omega, by omega⟩
    have hrow0 := (bent_row (i := i) HW6.out HB7.out HS6.out HV7.out iz).drew RShare.stays
    rw [HTL.out] at hrow0
    have HROW := Lib.hid hrow0
    clear hrow0
    have HBENT : Hid (Bent n o s data ps k i t y z) := Lib.hid ⟨HP.out.1, HP.out.2.1, HP.out.2.2, someOf_perm HPM.out, by rw [← HNL.out]; rcases HMN.out with ⟨h1, h2⟩ | ⟨h1, h2⟩ <;> (have h3 := HNM.out; omega), HS6.out, hiR, HTY.out, by omega, by omega⟩
    have C1 : Hid (∀ w, Calls Try.prog 28 #[.int .i64 by_, .int .i64 30] w fun e w' => e = .returned (.int .i64 (modV by_ 30)) ∧ w = w') := Lib.hid (fun w => at_any by_ 30 w by0 by1 (by omega) (by omega))
    have HZ := Lib.hid hz
    generalize modV by_ 30 = mb at *
    clear hb7 hv7 m2 hfr hiv hty htf hgl HB7 HTG hz
    go_upto_region 7 with fail
    clear m3 f3
    generalize hw8 : w7.setCell ⟨gp, k * 2 + 1, none⟩ (.slice (some ⟨b', 0, none⟩) (rowsN n s) c') = w8 at *
    have y3 : (i : Int) < (rowsN n s : Int) := by omega
    have y4 : (0 : Int) ≤ (i : Int) := by omega
    obtain ⟨y50, y51⟩ := hyb
    obtain ⟨m50, m51⟩ := hm30
    have s1 : IntKind.i64.wrap (y + 1) = y + 1 := IntWalk.i64_in _ (by omega)
    have s2 : IntKind.i64.wrap (y + 1 + mb) = y + 1 + mb := IntWalk.i64_in _ (by omega)
    have s3 : (y + 1 + mb).tmod 31 = z := by rw [HZ.out]; exact IntWalk.rem_in _ _ (by omega)
    refine wp_region_still_tail 20 follows_mixedT (by kernel_rfl) ?_
    simp only [List.take_succ_cons, List.take_zero, List.drop_succ_cons, List.drop_zero]
    repeat still_step
    still_call ((C1.out _).mono fun _ _ h => same_symT h)
    repeat still_step
    try refine wpStill_nil ?_
    change wpList _ _ _ _ _ w8.drew
    have tf5 : w8.drew.frozen? ⟨b', i, none⟩ = false := tf4
    have ty5 : w8.drew.cell? ⟨b', i, none⟩ = some (.int .i64 y) := ty4
    have q9s := q8.setCell (a := ⟨b', i, none⟩) (show w2.heap.size ≤ b' by omega) (.int .i64 z)
    have q9 := q9s.drew
    have hrow9 : IsRow 2 RShare (w8.setCell ⟨b', i, none⟩ (.int .i64 z)).drew (.slice (some ⟨gp, 0, none⟩) N cap) (bentL ps k i t z) := by
      have := HROW.out
      exact this
    have HR9 := Lib.hid hrow9
    have hBw2 : B < w2.heap.size := cell_lt (HS.out _ (Since.refl w2)).1
    obtain ⟨x0, x1, x2⟩ := HS.out _ q8.drew
    have hBb : B ≠ b' := by omega
    have hbB : b' ≠ B := by omega
    obtain ⟨d0, d1, d2⟩ := HS.out _ q9s
    clear q9s
    clear s1 s2 s3 y1 y2 y3 y4 hrow9
    go_wp2_with fail
    clear d0 d1 d2
    generalize (w8.setCell ⟨b', i, none⟩ (.int .i64 z)).drew = w9 at *
    have J1 := HBENT.out.right
    have J2 := HBENT.out.checkL
    refine (Join_ok n o s _ (bentL ps k i t z) _ (isShares_of_row HR9.out) J1 J2).mono ?_
    rintro e w10 ⟨⟨v10, rfl, hi10⟩, hb10⟩
    have q10 := q9.step hb10
    have HI10 := Lib.hid hi10
    obtain ⟨e0, _, _⟩ := HS.out _ q10
    clear J1 J2 hb10 x0 x1 x2
    rcases HMN.out with ⟨g1, g2⟩ | ⟨g1, g2⟩
    · have hJ := HBENT.out.torn (by rw [← HNL.out, HNM.out, g1])
      have hgt : (n : Int) < (N : Int) := by have := HNM.out; omega
      rw [hJ]
      obtain ⟨a10, c10, rfl, _⟩ := hi10.opened
      clear hJ hi10 g1 g2
      go_wp2_with fail
      go_ret
      exact ⟨rfl, (S0.step (T2.step q10.below).below).below⟩
    · have hgt : ¬ ((n : Int) < (N : Int)) := by have := HNM.out; omega
      rcases HBENT.out.not (by rw [← HNL.out, HNM.out, g1]; exact g2) with hJ | ⟨hJ, hne⟩
      · rw [hJ]
        obtain ⟨a10, c10, rfl, _⟩ := hi10.opened
        clear hJ hi10 g1 g2
        go_wp2_with fail
        go_ret
        exact ⟨rfl, (S0.step (T2.step q10.below).below).below⟩
      · rw [hJ]
        have HNE := Lib.hid (show eqInts (joinC n o s (bentL ps k i t z)) data = false by rw [eqInts, decide_eq_false_iff_not]; exact hne)
        obtain ⟨a10, c10, rfl, _⟩ := hi10.opened
        clear hJ hne hi10 g1 g2
        go_wp2_with fail
        refine (Equal_ints _ _ (joinC n o s (bentL ps k i t z)) data _ HI10.out (HD2.out.stays q10.below)).mono ?_
        rintro e w11 ⟨rfl, hb11⟩
        rw [HNE.out]
        have q11 := q10.step hb11
        go_wp2_with fail
        go_ret
        exact ⟨rfl, (S0.step (T2.step q11.below).below).below⟩

theorem ShareTorn_walk (v0 : Value) (p : Plan3) (v1 : Value) (data : List Int) (v2 : Value) (order : List Int) (v3 : Value) (k : Int) (v4 : Value) (i : Int) (v5 : Value) (by_ : Int) (W : World) (h0 : IsPlan v0 p) (h1 : IsInts W v1 data) (h2 : IsInts W v2 order) (h3 : IsInt v3 k) (h4 : IsInt v4 i) (h5 : IsInt v5 by_) :
    Calls Try.prog 7 #[v0, v1, v2, v3, v4, v5] W fun e w' => e = .returned (.bool true) ∧ Below W.heap.size W w' := by
  obtain ⟨rfl, _⟩ := h0
  obtain ⟨n, o, s⟩ := p
  obtain ⟨rfl, hk⟩ := h3
  obtain ⟨rfl, hi⟩ := h4
  obtain ⟨rfl, hb⟩ := h5
  by_cases h : splitE n o s data = 0
  · obtain ⟨n, o, s, rfl, rfl, rfl⟩ := plan_nat (splitE_zero h).1
    exact shareTorn_ok n o s k i by_ v1 v2 data order W h1 h2 hk hi hb h
  · exact shareTorn_no n o s k i by_ v1 v2 data order W h1 h2 h

end Go.Proofs.Ytlaabmpadikkjaa
