/-
  The walk of KinSelf.
-/
import Derived.Test.YtlaabmpadikkjaaKinBothWalk
import Derived.Test.YtlaabmpadikkjaaBook4
namespace Go.Proofs.Ytlaabmpadikkjaa
open Go.RowKit

theorem bookAdd_any (v vx : Value) (b : List Ver) (x : Ver) (W : World) (hv : IsVers W v b) (hx : IsVer W vx x) :
    Calls Try.prog 40 #[.agg #[v], vx] W fun e w' => (∃ v', e = .returned (.tuple #[.agg #[v'], .int .i64 (addVE b x)]) ∧ IsVers w' v' (addC b x)) ∧ Below W.heap.size W w' := by
  by_cases h : bookV b ≠ 0 ∨ b.length = 12
  · have hz : addVE b x ≠ 0 := by
      by_cases h0 : bookV b = 0
      · rw [addVE_full x h0 (by rcases h with h | h; exact absurd h0 h; exact h)]; omega
      · rw [addVE_chk x h0]; exact h0
    exact (bookAdd_no v vx b x W hv hx h).mono fun e w' ⟨he, hb⟩ => ⟨⟨_, he, by rw [addC_no hz]; exact IsRow.nil _⟩, hb⟩
  · exact bookAdd_yes v vx b x W hv hx (by omega) (by omega)

theorem OwnInts.single (w : World) (e : TypeId) (base : Nat) (z : Int) (hz : I64 z) (hb : base ≤ w.heap.size) : OwnInts (w.alloc (.cells #[.int .i64 z] e)) e base (.slice (some ⟨w.heap.size, 0, none⟩) 1 1) [z] :=
  ⟨⟨by simp, .inr ⟨w.heap.size, 1, #[.int .i64 z], rfl, hb, heap_alloc_new w _, Nat.le_refl _, by unfold maxLen; omega, by simp, by simp⟩⟩, by intro x hx; simp at hx; subst hx; exact hz, by simp⟩

/-- Of a new one that has these parents each of them is what it has in common with itself. -/
theorem common_parent {b : List Ver} {x : Ver} (h : addVE b x = 0) {k : Int} (hk : k ∈ x.1) : commonE (b ++ [x]) b.length k = 0 ∧ commonL (b ++ [x]) b.length k = [k] := by
  obtain ⟨h1, h2, h3⟩ := addVE_ok h
  have hp := (h2.par b.length x (by simp)).1 k hk
  refine ⟨commonE_good (bookV_ok.2 h2) (by omega) (by rw [List.length_append]; simp; omega) hp.1 (by rw [List.length_append]; simp; omega), common_from h2 (by omega) (by omega) ?_⟩
  rw [from_new h1 h2]
  exact Or.inr ⟨k, hk, from_self _ _⟩

set_option maxRecDepth 100000 in
set_option maxHeartbeats 4000000 in
theorem kinSelf_no (v : Value) (b : List Ver) (i j p0 p1 p2 : Int) (W : World) (hv : IsVers W v b) (h : bookV b ≠ 0 ∨ bookV b = 0 ∧ b = []) :
    Calls Try.prog 10 #[.agg #[v], .int .i64 i, .int .i64 j, .agg #[.int .i64 p0, .int .i64 p1, .int .i64 p2]] W fun e w' => e = .returned (.bool true) ∧ Below W.heap.size W w' := by
  obtain ⟨a, c, rfl, _⟩ := hv.opened
  have S0 := ((Since.refl W).alloc (.cells #[.slice a b.length c] 50)).alloc (.cells #[.int .i64 p0, .int .i64 p1, .int .i64 p2] 23)
  have hv0 := hv.later RVer.stays (Dirty.old S0.below _)
  have c0 : ((W.alloc (.cells #[.slice a b.length c] 50)).alloc (.cells #[.int .i64 p0, .int .i64 p1, .int .i64 p2] 23)).cell? ⟨W.heap.size, 0, none⟩ = some (.slice a b.length c) := by go_simp
  clear hv
  go_enter Try.func10, Try.ntmps10
  go_wp2_with fail
  generalize (W.alloc (.cells #[.slice a b.length c] 50)).alloc (.cells #[.int .i64 p0, .int .i64 p1, .int .i64 p2] 23) = w0 at *
  obtain ⟨B, hBB⟩ : ∃ B, B = W.heap.size := ⟨_, rfl⟩
  rw [← hBB] at c0 ⊢
  clear hBB
  have l0 := cell_lt c0
  refine (joined_any _).mono ?_
  rintro e w1 ⟨rfl, hb1⟩
  have T1 := (Since.refl w0).step hb1
  have d1 := (T1.below.cell (p := ⟨B, 0, none⟩) l0).trans c0
  clear hb1
  go_wp2_with fail
  refine (bookCheck_any _ b _ (hv0.later RVer.stays (Dirty.old T1.below _))).mono ?_
  rintro e w2 ⟨rfl, hb2⟩
  have T2 := T1.step hb2
  have d2 := (T2.below.cell (p := ⟨B, 0, none⟩) l0).trans c0
  clear hb2 d1
  rcases h with h | ⟨h, hn⟩
  · have hne : (bookV b != 0) = true := by simpa using h
    clear h
    go_wp2_with fail
    refine (joined_any _).mono ?_
    rintro e w3 ⟨rfl, hb3⟩
    have T3 := T2.step hb3
    clear hb3
    go_wp2_with fail
    go_ret
    exact ⟨rfl, (S0.step T3.below).below⟩
  · rw [h]
    have hne : ((b.length : Int) == 0) = true := by rw [hn]; rfl
    clear h hn
    go_wp2_with fail
    refine (joined_any _).mono ?_
    rintro e w3 ⟨rfl, hb3⟩
    have T3 := T2.step hb3
    clear hb3
    go_wp2_with fail
    go_ret
    exact ⟨rfl, (S0.step T3.below).below⟩

set_option maxRecDepth 100000 in
set_option maxHeartbeats 8000000 in
theorem kinSelf_ok (v : Value) (b : List Ver) (i0 j0 p0 p1 p2 : Int) (W : World) (hv : IsVers W v b) (h : bookV b = 0) (hl : 0 < b.length) (ii : I64 i0) (ij : I64 j0) (hp0 : I64 p0) (hp1 : I64 p1) (hp2 : I64 p2) :
    Calls Try.prog 10 #[.agg #[v], .int .i64 i0, .int .i64 j0, .agg #[.int .i64 p0, .int .i64 p1, .int .i64 p2]] W fun e w' => e = .returned (.bool true) ∧ Below W.heap.size W w' := by
  have hok := bookV_ok.1 h
  have ht := hok.top
  have HOK := Lib.hid hok
  have HB := Lib.hid h
  have HI0 := Lib.hid ii
  have HJ0 := Lib.hid ij
  have HP := Lib.hid (And.intro hp0 (And.intro hp1 hp2))
  obtain ⟨ii0, ii1⟩ := ii
  obtain ⟨ij0, ij1⟩ := ij
  have hne : ((b.length : Int) == 0) = false := beq_eq_false_iff_ne.2 (by omega)
  have m1 := modV_bd i0 (n := b.length) (by omega)
  have m2 := modV_bd j0 (n := b.length) (by omega)
  obtain ⟨a, c, rfl, _⟩ := hv.opened
  have S0 := ((Since.refl W).alloc (.cells #[.slice a b.length c] 50)).alloc (.cells #[.int .i64 p0, .int .i64 p1, .int .i64 p2] 23)
  have hv0 := hv.later RVer.stays (Dirty.old S0.below _)
  have c0 : ((W.alloc (.cells #[.slice a b.length c] 50)).alloc (.cells #[.int .i64 p0, .int .i64 p1, .int .i64 p2] 23)).cell? ⟨W.heap.size, 0, none⟩ = some (.slice a b.length c) := by go_simp
  have k0 : ((W.alloc (.cells #[.slice a b.length c] 50)).alloc (.cells #[.int .i64 p0, .int .i64 p1, .int .i64 p2] 23)).cell? ⟨W.heap.size + 1, 0, none⟩ = some (.int .i64 p0) := by go_simp
  have k1 : ((W.alloc (.cells #[.slice a b.length c] 50)).alloc (.cells #[.int .i64 p0, .int .i64 p1, .int .i64 p2] 23)).cell? ⟨W.heap.size + 1, 1, none⟩ = some (.int .i64 p1) := by go_simp
  have k2 : ((W.alloc (.cells #[.slice a b.length c] 50)).alloc (.cells #[.int .i64 p0, .int .i64 p1, .int .i64 p2] 23)).cell? ⟨W.heap.size + 1, 2, none⟩ = some (.int .i64 p2) := by go_simp
  clear hv h hok hp0 hp1 hp2
  go_enter Try.func10, Try.ntmps10
  go_wp2_with fail
  generalize (W.alloc (.cells #[.slice a b.length c] 50)).alloc (.cells #[.int .i64 p0, .int .i64 p1, .int .i64 p2] 23) = w0 at *
  obtain ⟨Bp, hBp⟩ : ∃ B, B = W.heap.size + 1 := ⟨_, rfl⟩
  rw [← hBp] at k0 k1 k2 ⊢
  obtain ⟨B, hBB⟩ : ∃ B, B = W.heap.size := ⟨_, rfl⟩
  rw [← hBB] at c0 ⊢
  clear hBB hBp
  have l0 := cell_lt c0
  have lk := cell_lt k0
  have K0 := Lib.hid k0
  have K1 := Lib.hid k1
  have K2 := Lib.hid k2
  clear k0 k1 k2
  refine (joined_any _).mono ?_
  rintro e w1 ⟨rfl, hb1⟩
  have T1 := (Since.refl w0).step hb1
  have d1 := (T1.below.cell (p := ⟨B, 0, none⟩) l0).trans c0
  clear hb1
  go_wp2_with fail
  refine (bookCheck_any _ b _ (hv0.later RVer.stays (Dirty.old T1.below _))).mono ?_
  rintro e w2 ⟨rfl, hb2⟩
  rw [HB.out]
  have T2 := T1.step hb2
  have d2 := (T2.below.cell (p := ⟨B, 0, none⟩) l0).trans c0
  clear hb2 d1
  go_wp2_with (go_quiet (refine Calls.quiet_of_same ((at_any _ _ _ (by omega) (by omega) (by omega) (by omega)).mono fun e w' h => ⟨h.1, h.2.symm⟩)))
  generalize modV i0 b.length = i at *
  generalize modV j0 b.length = j at *
  obtain ⟨i1, i2⟩ := m1
  obtain ⟨j1, j2⟩ := m2
  have HE1 := Lib.hid (commonE_good HB.out i1 i2 i1 i2)
  have HC1 := Lib.hid ((commonC_ok HE1.out).trans (common_from HOK.out i1 (by omega) (from_self b i)))
  have HA := Lib.hid (show apartC b i i = false by simp [apartC, apart_eq HOK.out i1 (show i ≤ 12 by omega) i1 (show i ≤ 12 by omega), from_self])
  have HQ := Lib.hid (show eqInts [i] [i] = true by simp [eqInts])
  have ixi : I64 i := ⟨by omega, by omega⟩
  have ixj : I64 j := ⟨by omega, by omega⟩
  have T3 := T2.drewN nq
  clear T2
  refine (Common_any _ b i i _ (hv0.later RVer.stays (Dirty.old T3.below _))).mono ?_
  rintro e w4 ⟨⟨v4, rfl, ho4⟩, hb4⟩
  rw [HE1.out]
  rw [HC1.out] at ho4
  have T4 := T3.step hb4
  have d4 := (T4.below.cell (p := ⟨B, 0, none⟩) l0).trans c0
  have HI4 := Lib.hid ho4.isInts
  obtain ⟨a4, c4, rfl, _⟩ := ho4.isInts.opened
  clear hb4 ho4 d2 T3
  go_wp2_with fail
  refine (Apart_any _ b i i _ (hv0.later RVer.stays (Dirty.old T4.below _))).mono ?_
  rintro e w5 ⟨rfl, hb5⟩
  rw [HE1.out, HA.out]
  have T5 := T4.step hb5
  have HI45 := Lib.hid (HI4.out.stays hb5)
  clear hb5 d4 T4 HI4
  go_wp2_with fail
  refine (Equal_ints _ _ [i] [i] _ (HI45.out.stays (below_alloc _ _)) (IsInts.fresh _ 3 [i] (by simp) (by intro x hx; simp at hx; subst hx; exact ixi) _ (by simp))).mono ?_
  rintro e w6 ⟨rfl, hb6⟩
  rw [HQ.out]
  have T6 := (T5.alloc (.cells #[.int .i64 i] 3)).step hb6
  have hgs := T6.2
  clear hb6 T5 HI45
  rcases Int.lt_trichotomy i j with h | h | h
  case' inl =>
    have O6 := Lib.hid ((OwnInts.single w6 3 w0.heap.size i ixi hgs).stays (below_alloc _ (.cells #[.int .i64 j] 3)))
    go_wp2_with (at_builtin; refine wpList_append_int rfl _ _ 24 rfl 3 Try.underlying24 info_int w0.heap.size _ [i] rfl O6.out ⟨w6.heap.size + 1, 0, none⟩ 1 j rfl (by simp) ixj (by simp) (by simp; omega) ?_; intro v7 w7 ho7 hg7; obtain ⟨P, hiP⟩ : ∃ P : List Int, IsInts w7 v7 P := ⟨_, ho7.isInts⟩; have T7 := ((T6.alloc (.cells #[.int .i64 i] 3)).alloc (.cells #[.int .i64 j] 3)).own O6.out hg7; have d7 := (T7.below.cell (p := ⟨B, 0, none⟩) l0).trans c0; have q0 := (T7.below.cell (p := ⟨Bp, 0, none⟩) lk).trans K0.out; have q1 := (T7.below.cell (p := ⟨Bp, 1, none⟩) lk).trans K1.out; have q2 := (T7.below.cell (p := ⟨Bp, 2, none⟩) lk).trans K2.out; clear ho7 hg7; obtain ⟨a7, c7, rfl, hc7, ⟨hm7, hm7', _⟩, _⟩ := hiP.opened)
    clear h O6 d7 q0 q1 q2
  case' inr.inl =>
    subst h
    have d6 := (T6.below.cell (p := ⟨B, 0, none⟩) l0).trans c0
    have q0 := (T6.below.cell (p := ⟨Bp, 0, none⟩) lk).trans K0.out
    have q1 := (T6.below.cell (p := ⟨Bp, 1, none⟩) lk).trans K1.out
    have q2 := (T6.below.cell (p := ⟨Bp, 2, none⟩) lk).trans K2.out
    have lt1 := cell_lt d6
    have lt2 := cell_lt q0
    go_wp2_with fail
    obtain ⟨v7, hv7⟩ : ∃ v7, v7 = Value.slice (some ⟨w6.heap.size, 0, none⟩) 1 1 := ⟨_, rfl⟩
    rw [← hv7]
    obtain ⟨P, hiP⟩ : ∃ P : List Int, IsInts (w6.alloc (.cells #[.int .i64 i] 3)) v7 P := ⟨[i], by rw [hv7]; exact (OwnInts.single w6 3 w0.heap.size i ixi hgs).isInts⟩
    obtain ⟨w7, hw7⟩ : ∃ w7, w7 = w6.alloc (.cells #[.int .i64 i] 3) := ⟨_, rfl⟩
    rw [← hw7] at hiP ⊢
    have T7 : Since w0.heap.size w0 w7 := by rw [hw7]; exact T6.alloc _
    obtain ⟨a7, c7, rfl, hc7, ⟨hm7, hm7', _⟩, _⟩ := hiP.opened
    clear hv7 hw7 q0 q1 q2 d6 lt1 lt2
  case' inr.inr =>
    have O6 := Lib.hid ((OwnInts.single w6 3 w0.heap.size j ixj hgs).stays (below_alloc _ (.cells #[.int .i64 i] 3)))
    go_wp2_with (at_builtin; refine wpList_append_int rfl _ _ 24 rfl 3 Try.underlying24 info_int w0.heap.size _ [j] rfl O6.out ⟨w6.heap.size + 1, 0, none⟩ 1 i rfl (by simp) ixi (by simp) (by simp; omega) ?_; intro v7 w7 ho7 hg7; obtain ⟨P, hiP⟩ : ∃ P : List Int, IsInts w7 v7 P := ⟨_, ho7.isInts⟩; have T7 := ((T6.alloc (.cells #[.int .i64 j] 3)).alloc (.cells #[.int .i64 i] 3)).own O6.out hg7; have d7 := (T7.below.cell (p := ⟨B, 0, none⟩) l0).trans c0; have q0 := (T7.below.cell (p := ⟨Bp, 0, none⟩) lk).trans K0.out; have q1 := (T7.below.cell (p := ⟨Bp, 1, none⟩) lk).trans K1.out; have q2 := (T7.below.cell (p := ⟨Bp, 2, none⟩) lk).trans K2.out; clear ho7 hg7; obtain ⟨a7, c7, rfl, hc7, ⟨hm7, hm7', _⟩, _⟩ := hiP.opened)
    clear h O6 d7 q0 q1 q2
  all_goals
    have hadd := bookAdd_any (.slice a b.length c) (.agg #[.slice a7 P.length c7, .int .i64 p0, .int .i64 p1, .int .i64 p2]) b (P, p0, p1, p2) w7 (hv0.later RVer.stays (Dirty.old T7.below _)) ⟨_, rfl, hiP, HP.out⟩
    refine hadd.mono ?_
    rintro e w8 ⟨⟨v8, rfl, hv8⟩, hb8⟩
    clear hadd
    have T8 := T7.step hb8
    have d8 := (T8.below.cell (p := ⟨B, 0, none⟩) l0).trans c0
    have l8 : B < w8.heap.size := cell_lt d8
    have hiP8 := hiP.stays hb8
    obtain ⟨a8, c8, rfl, _⟩ := hv8.opened
    clear hb8 hiP T7 T6
    by_cases hz : addVE b (P, p0, p1, p2) = 0
    · have HCP := Lib.hid (fun k hk => common_parent hz (k := k) hk)
      rw [addC_ok hz] at hv8
      rw [hz]
      rw [show (addC b (P, p0, p1, p2)).length = (b ++ [(P, p0, p1, p2)]).length by rw [addC_ok hz]]
      clear hz
      generalize b ++ [(P, p0, p1, p2)] = b' at *
      go_wp2_with fail
      have T9 := T8.alloc (.cells #[.slice a8 b'.length c8] 50)
      have c9 : (w8.alloc (.cells #[.slice a8 b'.length c8] 50)).cell? ⟨w8.heap.size, 0, none⟩ = some (.slice a8 b'.length c8) := by go_simp
      have d9 := (T9.below.cell (p := ⟨B, 0, none⟩) l0).trans c0
      have hv9 := hv8.stays RVer.stays (below_alloc _ (.cells #[.slice a8 b'.length c8] 50))
      have hiP9 := hiP8.stays (below_alloc _ (.cells #[.slice a8 b'.length c8] 50))
      generalize w8.alloc (.cells #[.slice a8 b'.length c8] 50) = w9 at *
      obtain ⟨Bc, hBc⟩ : ∃ Bc, Bc = w8.heap.size := ⟨_, rfl⟩
      rw [← hBc] at c9 ⊢
      have lb9 := cell_lt d9
      have lc9 := cell_lt c9
      have D9 := Lib.hid d9
      have C9 := Lib.hid c9
      clear hBc d8 l8 hv8 hiP8 T8 c9 d9
      go_loopw [98] (fun q wr => ∃ k : Nat, k ≤ P.length ∧ q = .int .i64 k ∧ Since w9.heap.size w9 wr) (fun q _ => P.length - (intOf q).toNat)
      case atStart => exact ⟨0, by omega, rfl, Since.refl w9⟩
      case round =>
        obtain ⟨k, hk, rfl, hS⟩ := hrel
        by_cases hlt : k < P.length
        · obtain ⟨_, _, e1, _, _, hxi⟩ := (hiP9.stays hS.below).opened
          simp only [Value.slice.injEq, true_and] at e1
          obtain ⟨rfl, rfl⟩ := e1
          obtain ⟨b1, o1, z, e2, hc1, hz1, hiz⟩ := hxi k hlt
          subst e2
          have G := HCP.out z (List.mem_of_getElem? hz1)
          have G1 := Lib.hid G.1
          have G2 := Lib.hid ((commonC_ok G.1).trans G.2)
          have GQ := Lib.hid (show eqInts [z] [z] = true by simp [eqInts])
          have dB := (hS.below.cell (p := ⟨B, 0, none⟩) lb9).trans D9.out
          have dC := (hS.below.cell (p := ⟨Bc, 0, none⟩) lc9).trans C9.out
          clear G hz1 hxi
          go_wp2_with fail
          refine (Common_any _ b' b.length z _ (hv9.later RVer.stays (Dirty.old hS.below _))).mono ?_
          rintro e w10 ⟨⟨v10, rfl, ho10⟩, hb10⟩
          rw [G1.out]
          rw [G2.out] at ho10
          have S10 := hS.step hb10
          have HI10 := Lib.hid ho10.isInts
          obtain ⟨a10, c10, rfl, _⟩ := ho10.isInts.opened
          clear hb10 ho10 dB dC hc1
          go_wp2_with fail
          refine (Equal_ints _ _ [z] [z] _ (HI10.out.stays (below_alloc _ _)) (IsInts.fresh _ 3 [z] (by simp) (by intro x hx; simp at hx; subst hx; exact hiz) _ (by simp))).mono ?_
          rintro e w11 ⟨rfl, hb11⟩
          rw [GQ.out]
          have S11 := (S10.alloc (.cells #[.int .i64 z] 3)).step hb11
          clear hb11 HI10 S10 hS
          go_wp2_with fail
          go_roundw
          case rel => exact ⟨k + 1, by omega, by go_num, S11⟩
          case measure => simp [intOf]; omega
        · go_wp2_with fail
          go_ret
          exact ⟨rfl, (S0.step (T9.step hS.below).below).below⟩
    · have hne2 : (addVE b (P, p0, p1, p2) != 0) = true := by simpa using hz
      go_wp2_with fail
      go_ret
      exact ⟨rfl, (S0.step (T8.alloc _).below).below⟩

theorem KinSelf_walk (v0 : Value) (b : List Ver) (v1 : Value) (i : Int) (v2 : Value) (j : Int) (v3 : Value) (p : Plan3) (W : World) (h0 : IsBook W v0 b) (h1 : IsInt v1 i) (h2 : IsInt v2 j) (h3 : IsPlan v3 p) :
    Calls Try.prog 10 #[v0, v1, v2, v3] W fun e w' => e = .returned (.bool true) ∧ Below W.heap.size W w' := by
  obtain ⟨u, rfl, hv⟩ := h0
  obtain ⟨rfl, hi⟩ := h1
  obtain ⟨rfl, hj⟩ := h2
  obtain ⟨rfl, hp0, hp1, hp2⟩ := h3
  by_cases h : bookV b = 0
  · by_cases hb : b = []
    · exact kinSelf_no u b i j _ _ _ W hv (Or.inr ⟨h, hb⟩)
    · exact kinSelf_ok u b i j _ _ _ W hv h (List.length_pos_iff.2 hb) hi hj hp0 hp1 hp2
  · exact kinSelf_no u b i j _ _ _ W hv (Or.inl h)

end Go.Proofs.Ytlaabmpadikkjaa
