/-
  The walk of VoteFinds.
-/
import Derived.Test.YtnpdojjffbhalaaFindsMath
import Derived.Test.YtnpdojjffbhalaaVoted
import Derived.Test.YtnpdojjffbhalaaPicked
namespace Go.Proofs.Ytnpdojjffbhalaa
open Go.RowKit

/-- A share's numbers in a box, one more of them. -/
theorem boxed_next {w w9 : World} {Bs : Nat} {N : Int} {vv v' : Value} {l l' : List Int} {T e : TypeId} (hh : w.heap[Bs]? = some (.cells #[.int .i64 N, vv] T (0, 0))) (hov : OwnInts w e (Bs + 1) vv l) (o : Obj) (hg : (w.alloc o).grownBy w9 vv.ownBlock) (ho : OwnInts w9 e (Bs + 1) v' l') :
    w9.cell? ⟨Bs, 1, none⟩ = some vv ∧ w9.frozen? ⟨Bs, 1, none⟩ = false ∧ (w9.setCell ⟨Bs, 1, none⟩ v').heap[Bs]? = some (.cells #[.int .i64 N, v'] T (0, 0)) ∧ OwnInts (w9.setCell ⟨Bs, 1, none⟩ v') e (Bs + 1) v' l' := by
  have hlt := (Array.getElem?_eq_some_iff.1 hh).1
  have h9 : w9.heap[Bs]? = some (.cells #[.int .i64 N, vv] T (0, 0)) := by
    rw [hg.block Bs (by simp; omega) (fun e => by have := (hov.1.lt Bs e.symm).1; omega), heap_alloc_old _ _ hlt, hh]
  refine ⟨by simp [World.cell?, h9], by simp [World.frozen?, h9], by simpa using heap_setCell_same w9 Bs 1 _ _ v' h9, ho.kept (grown_setCell w9 ⟨Bs, 1, none⟩ v') ?_⟩
  right
  intro e
  have := (ho.1.lt Bs e).1
  omega

set_option maxRecDepth 100000 in
set_option maxHeartbeats 4000000 in
theorem voteFinds_no (n o s many : Int) (v u x : Value) (data order tv : List Int) (W : World) (hd : IsInts W v data) (hu : IsInts W u order) (hx : IsInts W x tv) (hE : splitE n o s data ≠ 0) :
    Calls Try.prog 3 #[.agg #[.int .i64 n, .int .i64 o, .int .i64 s], v, u, .int .i64 many, x] W fun e w' => e = .returned (.bool true) ∧ Below W.heap.size W w' := by
  obtain ⟨a, c, rfl, _⟩ := hd.opened
  obtain ⟨a', c', rfl, _⟩ := hu.opened
  obtain ⟨a2, c2, rfl, _⟩ := hx.opened
  have hne : (splitE n o s data != 0) = true := by simpa using hE
  have S0 := (Since.refl W).alloc (.cells #[.int .i64 n, .int .i64 o, .int .i64 s] 23)
  have hd0 := hd.stays S0.below
  have HE := Lib.hid hE
  clear hd hu hE hx
  go_enter Try.func3, Try.ntmps3
  go_wp2_with fail
  refine (Split_no n o s _ data _ hd0 HE.out).mono ?_
  rintro e w1 ⟨rfl, hb1⟩
  have S1 := S0.step hb1
  clear hb1 hd0 S0
  go_wp2_with fail
  refine (voted_any _).mono ?_
  rintro e w2 ⟨rfl, hb2⟩
  have S2 := S1.step hb2
  clear hb2 S1
  go_wp2_with fail
  refine (voted_any _).mono ?_
  rintro e w3 ⟨rfl, hb3⟩
  have S3 := S2.step hb3
  clear hb3 S2
  go_wp2_with fail
  go_ret
  exact ⟨rfl, S3.below⟩

set_option maxRecDepth 100000 in
set_option maxHeartbeats 4000000 in
theorem voteFinds_ok (n o s : Nat) (many : Int) (v u x : Value) (data order tv : List Int) (W : World) (hd : IsInts W v data) (hu : IsInts W u order) (hx : IsInts W x tv) (hm : I64 many) (hE : splitE n o s data = 0) :
    Calls Try.prog 3 #[.agg #[.int .i64 n, .int .i64 o, .int .i64 s], v, u, .int .i64 many, x] W fun e w' => e = .returned (.bool true) ∧ Below W.heap.size W w' := by
  obtain ⟨hp, hl, hnum⟩ := splitE_zero hE
  obtain ⟨p1, p2, p3, p4, p5, p6⟩ := planV_bd hp
  have hls : data.length = s := by omega
  have hr24 := rowsN_bd (n := n) (s := s) (by omega) (by omega) (by omega) (by omega)
  have hR2 : rowsN n s ≤ 24 := hr24.2.2
  have HP := Lib.hid (And.intro hp (And.intro hls hnum))
  have HSL := Lib.hid (sharesL_len n data o (rowsN n s))
  obtain ⟨m0, m1⟩ := hm
  obtain ⟨a, c, rfl, _⟩ := hd.opened
  obtain ⟨a', c', rfl, _⟩ := hu.opened
  obtain ⟨a2, c2, rfl, ht1, ⟨ht2, _, _⟩, _⟩ := hx.opened
  have HE := Lib.hid hE
  have S0 := (Since.refl W).alloc (.cells #[.int .i64 n, .int .i64 o, .int .i64 s] 23)
  have c0 : (W.alloc (.cells #[.int .i64 n, .int .i64 o, .int .i64 s] 23)).cell? ⟨W.heap.size, 0, none⟩ = some (.int .i64 n) := by go_simp
  have c1 : (W.alloc (.cells #[.int .i64 n, .int .i64 o, .int .i64 s] 23)).cell? ⟨W.heap.size, 1, none⟩ = some (.int .i64 o) := by go_simp
  have c2' : (W.alloc (.cells #[.int .i64 n, .int .i64 o, .int .i64 s] 23)).cell? ⟨W.heap.size, 2, none⟩ = some (.int .i64 s) := by go_simp
  have hd0 := hd.stays S0.below
  have HD0 := Lib.hid hd0
  have HU0 := Lib.hid (hu.stays S0.below)
  have HX0 := Lib.hid (hx.stays S0.below)
  clear hd hu hx hE hp hl hnum hls hr24
  go_enter Try.func3, Try.ntmps3
  go_upto_region 1 with fail
  generalize W.alloc (.cells #[.int .i64 n, .int .i64 o, .int .i64 s] 23) = w0 at *
  obtain ⟨B, hB⟩ : ∃ B, B = W.heap.size := ⟨_, rfl⟩
  rw [← hB] at c0 c1 c2' ⊢
  clear hB
  have HC : Hid (∀ w', Since w0.heap.size w0 w' → w'.cell? ⟨B, 0, none⟩ = some (.int .i64 n) ∧ w'.cell? ⟨B, 1, none⟩ = some (.int .i64 o) ∧ w'.cell? ⟨B, 2, none⟩ = some (.int .i64 s)) := Lib.hid (fun w' q => ⟨below_cell q.below c0, below_cell q.below c1, below_cell q.below c2'⟩)
  go_upto_region 2 with (go_at_call 13; go_fit (Split_any n o s _ data _ hd0); rintro e w1 ⟨⟨v1, rfl, h1⟩, hb1⟩; rw [HE.out])
  have T1 := (Since.refl w0).step hb1
  rw [splitL_ok HE.out] at h1
  have HI1 := Lib.hid h1
  obtain ⟨a1, k1, rfl, _⟩ := h1.opened
  clear c0 c1 c2' hb1 hd0 h1
  go_wp2_with fail
  refine (voted_any _).mono ?_
  rintro e w2 ⟨rfl, hb2⟩
  have T2 := T1.step hb2
  have HI2 := Lib.hid (shares_stays HI1.out hb2)
  clear hb2
  go_upto_region 4 with fail
  have s3 := HC.out _ T2.drew
  have hmm := modV_bd many (n := (o : Int) - n + 1) (by omega)
  obtain ⟨ma, hma⟩ := Int.eq_ofNat_of_zero_le hmm.1
  have hmo : n + ma ≤ o := by omega
  have HMA := Lib.hid hma
  have hn1 : 1 ≤ n + ma := by omega
  have HC1 : Hid (∀ w, Calls Try.prog 16 #[.int .i64 many, .int .i64 (IntKind.i64.wrap (IntKind.i64.wrap ((o : Int) - n) + 1))] w fun e w' => e = .returned (.int .i64 (ma : Int)) ∧ w = w') := Lib.hid (fun w => by
    rw [IntWalk.i64_in ((o : Int) - n) (by omega), IntWalk.i64_in _ (by omega)]
    have := at_any many ((o : Int) - n + 1) w m0 m1 (by omega) (by omega)
    rwa [HMA.out] at this)
  have HWN : Hid (IntKind.i64.wrap ((n : Int) + (ma : Int)) = ((n + ma : Nat) : Int)) := Lib.hid (by rw [IntWalk.i64_in _ (by omega)]; omega)
  rw [hma] at hmm
  clear hma
  go_region_held3 (fun w' => w'.cell? ⟨B, 0, none⟩ = some (.int .i64 n) ∧ w'.cell? ⟨B, 1, none⟩ = some (.int .i64 o) ∧ w'.cell? ⟨B, 2, none⟩ = some (.int .i64 s)) (first | exact s3 | exact s5) (first
    | (go_at_call 16; go_fit (HC1.out w2.drew); rintro e w' ⟨rfl, rfl⟩)
    | (go_at_call 15; go_fit (picked_any _ (sharesL n data o (rowsN n s)) _ order (IntKind.i64.wrap ((n : Int) + (ma : Int))) w2.drew (shares_stays HI2.out (Since.refl w2).drew.below) (HU0.out.stays T2.drew.below) (by rw [HSL.out]; omega)); rintro e w5 ⟨⟨v5, rfl, ps, rest, hw5, hperm, hfin, hfew⟩, hb5⟩; have T5 := T2.drew.step hb5; have s5 := HC.out _ T5))
  all_goals
    rw [HWN.out] at hfin hfew
    rw [IntWalk.i64_in ((o : Int) - n) (by omega), IntWalk.i64_in ((o : Int) - n + 1) (by omega), IntWalk.i64_in ((n : Int) + ma) (by omega)]
    have hpl := pick_len (perm_len hperm) hfin hfew hmo hn1
    have hso := someOf_perm hperm
    obtain ⟨N, hN⟩ : ∃ N, N = ps.length := ⟨_, rfl⟩
    have hNn : n ≤ N := by omega
    have hN8 : N ≤ 8 := by omega
    have hN1 : 1 ≤ N := by omega
    obtain ⟨bb, hbb⟩ : ∃ bb, bb = (N - n) / 2 := ⟨_, rfl⟩
    have HF := Lib.hid (finds (tv := tv) HP.out.1 HP.out.2.1 HP.out.2.2 hso (by omega) bb (by omega))
    have HSO := Lib.hid hso
    have HNL := Lib.hid hN
    have hbq : ((N : Int) - (n : Int)) / 2 = (bb : Int) := by omega
    have hbN : bb ≤ N := by omega
    rcases hw5.shape with ⟨_, hnil⟩ | ⟨gp, cap, cur, rfl, hgp1, hgp2, hgp3, hgp4, _, _⟩
    · exfalso; rw [hnil] at hN; simp at hN; omega
    rw [← hN] at hw5 hgp3 ⊢
    have HW5 := Lib.hid hw5
    have q5 := (Since.refl w2).drew.step hb5
    obtain ⟨d0, d1, d2⟩ := HC.out _ T5
    clear s3 s5 hfin hfew hperm hpl hso hN hw5 hb5 hmm hbb
    go_upto_region 7 with fail
    rw [hbq]
    clear d0 d1 d2 hbq
    have hst0 : OwnRow 2 RShare (fun j => (Value.slice none 0 0).ownBlock = some j) w5 33 w2.heap.size (.slice (some ⟨gp, 0, none⟩) N cap) (qsK tv ps 0) := HW5.out.weaken (fun k _ hk => by simp [Value.ownBlock] at hk)
    have HST0 := Lib.hid hst0
    clear hst0
    go_wp2_with fail
    go_loopw [57, 15] (fun i wv wr => ∃ k : Nat, k ≤ bb ∧ i = .int .i64 k ∧ Since w2.heap.size w2 wr ∧ OwnInts wr 3 w2.heap.size wv (wantK tv ps k) ∧ OwnRow 2 RShare (fun j => wv.ownBlock = some j) wr 33 w2.heap.size (.slice (some ⟨gp, 0, none⟩) N cap) (qsK tv ps k) ∧ wv.ownBlock ≠ some gp) (fun i _ _ => bb - (intOf i).toNat)
    case atStart => exact ⟨0, by omega, rfl, q5, OwnInts.nil _ _ _, HST0.out, by simp [Value.ownBlock]⟩
    case round =>
      obtain ⟨k, hk, rfl, hS, hov, hor, hne⟩ := hrel
      have HW := Lib.hid hov
      have HOR := Lib.hid hor
      by_cases hlt : k < bb
      · have hkp : k < ps.length := by rw [← HNL.out]; omega
        have hps : ps[k]? = some ps[k] := List.getElem?_eq_getElem hkp
        have hq := qsK_get (tv := tv) hps k
        rw [if_neg (by omega)] at hq
        have HQS := Lib.hid (qsK_step (tv := tv) hps)
        have HWS := Lib.hid (wantK_step (tv := tv) hps)
        have htl : (ps[k]).2.length = rowsN n s := by
          obtain ⟨j, _, e⟩ := HSO.out.of _ (List.mem_of_getElem? hps)
          rw [e, shareL_len]
        obtain ⟨g', cap', u, cu, e1, m1, m2, i1, hf⟩ := ownShare_at hor hq
        simp only [Value.slice.injEq, Option.some.injEq, Addr.mk.injEq, and_true] at e1
        obtain ⟨rfl, hj1, hj2⟩ := e1
        clear hj1 hj2
        obtain ⟨u', e2, hiv, _⟩ := hf.now
        simp only [List.cons.injEq, true_and, and_true] at e2
        subst e2
        have hql : k < (qsK tv ps k).length := by rw [qsK_len, ← HNL.out]; omega
        have HQL := Lib.hid hql
        have fr0 := hor.free (g := gp) rfl (k * 2)
        have fr1 := hor.free (g := gp) rfl (k * 2 + 1)
        generalize ps[k] = t at *
        have HIV := Lib.hid hiv
        obtain ⟨R, hR⟩ : ∃ R, R = t.2.length := ⟨_, rfl⟩
        have hR24 : R ≤ 24 := by omega
        rw [← hR] at m2 hiv
        have HRL := Lib.hid hR
        have hAl := below_alloc wr (.cells #[.int .i64 t.1, .slice none 0 0] 33)
        have hgpl : gp < wr.heap.size := cell_lt m1
        have hheap := heap_alloc_new wr (.cells #[.int .i64 t.1, .slice none 0 0] 33)
        have p6 := (Since.refl wr).alloc (.cells #[.int .i64 t.1, .slice none 0 0] 33)
        have y1 : (k : Int) < (N : Int) := by omega
        have y2 : (0 : Int) ≤ (k : Int) := by omega
        have HM : Hid (∀ w', Since wr.heap.size wr w' → w'.cell? ⟨gp, k * 2, none⟩ = some (.int .i64 t.1) ∧ w'.cell? ⟨gp, k * 2 + 1, none⟩ = some (.slice u R cu) ∧ w'.frozen? ⟨gp, k * 2, none⟩ = false ∧ w'.frozen? ⟨gp, k * 2 + 1, none⟩ = false) := Lib.hid (fun w' q => ⟨below_cell q.below m1, below_cell q.below m2, below_free q.below m1 fr0, below_free q.below m2 fr1⟩)
        clear hps hq hor hov hf hiv hql fr0 fr1 htl hR hkp
        go_upto_region 11 with fail
        obtain ⟨z1, z2, _, _⟩ := HM.out _ p6
        generalize wr.alloc (.cells #[.int .i64 t.1, .slice none 0 0] 33) = w6 at *
        obtain ⟨Bs, hBs⟩ : ∃ Bs, Bs = wr.heap.size := ⟨_, rfl⟩
        rw [← hBs] at hheap ⊢
        have HBS := Lib.hid hBs
        clear hBs m1 m2
        generalize wr = wo at *
        go_wp2_with fail
        clear z1 z2
        go_loopw [72] (fun i wr => ∃ j : Nat, j ≤ R ∧ i = .int .i64 j ∧ Since wo.heap.size wo wr ∧ ∃ vv, wr.heap[Bs]? = some (.cells #[.int .i64 t.1, vv] 33 (0, 0)) ∧ OwnInts wr 3 (Bs + 1) vv (newL tv k t.2 j)) (fun i _ => R - (intOf i).toNat)
        case atStart => exact ⟨0, by omega, rfl, p6, _, hheap, OwnInts.nil _ _ _⟩
        case round =>
          obtain ⟨j, hj, rfl, hSj, vv, hh, hov⟩ := hrel
          clear hheap p6
          have HH := Lib.hid hh
          have HOV := Lib.hid hov
          by_cases hjl : j < R
          · have hz : t.2[j]? = some t.2[j] := List.getElem?_eq_getElem (by rw [← HRL.out]; exact hjl)
            obtain ⟨bz, oz, e3, kz, iz⟩ := ints_at (HIV.out.stays hSj.below) hz
            subst e3
            have hzd : t.2.getD j 0 = t.2[j] := by rw [List.getD_eq_getElem?_getD, hz]; rfl
            generalize t.2[j] = z at *
            have HZD := Lib.hid hzd
            obtain ⟨m1, m2, _, _⟩ := HM.out _ hSj
            have d1 : wr.cell? ⟨Bs, 1, none⟩ = some vv := by simp [World.cell?, hh]
            obtain ⟨kr, hkr⟩ : ∃ kr, kr = k * R := ⟨_, rfl⟩
            have hkr8 : kr ≤ 8 * 24 := by rw [hkr]; exact Nat.mul_le_mul (by omega) hR24
            have s1 : IntKind.i64.wrap ((k : Int) * (R : Int)) = (kr : Int) := by
              have : (k : Int) * (R : Int) = (kr : Int) := by rw [hkr]; simp
              rw [this]; exact IntWalk.i64_in _ (by omega)
            have HKR := Lib.hid hkr
            have y3 : (j : Int) < (R : Int) := by omega
            have y4 : (0 : Int) ≤ (j : Int) := by omega
            have hnl := newL_len tv k t.2 j
            have hbsw : Bs + 1 ≤ wr.heap.size := by have := (Array.getElem?_eq_some_iff.1 hh).1; omega
            clear hz hzd hkr hh
            go_upto_region 15 with fail
            clear s1 kz
            by_cases hin : kr + j < tv.length
            · have hzz : tv[kr + j]? = some tv[kr + j] := List.getElem?_eq_getElem hin
              have hxs := HX0.out.stays (T2.step (hS.step hSj.below).below).below
              obtain ⟨bx, ox, e4, kx, ix⟩ := ints_at hxs hzz
              subst e4
              have HNV : Hid (newV tv k t.2 j = modV tv[kr + j] 31) := Lib.hid (by unfold newV; rw [← HRL.out, ← HKR.out, if_pos hin, List.getD_eq_getElem?_getD, hzz]; rfl)
              generalize tv[kr + j] = zz at *
              obtain ⟨x0, x1⟩ := ix
              have hmz := modV_bd zz (n := 31) (by omega)
              have im : I64 (modV zz 31) := ⟨by omega, by omega⟩
              have C2 : Hid (∀ w, Calls Try.prog 16 #[.int .i64 zz, .int .i64 31] w fun e w' => e = .returned (.int .i64 (modV zz 31)) ∧ w = w') := Lib.hid (fun w => at_any zz 31 w x0 x1 (by omega) (by omega))
              have hlt1 : ((kr : Int) + (j : Int)) < (tv.length : Int) := by omega
              generalize modV zz 31 = mz at *
              have hov1 := HOV.out.stays (below_alloc wr (.cells #[.int .i64 mz] 3))
              have hlz : (newL tv k t.2 j ++ [mz]).length = j + 1 := by simp [hnl]
              clear hzz hxs
              go_wp2_with (first
                | (go_at_call 16; go_fit (C2.out wr); rintro e w' ⟨rfl, rfl⟩)
                | (at_builtin; refine wpList_append_int rfl _ _ 24 rfl 3 Try.underlying24 info_int (Bs + 1) vv _ rfl hov1 ⟨wr.heap.size, 0, none⟩ 1 mz rfl (by simp) im (by omega) (Nat.le_trans hbsw (below_alloc wr _).size) ?_; intro v' w9 ho9 hg9; obtain ⟨a9, c9, e9, _⟩ := ho9.isInts.opened; rw [hlz] at e9; subst e9; obtain ⟨b1, b2, b3, b4⟩ := boxed_next HH.out HOV.out _ hg9 ho9))
              have S9 := ((hSj.alloc (.cells #[.int .i64 mz] 3)).grown hg9 (fun j hj => by have := (HOV.out.1.lt j hj).1; have := HBS.out; omega)).setCell (a := ⟨Bs, 1, none⟩) (by rw [HBS.out]; exact Nat.le_refl _) (.slice a9 (j + 1) c9)
              have HB3 := Lib.hid b3
              have HB4 := Lib.hid b4
              clear b1 b2 b3 b4 ho9 hg9 hov1 d1 m1 m2
              go_roundw
              case rel => exact ⟨j + 1, by omega, by go_num, S9, _, HB3.out, by rw [newL_step, HNV.out]; exact HB4.out⟩
              case measure => simp [intOf]; omega
            · have HNV : Hid (newV tv k t.2 j = z) := Lib.hid (by unfold newV; rw [← HRL.out, ← HKR.out, if_neg hin, HZD.out])
              have hlt1 : ¬ ((kr : Int) + (j : Int)) < (tv.length : Int) := by omega
              have hov1 := HOV.out.stays (below_alloc wr (.cells #[.int .i64 z] 3))
              have hlz : (newL tv k t.2 j ++ [z]).length = j + 1 := by simp [hnl]
              go_wp2_with (at_builtin; refine wpList_append_int rfl _ _ 24 rfl 3 Try.underlying24 info_int (Bs + 1) vv _ rfl hov1 ⟨wr.heap.size, 0, none⟩ 1 z rfl (by simp) iz (by omega) (Nat.le_trans hbsw (below_alloc wr _).size) ?_; intro v' w9 ho9 hg9; obtain ⟨a9, c9, e9, _⟩ := ho9.isInts.opened; rw [hlz] at e9; subst e9; obtain ⟨b1, b2, b3, b4⟩ := boxed_next HH.out HOV.out _ hg9 ho9)
              have S9 := ((hSj.alloc (.cells #[.int .i64 z] 3)).grown hg9 (fun j hj => by have := (HOV.out.1.lt j hj).1; have := HBS.out; omega)).setCell (a := ⟨Bs, 1, none⟩) (by rw [HBS.out]; exact Nat.le_refl _) (.slice a9 (j + 1) c9)
              have HB3 := Lib.hid b3
              have HB4 := Lib.hid b4
              clear b1 b2 b3 b4 ho9 hg9 hov1 d1 m1 m2
              go_roundw
              case rel => exact ⟨j + 1, by omega, by go_num, S9, _, HB3.out, by rw [newL_step, HNV.out]; exact HB4.out⟩
              case measure => simp [intOf]; omega
          · obtain rfl : R = j := by omega
            obtain ⟨av, cv, ev, _⟩ := hov.isInts.opened
            rw [newL_len] at ev
            subst ev
            have HVI := Lib.hid hov.isInts
            have HVL := Lib.hid (fun j hj => (hov.lies j hj).1)
            have HIR : Hid (IsInts wo (.slice u R cu) t.2) := Lib.hid (by rw [HRL.out]; exact HIV.out)
            obtain ⟨m1, m2, f1, f2⟩ := HM.out _ hSj
            have b0 : wr.cell? ⟨Bs, 0, none⟩ = some (.int .i64 t.1) := by simp [World.cell?, hh]
            have b1 : wr.cell? ⟨Bs, 1, none⟩ = some (.slice av R cv) := by simp [World.cell?, hh]
            have HS : Hid (∀ w', Since wr.heap.size wr w' → w'.cell? ⟨Bs, 0, none⟩ = some (.int .i64 t.1) ∧ w'.cell? ⟨Bs, 1, none⟩ = some (.slice av R cv) ∧ w'.cell? ⟨gp, k * 2, none⟩ = some (.int .i64 t.1) ∧ w'.cell? ⟨gp, k * 2 + 1, none⟩ = some (.slice u R cu)) := Lib.hid (fun w' q => ⟨below_cell q.below b0, below_cell q.below b1, below_cell q.below m1, below_cell q.below m2⟩)
            have s3 := HS.out wr.drew (Since.refl wr).drew
            obtain ⟨T, hT⟩ : ∃ T, T = sameV t.1 t.1 (newL tv k t.2 R) t.2 := ⟨_, rfl⟩
            have HT := Lib.hid hT
            have hWS : wantK tv ps (k + 1) = wantK tv ps k ++ (if T then [] else [t.1]) := by rw [HWS.out, hT, HRL.out]; rfl
            have HWS2 := Lib.hid hWS
            have hwl := wantK_len tv ps k
            have hgB : gp < Bs := by rw [HBS.out]; exact hgpl
            have hWB : w2.heap.size ≤ Bs := by rw [HBS.out]; exact hS.2
            have HWL : Hid (∀ j, u15.ownBlock = some j → j < Bs) := Lib.hid (fun j hj => by rw [HBS.out]; exact (HW.out.1.lt j hj).2)
            have HFR : Hid (∀ (w : World) (E : Nat → Prop) (m : Nat), IsInts w (.slice av R cv) (newL tv k t.2 R) → (∀ j, Value.lies (.slice av R cv) j → newL tv k t.2 R ≠ [] → j < m) → (∀ j, E j → j < Bs ∨ m ≤ j) → Framed (fun j => some gp = some j ∨ E j) RShare w [.int .i64 t.1, .slice av R cv] (newT tv k t)) := Lib.hid (fun w E m hi hm hE w' hw' => ⟨_, rfl, by
              have h3 := hi.framed (D := fun j => some gp = some j ∨ E j) (fun j hj hl hd => by
                have h1 := HVL.out j hj
                have h2 := hm j hj hl
                rcases hd with hd | hd
                · cases hd; omega
                · have := hE j hd; omega) hw'
              show IsInts w' (.slice av R cv) (newL tv k t.2 t.2.length)
              rw [← HRL.out]; exact h3, i1⟩)
            clear hT hh b0 b1 m1 m2 f1 f2 hov hWS hj hjl
            go_upto_region 19 with fail
            go_region_held3 (fun w' => w'.cell? ⟨Bs, 0, none⟩ = some (.int .i64 t.1) ∧ w'.cell? ⟨Bs, 1, none⟩ = some (.slice av R cv) ∧ w'.cell? ⟨gp, k * 2, none⟩ = some (.int .i64 t.1) ∧ w'.cell? ⟨gp, k * 2 + 1, none⟩ = some (.slice u R cu)) (first | exact s3 | exact s4) (first
              | (go_at_call 17; go_fit (Same_any t.1 t.1 _ _ (newL tv k t.2 R) t.2 wr.drew (HVI.out.stays (Since.refl wr).drew.below) (HIR.out.stays hSj.drew.below)); rintro e w8 ⟨rfl, hb8⟩; rw [← HT.out]; have p8 := (Since.refl wr).drew.step hb8; have s4 := HS.out w8 p8))
            all_goals
              obtain ⟨d0, d1, d2, d3⟩ := s4
              have P8 := hSj.step p8.below
              obtain ⟨_, _, f1, f2⟩ := HM.out _ P8
              have HV8 := Lib.hid (HVI.out.stays p8.below)
              have HO8 := Lib.hid (HOR.out.stays P8.below)
              have HW8 := Lib.hid (HW.out.stays P8.below)
              clear s3 hb8
              cases T with
              | true =>
                have hfin := HO8.out.setElem HQL.out (r := [.int .i64 t.1, .slice av R cv]) (x := newT tv k t) rfl (by intro x hx; simp at hx; rcases hx with rfl | rfl <;> rfl) (HFR.out w8 _ w8.heap.size HV8.out HV8.out.block_lt (fun j hj => Or.inl (HWL.out j hj)))
                rw [← HQS.out] at hfin
                have hww := (HW8.out.kept (grown_setCell w8 ⟨gp, k * 2, none⟩ (.int .i64 t.1)) (Or.inr hne)).kept (grown_setCell _ ⟨gp, k * 2 + 1, none⟩ (.slice av R cv)) (Or.inr hne)
                have S9 := ((hS.step P8.below).setCell (a := ⟨gp, k * 2, none⟩) hgp1 (.int .i64 t.1)).setCell (a := ⟨gp, k * 2 + 1, none⟩) hgp1 (.slice av R cv)
                have HFN := Lib.hid hfin
                have HWW := Lib.hid hww
                clear hfin hww
                go_wp2_with fail
                go_roundw
                case rel => exact ⟨k + 1, by omega, by go_num, S9, by rw [HWS2.out]; simpa using HWW.out, HFN.out, hne⟩
                case measure => simp [intOf]; omega
              | false =>
                have hwa := HW8.out.stays (below_alloc w8 (.cells #[.int .i64 t.1] 3))
                have hBw8 : Bs < w8.heap.size := cell_lt d0
                go_wp2_with (at_builtin; refine wpList_append_int_at rfl _ _ 24 rfl 3 Try.underlying24 info_int w2.heap.size u15 _ rfl hwa ⟨w8.heap.size, 0, none⟩ 1 t.1 rfl (by simp) i1 (by omega) (Nat.le_trans (hS.step P8.below).2 (below_alloc w8 _).size) ?_; intro v' w9 ho9 hg9 hat9; have g0 := hg9.cell (alloc_cell d0 _) (by intro e; have := HWL.out Bs e.symm; omega); have g1 := hg9.cell (alloc_cell d1 _) (by intro e; have := HWL.out Bs e.symm; omega); have g2 := hg9.cell (alloc_cell d2 _) (fun e => hne e.symm); have g3 := hg9.cell (alloc_cell d3 _) (fun e => hne e.symm); have g4 := grown_free hg9 (alloc_cell d2 _) (alloc_free d2 f1 _) (fun e => hne e.symm); have g5 := grown_free hg9 (alloc_cell d3 _) (alloc_free d3 f2 _) (fun e => hne e.symm))
                have hne9 : v'.ownBlock ≠ some gp := by
                  rcases hat9 with h | h
                  · rw [h]; exact hne
                  · rw [h]; intro e; cases e; have h7 := (below_alloc w8 (.cells #[.int .i64 t.1] 3)).size; omega
                have hv9 : IsInts w9 (.slice av R cv) (newL tv k t.2 R) := (HV8.out.stays (below_alloc w8 (.cells #[.int .i64 t.1] 3))).framed (fun j hj _ hd => by have h1 := HVL.out j hj; have h2 := HWL.out j hd; omega) (Dirty.of_grown hg9)
                have ho10 := (HO8.out.stays (below_alloc w8 (.cells #[.int .i64 t.1] 3))).moved (E' := fun j => v'.ownBlock = some j) (Dirty.of_grown hg9) (fun j hj e => by cases hj; exact hne e) (fun j hj e => by
                  rcases hat9 with h | h
                  · rw [h] at e; exact Or.inl e
                  · rw [h] at e; cases e; omega)
                have hfin := ho10.setElem HQL.out (r := [.int .i64 t.1, .slice av R cv]) (x := newT tv k t) rfl (by intro x hx; simp at hx; rcases hx with rfl | rfl <;> rfl) (HFR.out w9 _ w8.heap.size hv9 HV8.out.block_lt (fun j hj => by
                  rcases hat9 with h | h
                  · rw [h] at hj; exact Or.inl (HWL.out j hj)
                  · right; rw [h] at hj; cases hj; exact (below_alloc w8 _).size))
                rw [← HQS.out] at hfin
                have hww := (ho9.kept (grown_setCell w9 ⟨gp, k * 2, none⟩ (.int .i64 t.1)) (Or.inr hne9)).kept (grown_setCell _ ⟨gp, k * 2 + 1, none⟩ (.slice av R cv)) (Or.inr hne9)
                have S9 := ((((hS.step P8.below).alloc (.cells #[.int .i64 t.1] 3)).own hwa hg9).setCell (a := ⟨gp, k * 2, none⟩) hgp1 (.int .i64 t.1)).setCell (a := ⟨gp, k * 2 + 1, none⟩) hgp1 (.slice av R cv)
                have HFN := Lib.hid hfin
                have HWW := Lib.hid hww
                clear hfin hww ho10 hv9 ho9 hg9 hat9 g0 g1 g2 g3 g4 g5 d0 d1 d2 d3 f1 f2 hwa
                go_wp2_with fail
                go_roundw
                case rel => exact ⟨k + 1, by omega, by go_num, S9, by rw [HWS2.out]; simpa using HWW.out, HFN.out, hne9⟩
                case measure => simp [intOf]; omega
      · obtain rfl : bb = k := by omega
        have hor2 := HOR.out
        obtain ⟨hFR, hFE, hFB, hFW⟩ := HF.out
        have HQ1 := Lib.hid (show eqInts data data = true by simp [eqInts])
        have HQ2 := Lib.hid (show eqInts (sortV (wantK tv ps bb)) (sortV (wantK tv ps bb)) = true by simp [eqInts])
        have HFR2 := Lib.hid hFR
        have HFE2 := Lib.hid hFE
        have HFB2 := Lib.hid hFB
        have HFW2 := Lib.hid (show mostW n o s (qsK tv ps bb) = sortV (wantK tv ps bb) from hFW)
        have hsort : Calls Try.prog 18 #[u15] wr fun e w' => e = .returned (.tuple #[]) ∧ OwnInts w' 3 w2.heap.size u15 (sortV (wantK tv ps bb)) ∧ OwnRow 2 RShare (fun j => u15.ownBlock = some j) w' 33 w2.heap.size (.slice (some ⟨gp, 0, none⟩) N cap) (qsK tv ps bb) ∧ Since w2.heap.size w2 w' := by
          refine (SortInts_any _ _ _ wr HW.out).mono ?_
          rintro e w' ⟨he, h1, h2⟩
          exact ⟨he, h1, HOR.out.later (Dirty.of_grown h2) (fun j hj e => by cases hj; exact hne e), hS.own HW.out h2⟩
        have HSORT := Lib.hid hsort
        clear hsort hov hor hor2 hFR hFE hFB hFW
        go_upto_region 24 with (go_at_call 18; go_fit HSORT.out; rintro e w6 ⟨rfl, ho6, hr6, S6⟩)
        have T6 := T2.step S6.below
        obtain ⟨d0, d1, d2⟩ := HC.out _ T6
        have HO6 := Lib.hid ho6.isInts
        obtain ⟨aw, cw, rfl, _⟩ := ho6.isInts.opened
        have hsh := isShares_of_row hr6.isRow
        have hql := qsK_len tv ps bb
        have hNE : N = (qsK tv ps bb).length := by rw [hql]; exact HNL.out
        have HNE := Lib.hid hNE
        clear ho6 hr6 hne hS hql hNE
        go_upto_region 25 with (go_at_call 19; go_fit (Most_ok n o s _ (qsK tv ps bb) w6 hsh HFR2.out); rintro e w7 ⟨⟨vb, vw, rfl, hb7, hw7⟩, hb⟩; rw [HFE2.out])
        rw [HFB2.out] at hb7
        rw [HFW2.out] at hw7
        have T7 := T6.step hb
        have HB7 := Lib.hid hb7
        have HW7 := Lib.hid hw7
        have HO7 := Lib.hid (HO6.out.stays hb)
        obtain ⟨ab, cb, rfl, _⟩ := hb7.opened
        obtain ⟨ay, cy, rfl, _⟩ := hw7.opened
        clear d0 d1 d2 hb hb7 hw7 hsh
        go_wp2_with fail
        refine (Equal_ints _ _ data data w7 HB7.out (HD0.out.stays T7.below)).mono ?_
        rintro e w8 ⟨rfl, hb8⟩
        rw [HQ1.out]
        have T8 := T7.step hb8
        have HW8 := Lib.hid (HW7.out.stays hb8)
        have HO8 := Lib.hid (HO7.out.stays hb8)
        clear hb8
        go_wp2_with fail
        refine (Equal_ints _ _ (sortV (wantK tv ps bb)) (sortV (wantK tv ps bb)) w8 HW8.out HO8.out).mono ?_
        rintro e w9 ⟨rfl, hb9⟩
        rw [HQ2.out]
        have T9 := T8.step hb9
        clear hb9
        go_wp2_with fail
        go_ret
        exact ⟨rfl, (S0.step T9.below).below⟩

theorem VoteFinds_walk (v0 : Value) (p : Plan3) (v1 : Value) (data : List Int) (v2 : Value) (order : List Int) (v3 : Value) (many : Int) (v4 : Value) (tv : List Int) (W : World) (h0 : IsPlan v0 p) (h1 : IsInts W v1 data) (h2 : IsInts W v2 order) (h3 : IsInt v3 many) (h4 : IsInts W v4 tv) :
    Calls Try.prog 3 #[v0, v1, v2, v3, v4] W fun e w' => e = .returned (.bool true) ∧ Below W.heap.size W w' := by
  obtain ⟨rfl, _⟩ := h0
  obtain ⟨n, o, s⟩ := p
  obtain ⟨rfl, hm⟩ := h3
  by_cases h : splitE n o s data = 0
  · obtain ⟨n, o, s, rfl, rfl, rfl⟩ := plan_nat (splitE_zero h).1
    exact voteFinds_ok n o s many v1 v2 v4 data order tv W h1 h2 h4 hm h
  · exact voteFinds_no n o s many v1 v2 v4 data order tv W h1 h2 h4 h
end Go.Proofs.Ytnpdojjffbhalaa
