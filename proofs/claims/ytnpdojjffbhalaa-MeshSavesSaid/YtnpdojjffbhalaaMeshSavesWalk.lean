/-
  What was saved is restored, whoever goes, as long as enough shares are there.
-/
import Derived.Test.YtnpdojjffbhalaaWovens
import Derived.Test.YtnpdojjffbhalaaReadMesh
import Derived.Test.YtnpdojjffbhalaaLaws
import Derived.Test.YtnpdojjffbhalaaVotes
import Derived.Deep.DeepCutAuto
import Derived.Deep.LoopGhost
namespace Go.Proofs.Ytnpdojjffbhalaa
open Go.RowKit

/-- Who goes, of the first k. -/
def goneP (gone : List Bool) (i : Nat) (p : Pr) : Pr := (p.1 && !(gone.getD i false), p.2)
def goneT (gone : List Bool) (qs : List Pr) (k : Nat) : List Pr := (qs.take k).mapIdx (goneP gone)
def goneL (gone : List Bool) (qs : List Pr) (k : Nat) : List Pr := goneT gone qs k ++ qs.drop k
theorem goneT_len {gone : List Bool} {qs : List Pr} {k : Nat} (hk : k ≤ qs.length) : (goneT gone qs k).length = k := by simp [goneT]; omega
theorem goneL_len {gone : List Bool} {qs : List Pr} {k : Nat} (hk : k ≤ qs.length) : (goneL gone qs k).length = qs.length := by simp [goneL, goneT]; omega
theorem goneL_zero (gone : List Bool) (qs : List Pr) : goneL gone qs 0 = qs := by simp [goneL, goneT]
theorem goneT_step {gone : List Bool} {qs : List Pr} {k : Nat} {p : Pr} (h : qs[k]? = some p) : goneT gone qs (k + 1) = goneT gone qs k ++ [goneP gone k p] := by
  have hk := (List.getElem?_eq_some_iff.1 h).1
  unfold goneT
  rw [take_get h, List.mapIdx_concat, List.length_take, Nat.min_eq_left (by omega)]
theorem goneL_get {gone : List Bool} {qs : List Pr} {k : Nat} {p : Pr} (h : qs[k]? = some p) : (goneL gone qs k)[k]? = some p := by
  have hk := (List.getElem?_eq_some_iff.1 h).1
  unfold goneL
  rw [List.getElem?_append_right (by rw [goneT_len (by omega)]; omega), goneT_len (by omega), Nat.sub_self, List.getElem?_drop]
  exact h
theorem goneL_step {gone : List Bool} {qs : List Pr} {k : Nat} {p : Pr} (h : qs[k]? = some p) : (goneL gone qs k).set k (goneP gone k p) = goneL gone qs (k + 1) := by
  have hk := (List.getElem?_eq_some_iff.1 h).1
  unfold goneL
  rw [List.set_append_right _ _ (by rw [goneT_len (by omega)]; omega), goneT_len (by omega), Nat.sub_self, drop_get h, List.set_cons_zero, goneT_step h]
  simp
theorem goneL_same {gone : List Bool} {qs : List Pr} {k : Nat} {p : Pr} (h : qs[k]? = some p) (hg : gone.getD k false = false) : goneL gone qs (k + 1) = goneL gone qs k := by
  have e : goneP gone k p = p := by unfold goneP; rw [hg]; simp
  rw [← goneL_step h, e, set_same (goneL_get h)]
theorem goneL_all (gone : List Bool) (qs : List Pr) : goneL gone qs qs.length = goneT gone qs qs.length := by simp [goneL]
theorem goneT_kept {gone : List Bool} {qs : List Pr} {k : Nat} {z : Pr} (h : (goneT gone qs qs.length)[k]? = some z) : ∃ q, qs[k]? = some q ∧ z.2 = q.2 := by
  unfold goneT at h
  rw [List.take_length, List.getElem?_mapIdx] at h
  cases hq : qs[k]? with
  | none => rw [hq] at h; cases h
  | some q => rw [hq] at h; cases h; exact ⟨q, rfl, rfl⟩
theorem PeerOk.turn {b : List Ver} {p q : Pr} (h : PeerOk b p) (e : q.2 = p.2) : PeerOk b q := ⟨h.book, by rw [e]; exact h.room, by rw [e]; exact h.few, by rw [e]; exact h.each, by rw [e]; exact h.rise⟩
theorem gone_place {b : List Ver} {gone : List Bool} {qs : List Pr} (h : placeV b qs = 0) : placeV b (goneT gone qs qs.length) = 0 := by
  obtain ⟨h1, h2, h3⟩ := placeV_ok.1 h
  refine placeV_ok.2 ⟨h1, by rw [goneT_len (Nat.le_refl _)]; exact h2, fun z hz => ?_⟩
  obtain ⟨k, hk⟩ := List.getElem?_of_mem hz
  obtain ⟨q, hq, e⟩ := goneT_kept hk
  exact (h3 q (List.mem_of_getElem? hq)).turn e
theorem hasB_find (v : Int) (t : Bool) (r : Int) (ks : List Kp) : hasB v (t, r, ks) = (t && decide (0 ≤ findV v ks 0)) := rfl

set_option linter.unusedSimpArgs false in
set_option maxRecDepth 100000 in
set_option maxHeartbeats 8000000 in
theorem MeshSaves_walk (vm : Value) (m : Me) (vd : Value) (data : List Int) (vp : Value) (pr : List Int) (vpl : Value) (p : Plan3) (vg : Value) (gone : List Bool) (vo : Value) (old : Int) (W : World) (hm : IsMesh W vm m) (hd : IsInts W vd data) (hp : IsInts W vp pr) (hpl : IsPlan vpl p) (hg : IsBools W vg gone) (ho : IsInt vo old) :
    Calls Try.prog 7 #[vm, vd, vp, vpl, vg, vo] W fun e w' => e = .returned (.bool true) ∧ Below W.heap.size W w' := by
  obtain ⟨vb, u, rfl, hb, hu⟩ := hm
  obtain ⟨rfl, hni⟩ := ho
  obtain ⟨rfl, i1, i2, i3⟩ := hpl
  obtain ⟨b, ps⟩ := m
  obtain ⟨n, o, s⟩ := p
  simp only at hb hu i1 i2 i3
  obtain ⟨a, c, rfl, hcb, ⟨hbm, hbc, _⟩, _⟩ := hb.opened
  obtain ⟨a', c', rfl, hcu, ⟨hum, huc, _⟩, _⟩ := hu.opened
  obtain ⟨ad, cd, rfl, _⟩ := hd.opened
  obtain ⟨ap, cp, rfl, _⟩ := hp.opened
  obtain ⟨ag, cg, rfl, hcg, ⟨hgc, _⟩, _⟩ := id hg
  have S0 := ((Since.refl W).alloc (.cells #[.slice a b.length c, .slice a' ps.length c'] 53)).alloc (.cells #[.int .i64 n, .int .i64 o, .int .i64 s] 23)
  obtain ⟨w0, hw0⟩ : ∃ w0, w0 = (W.alloc (.cells #[.slice a b.length c, .slice a' ps.length c'] 53)).alloc (.cells #[.int .i64 n, .int .i64 o, .int .i64 s] 23) := ⟨_, rfl⟩
  have c0 : w0.cell? ⟨W.heap.size, 0, none⟩ = some (.slice a b.length c) := by rw [hw0]; go_simp
  have c1 : w0.cell? ⟨W.heap.size, 1, none⟩ = some (.slice a' ps.length c') := by rw [hw0]; go_simp
  have l0 : w0.cell? ⟨W.heap.size + 1, 0, none⟩ = some (.int .i64 n) := by rw [hw0]; go_simp
  have l1 : w0.cell? ⟨W.heap.size + 1, 1, none⟩ = some (.int .i64 o) := by rw [hw0]; go_simp
  rw [← hw0] at S0
  have HW := Lib.hid hw0
  clear hw0
  obtain ⟨B, hB⟩ : ∃ B, B = W.heap.size := ⟨_, rfl⟩
  obtain ⟨Bl, hBl⟩ : ∃ B, B = W.heap.size + 1 := ⟨_, rfl⟩
  rw [← hBl] at l0 l1
  rw [← hB] at c0 c1
  have HB := Lib.hid hB
  have HBl := Lib.hid hBl
  clear hB hBl
  have hb0 := hb.stays RVer.stays S0.below
  have hu0 := hu.stays RPeer.stays S0.below
  have HD := Lib.hid (hd.stays S0.below)
  have HP := Lib.hid (hp.stays S0.below)
  have HG := Lib.hid (IsLong.later hg RB1.stays (Dirty.old S0.below _))
  have HS := Lib.hid (Save_any _ _ _ _ b ps data pr n o w0 hb0 hu0 HD.out HP.out i1 i2)
  clear hb hu hd hp hg
  by_cases hE : saveE (b, ps) data pr n o = 0
  · obtain ⟨n', o', qs, cs, rfl, rfl, hC, hS⟩ := save_zero hE
    have HE := Lib.hid hE
    have HC := Lib.hid hC
    have hb12 : b.length < 12 := by
      have := (bookV_ok.1 (placeV_ok.1 hS.book).1).top
      simp at this
      omega
    have hq8 : qs.length ≤ 8 := (placeV_ok.1 hS.right).2.1
    have hpn := planV_bd (splitE_ok hS.split).1
    have HM : Hid (meshV (b ++ [newV data pr n' o'], qs) = 0) := Lib.hid hS.right
    have HEL := Lib.hid (fun k (hk : k < b.length) => hS.elder hk)
    have HRS := Lib.hid (hS.restored (gone_place (gone := gone) hS.right) (fun k z hk => by obtain ⟨q, h1, h2⟩ := goneT_kept hk; exact ⟨q, h1, by rw [h2]⟩))
    simp only at HEL HRS
    have HLB : Hid ((b ++ [newV data pr n' o']).length = b.length + 1) := Lib.hid (by simp)
    generalize b ++ [newV data pr n' o'] = b' at *
    have hcnt := fun k => List.countP_le_length (p := hasB (b.length : Int)) (l := goneT gone qs k)
    clear hE hC hS
    go_enter Try.func7, Try.ntmps7
    go_upto_region 1 with fail
    rw [← HW.out, ← HBl.out, ← HB.out]
    go_upto_region 2 with (go_at_call 26; go_fit HS.out; rintro e w1 ⟨⟨u1, u2, rfl, ho1⟩, hb1⟩; rw [HE.out]; rw [HC.out] at ho1; obtain ⟨a1, k1, ev1, _⟩ := ho1.vers.opened; simp only [HLB.out] at ev1; subst ev1; obtain ⟨a2, k2, rfl, hk2, ⟨_, hk2m, _⟩, _⟩ := ho1.peers.opened)
    have T1 := (Since.refl w0).step hb1
    have BB := below_alloc w1 (.cells #[.slice a1 (b.length + 1) k1, .slice a2 qs.length k2] 53)
    have T2 := T1.alloc (.cells #[.slice a1 (b.length + 1) k1, .slice a2 qs.length k2] 53)
    have ho2 := ho1.toT.stays BB
    have x0 : (w1.alloc (.cells #[.slice a1 (b.length + 1) k1, .slice a2 qs.length k2] 53)).cell? ⟨w1.heap.size, 0, none⟩ = some (.slice a1 (b.length + 1) k1) := by go_simp
    have x1 : (w1.alloc (.cells #[.slice a1 (b.length + 1) k1, .slice a2 qs.length k2] 53)).cell? ⟨w1.heap.size, 1, none⟩ = some (.slice a2 qs.length k2) := by go_simp
    generalize w1.alloc (.cells #[.slice a1 (b.length + 1) k1, .slice a2 qs.length k2] 53) = w2 at *
    obtain ⟨Bx, hBx⟩ : ∃ Bx, Bx = w1.heap.size := ⟨_, rfl⟩
    have hw01 := T1.2
    rw [← hBx] at x0 x1 ho2 hw01 ⊢
    clear hBx ho1 hb1 BB T1
    have HF : Hid (∀ w', Since w0.heap.size w0 w' → w'.cell? ⟨B, 0, none⟩ = some (.slice a b.length c) ∧ w'.cell? ⟨B, 1, none⟩ = some (.slice a' ps.length c') ∧ w'.cell? ⟨Bl, 0, none⟩ = some (.int .i64 (n' : Int)) ∧ IsVers w' (.slice a b.length c) b ∧ IsPeers w' (.slice a' ps.length c') ps) := Lib.hid (fun w' q => ⟨below_cell q.below c0, below_cell q.below c1, below_cell q.below l0, hb0.stays RVer.stays q.below, hu0.stays RPeer.stays q.below⟩)
    have HO2 := Lib.hid ho2
    clear c0 c1 l0 l1 ho2
    go_upto_region 5 with (first
      | (go_at_call 27; go_fit (woven_any w2); rintro e w3 ⟨rfl, hb3⟩; have T3 := T2.step hb3; obtain ⟨d0, d1, d2, _, _⟩ := HF.out w3 T3))
    have x0 := below_cell hb3 x0
    have x1 := below_cell hb3 x1
    have HO3 := Lib.hid (HO2.out.stays hb3)
    clear hb3 T2 d1 d2
    go_upto_region 7 with (first
      | (go_at_call 28; go_fit (meshCheck_any _ b' _ qs w3 HO3.out.vers HO3.out.peers); rintro e w4 ⟨rfl, hb4⟩; rw [HM.out]; have x0 := below_cell hb4 x0; have x1 := below_cell hb4 x1))
    have HO4 := Lib.hid (HO3.out.stays hb4)
    have T4 := T3.step hb4
    clear hb4
    go_upto_if 61 with fail
    go_cut [] (fun wx => ∃ wz, wz = wx ∧ Since w4.heap.size w4 wx)
    case first =>
      by_cases hz : b.length = 0
      · have hz' : decide (0 < b.length) = false := by simp [hz]
        have hz2 : decide ((0 : Int) < (b.length : Int)) = false := by simp [hz]
        have hz3 : ¬ 0 < b.length := by omega
        clear hz
        go_wp2_with fail
        go_meet
        exact ⟨_, rfl, Since.refl _⟩
      · have hz' : 0 < b.length := by omega
        obtain ⟨hk0, hk1⟩ := modV_bd old (show (1 : Int) ≤ (b.length : Int) by omega)
        obtain ⟨kk, hkk⟩ := Int.eq_ofNat_of_zero_le hk0
        have hkb : kk < b.length := by omega
        obtain ⟨l1, l2, l3⟩ := HEL.out kk hkb
        have L1 := Lib.hid l1
        have L2 := Lib.hid l2
        have L3 := Lib.hid l3
        have hAT := Lib.hid (at_any old (b.length : Int) w4 hni.1 hni.2 (by omega) (by omega))
        have HKK := Lib.hid hkk
        clear hz hk0 hk1 hkk l1 l2 l3
        obtain ⟨f0, f1, _, fb, fu⟩ := HF.out w4 T4
        go_upto_region 10 with (first
          | (go_at_call 16; go_fit hAT.out; rintro e w' ⟨rfl, rfl⟩; rw [HKK.out])
          | (go_at_call 29; go_fit (Restore_any _ b _ ps (kk : Int) w4 fb fu); rintro e w5 ⟨⟨y1, y2, rfl, hi1, hi2⟩, hb5⟩; obtain ⟨aa, ca, rfl, _⟩ := hi1.opened; obtain ⟨ab, cb, rfl, _⟩ := hi2.opened))
        have x0 := below_cell hb5 x0
        have x1 := below_cell hb5 x1
        have HO5 := Lib.hid (HO4.out.stays hb5)
        have T5 := (Since.refl w4).step hb5
        clear f0 f1 fb fu d0 hb5
        go_upto_region 11 with (first
          | (go_at_call 29; go_fit (Restore_any _ b' _ qs (kk : Int) w5 HO5.out.vers HO5.out.peers); rintro e w6 ⟨⟨y3, y4, rfl, hi3, hi4⟩, hb6⟩; rw [L1.out]; rw [L2.out] at hi3; rw [L3.out] at hi4; obtain ⟨ac, cc, rfl, _⟩ := hi3.opened; obtain ⟨ae, ce, rfl, _⟩ := hi4.opened))
        have T6 := T5.step hb6
        have j1 := hi1.stays hb6
        have j2 := hi2.stays hb6
        clear x0 x1 hi1 hi2 hb6 L1 L2 L3
        generalize restE (b, ps) (kk : Int) = E1 at *
        generalize restB (b, ps) (kk : Int) = D1 at *
        generalize restW (b, ps) (kk : Int) = Q1 at *
        have hEE : (E1 != E1) = false := by simp
        have HDD : Hid (eqInts D1 D1 = true) := Lib.hid (by simp [eqInts])
        have HQQ : Hid (eqInts Q1 Q1 = true) := Lib.hid (by simp [eqInts])
        go_wp2_with fail
        refine (Equal_ints _ _ D1 D1 _ j1 hi3).mono ?_
        rintro e w7 ⟨rfl, hb7⟩
        rw [HDD.out]
        have T7 := T6.step hb7
        have j3 := j2.stays hb7
        have j4 := hi4.stays hb7
        clear j1 j2 hi3 hi4 hb7
        go_wp2_with fail
        refine (Equal_ints _ _ Q1 Q1 _ j3 j4).mono ?_
        rintro e w8 ⟨rfl, hb8⟩
        rw [HQQ.out]
        have T8 := T7.step hb8
        go_wp2_with fail
        go_meet
        exact ⟨_, rfl, T8⟩
    case rest =>
      obtain ⟨wc, rfl, hSc⟩ := hcut
      have x0 := below_cell hSc.below x0
      have x1 := below_cell hSc.below x1
      have HO5 := Lib.hid (HO4.out.stays hSc.below)
      have T5 := T4.step hSc.below
      have HGW : Hid (∀ w', Since w0.heap.size w0 w' → IsBools w' (.slice ag gone.length cg) gone) := Lib.hid (fun w' q => IsLong.later HG.out RB1.stays (Dirty.old q.below _))
      clear d0 hSc
      go_wp2_with fail
      go_loopw [97, 22] (fun i th wr => ∃ k : Nat, k ≤ qs.length ∧ i = .int .i64 k ∧ th = .int .i64 (((goneT gone qs k).countP (hasB (b.length : Int)) : Nat) : Int) ∧ Since w0.heap.size w0 wr ∧ OwnT (fun k => k < w0.heap.size) wr w0.heap.size Bx (.slice a1 (b.length + 1) k1) (.slice a2 qs.length k2) (b', goneL gone qs k) ∧ wr.cell? ⟨Bx, 0, none⟩ = some (.slice a1 (b.length + 1) k1) ∧ wr.cell? ⟨Bx, 1, none⟩ = some (.slice a2 qs.length k2)) (fun i _ _ => qs.length - (intOf i).toNat)
      case atStart => exact ⟨0, by omega, rfl, by simp [goneT], T5, by rw [goneL_zero]; exact HO5.out, x0, x1⟩
      case round =>
        obtain ⟨k, hk, rfl, rfl, hS, hown, z0, z1⟩ := hrel
        clear x0 x1 T5
        by_cases hlt : k < qs.length
        · have hget := List.getElem?_eq_getElem hlt
          obtain ⟨g, cg2, u, cu, ev, hg1, hg2, c0, c1, c2, hkp, j1, fz, hset, _⟩ := hown.peer (k := k) (p := qs[k]) (goneL_get hget)
          simp only [Value.slice.injEq] at ev
          obtain ⟨rfl, hq9, rfl⟩ := ev
          clear hq9
          have hBxg : Bx ≠ g := by omega
          have HCN := Lib.hid (show (goneT gone qs (k + 1)).countP (hasB (b.length : Int)) = (goneT gone qs k).countP (hasB (b.length : Int)) + (if hasB (b.length : Int) (goneP gone k qs[k]) = true then 1 else 0) by rw [goneT_step hget, List.countP_append, List.countP_singleton])
          have HST := Lib.hid (goneL_step (gone := gone) hget)
          have HSA := Lib.hid (goneL_same (gone := gone) hget)
          have hN : (goneT gone qs k).countP (hasB (b.length : Int)) ≤ 8 := Nat.le_trans (hcnt k) (by rw [goneT_len hk]; omega)
          generalize (goneT gone qs k).countP (hasB (b.length : Int)) = N at *
          generalize qs[k] = p at *
          obtain ⟨t, r, ks⟩ := p
          simp only at c0 c1 c2 hkp j1 hset
          have hgb := HGW.out wr hS
          by_cases hG : gone.getD k false = true
          · have hgl : k < gone.length := by
              rcases Nat.lt_or_ge k gone.length with h | h
              · exact h
              · rw [List.getD_eq_getElem?_getD, List.getElem?_eq_none h] at hG; cases hG
            have hgt : gone[k]? = some true := by
              rw [List.getD_eq_getElem?_getD, List.getElem?_eq_getElem hgl] at hG
              rw [List.getElem?_eq_getElem hgl]
              simpa using hG
            obtain ⟨gg, og, rfl, hgc'⟩ := bools_at hgb hgt
            have HCN2 : Hid ((goneT gone qs (k + 1)).countP (hasB (b.length : Int)) = N) := Lib.hid (by rw [HCN.out, if_neg (by unfold goneP hasB; simp only; rw [hG]; simp)]; rfl)
            have HOW := Lib.hid (hset false)
            rw [show ((false, r, ks) : Pr) = goneP gone k (t, r, ks) by unfold goneP; rw [hG]; simp, HST.out] at HOW
            have f0 := fz (k * 3)
            have y0 : (wr.setCell ⟨g, k * 3, none⟩ (.bool false)).cell? ⟨Bx, 0, none⟩ = some (.slice a1 (b.length + 1) k1) := (cell_set_other _ _ _ _ hBxg).trans z0
            have y1 : (wr.setCell ⟨g, k * 3, none⟩ (.bool false)).cell? ⟨Bx, 1, none⟩ = some (.slice (some ⟨g, 0, none⟩) qs.length k2) := (cell_set_other _ _ _ _ hBxg).trans z1
            have y2 : (wr.setCell ⟨g, k * 3, none⟩ (.bool false)).cell? ⟨g, k * 3, none⟩ = some (.bool false) := by go_simp
            have S2 := hS.setCell (a := ⟨g, k * 3, none⟩) hg1 (.bool false)
            clear hset fz hG hgt hown HCN HSA
            go_upto_region 19 with fail
            clear z0 z1 c0 c1 c2 f0 hgc'
            generalize wr.setCell ⟨g, k * 3, none⟩ (.bool false) = w6 at *
            go_wp2_with fail
            clear y2
            go_roundw
            case rel => exact ⟨k + 1, by omega, by go_num, by rw [HCN2.out], S2, HOW.out, y0, y1⟩
            case measure => simp [intOf]; omega
          · simp only [Bool.not_eq_true] at hG
            have hor : (k < gone.length ∧ ∃ gg og, ag = some ⟨gg, og, none⟩ ∧ wr.cell? ⟨gg, og + k, none⟩ = some (.bool false)) ∨ gone.length ≤ k := by
              rcases Nat.lt_or_ge k gone.length with h | h
              · left
                have hgt : gone[k]? = some false := by
                  rw [List.getD_eq_getElem?_getD, List.getElem?_eq_getElem h] at hG
                  rw [List.getElem?_eq_getElem h]
                  simpa using hG
                obtain ⟨gg, og, e, hc⟩ := bools_at hgb hgt
                exact ⟨h, gg, og, e, hc⟩
              · exact Or.inr h
            have HSM := Lib.hid (HSA.out hG)
            have HGP : Hid (goneP gone k (t, r, ks) = (t, r, ks)) := Lib.hid (by unfold goneP; rw [hG]; simp)
            rw [HGP.out] at HCN
            have HCN3 : Hid ((goneT gone qs (k + 1)).countP (hasB (b.length : Int)) = N + (if (t && decide (0 ≤ findV (b.length : Int) ks 0)) = true then 1 else 0)) := HCN
            have HOWN := Lib.hid hown
            have HKP := Lib.hid hkp
            clear hset fz hG hown HCN HSA hkp HST HGP
            rcases hor with ⟨hgl, gg, og, rfl, hgc'⟩ | hgl
            all_goals
              cases t with
              | false =>
                have HCN4 : Hid ((goneT gone qs (k + 1)).countP (hasB (b.length : Int)) = N) := Lib.hid (by rw [HCN3.out]; simp)
                go_wp2_with fail
                try clear hgc'
                clear c0 c1 c2
                go_roundw
                case rel => exact ⟨k + 1, by omega, by go_num, by rw [HCN4.out], hS, by rw [HSM.out]; exact HOWN.out, z0, z1⟩
                case measure => simp [intOf]; omega
              | true =>
                by_cases hF : 0 ≤ findV (b.length : Int) ks 0
                · have HCN4 : Hid ((goneT gone qs (k + 1)).countP (hasB (b.length : Int)) = N + 1) := Lib.hid (by rw [HCN3.out, if_pos (by simpa using hF)])
                  go_wp2_with (go_at_call 30; go_fit (Find_any true r _ ks (b.length : Int) _ HKP.out); rintro e w6 ⟨rfl, hb6⟩; have q0 := below_cell hb6 z0; have q1 := below_cell hb6 z1)
                  have S6 := hS.step hb6
                  have HO6 := Lib.hid (HOWN.out.stays hb6)
                  try clear hgc'
                  clear c0 c1 c2 z0 z1 hb6
                  go_roundw
                  case rel => exact ⟨k + 1, by omega, by go_num, by rw [HCN4.out]; go_num, S6, by rw [HSM.out]; exact HO6.out, q0, q1⟩
                  case measure => simp [intOf]; omega
                · have HCN4 : Hid ((goneT gone qs (k + 1)).countP (hasB (b.length : Int)) = N) := Lib.hid (by rw [HCN3.out, if_neg (by simpa using hF)]; rfl)
                  go_wp2_with (go_at_call 30; go_fit (Find_any true r _ ks (b.length : Int) _ HKP.out); rintro e w6 ⟨rfl, hb6⟩; have q0 := below_cell hb6 z0; have q1 := below_cell hb6 z1)
                  have S6 := hS.step hb6
                  have HO6 := Lib.hid (HOWN.out.stays hb6)
                  try clear hgc'
                  clear c0 c1 c2 z0 z1 hb6
                  go_roundw
                  case rel => exact ⟨k + 1, by omega, by go_num, by rw [HCN4.out], S6, by rw [HSM.out]; exact HO6.out, q0, q1⟩
                  case measure => simp [intOf]; omega
        · obtain rfl : qs.length = k := by omega
          rw [goneL_all] at hown
          obtain ⟨_, _, d2, _, _⟩ := HF.out wr hS
          have HT0 := Lib.hid HRS.out.1
          have HT1 := Lib.hid HRS.out.2
          have hzl : (goneT gone qs qs.length).length = qs.length := goneT_len (Nat.le_refl _)
          have hN : (goneT gone qs qs.length).countP (hasB (b.length : Int)) ≤ 8 := Nat.le_trans (hcnt _) (by rw [hzl]; omega)
          generalize goneT gone qs qs.length = zs at *
          generalize zs.countP (hasB (b.length : Int)) = N at *
          have hov := hown.vers
          have hop := hown.peers
          clear hlt hk hcnt hzl
          by_cases hT : N < n'
          · have HQ := Lib.hid (HT0.out hT)
            go_wp2_with (go_at_call 29; go_fit (Restore_any _ b' _ zs (b.length : Int) wr hov hop); rintro e w5 ⟨⟨y3, y4, rfl, hi3, hi4⟩, hb5⟩; rw [HQ.out]; have d2 := below_cell hb5 d2)
            go_ret
            exact ⟨rfl, (S0.step (hS.step hb5).below).below⟩
          · have HQ := Lib.hid (HT1.out (by omega))
            have HDD : Hid (eqInts data data = true) := Lib.hid (by simp [eqInts])
            go_upto_region 23 with (go_at_call 29; go_fit (Restore_any _ b' _ zs (b.length : Int) wr hov hop); rintro e w5 ⟨⟨y3, y4, rfl, hi3, hi4⟩, hb5⟩; rw [HQ.out.1]; rw [HQ.out.2.1] at hi3; rw [HQ.out.2.2] at hi4; obtain ⟨ac, cc, rfl, _⟩ := hi3.opened; obtain ⟨ae, ce, rfl, _⟩ := hi4.opened; have d2 := below_cell hb5 d2)
            have S5 := hS.step hb5
            have hdd := HD.out.stays S5.below
            clear z0 z1 hi4 hb5 hov hop hown
            go_wp2_with fail
            refine (Equal_ints _ _ data data _ hi3 hdd).mono ?_
            rintro e w7 ⟨rfl, hb7⟩
            rw [HDD.out]
            go_wp2_with fail
            go_ret
            exact ⟨rfl, (S0.step (S5.step hb7).below).below⟩
  · go_enter Try.func7, Try.ntmps7
    go_upto_region 1 with fail
    rw [← HW.out, ← HBl.out, ← HB.out]
    go_wp2_with (first
      | (go_at_call 26; go_fit HS.out; rintro e w1 ⟨⟨u1, u2, rfl, ho1⟩, hb1⟩; obtain ⟨a1, k1, rfl, _⟩ := ho1.vers.opened; obtain ⟨a2, k2, rfl, _⟩ := ho1.peers.opened; have S1 := (S0.step hb1).alloc (.cells #[.slice a1 (saveC (b, ps) data pr n o).1.length k1, .slice a2 (saveC (b, ps) data pr n o).2.length k2] 53))
      | (go_at_call 27; go_fit (woven_any (w1.alloc (.cells #[.slice a1 (saveC (b, ps) data pr n o).1.length k1, .slice a2 (saveC (b, ps) data pr n o).2.length k2] 53))); rintro e w2 ⟨rfl, hb2⟩)
      | (go_at_call 27; go_fit (woven_any w2); rintro e w3 ⟨rfl, hb3⟩))
    go_ret
    exact ⟨rfl, ((S1.step hb2).step hb3).below⟩
end Go.Proofs.Ytnpdojjffbhalaa
