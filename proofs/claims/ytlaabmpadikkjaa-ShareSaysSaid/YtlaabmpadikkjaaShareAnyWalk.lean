/-
  The walk of ShareAny.
-/
import Derived.Test.YtlaabmpadikkjaaPicked
namespace Go.Proofs.Ytlaabmpadikkjaa
open Go.RowKit

theorem someOf_perm {n o r : Nat} {data : List Int} {ps rest : List Sh} (h : (ps ++ rest).Perm (sharesL n data o r)) : SomeOf n data o r ps := by
  refine ⟨fun t ht => ?_, ?_⟩
  · have hm : t ∈ sharesL n data o r := h.subset (List.mem_append_left _ ht)
    obtain ⟨k, hk, rfl⟩ := List.mem_map.1 hm
    exact ⟨k, List.mem_range.1 hk, rfl⟩
  · have h1 : ((sharesL n data o r).map (·.1)).Nodup := by
      have e : (sharesL n data o r).map (·.1) = (List.range o).map fun (k : Nat) => (k : Int) := by simp [sharesL, shareL, Function.comp_def]
      rw [e]
      refine List.pairwise_map.2 (List.Pairwise.imp ?_ List.pairwise_lt_range)
      intro a b hab e
      omega
    have h2 := (h.map (·.1)).nodup_iff.2 h1
    rw [List.map_append] at h2
    exact (List.nodup_append.1 h2).1
theorem perm_len {n o r : Nat} {data : List Int} {ps rest : List Sh} (h : (ps ++ rest).Perm (sharesL n data o r)) : ps.length + rest.length = o := by
  have := h.length_eq
  rwa [List.length_append, sharesL_len] at this

set_option maxRecDepth 100000 in
set_option maxHeartbeats 2000000 in
theorem shareAny_no (n o s more : Int) (v u : Value) (data order : List Int) (W : World) (hd : IsInts W v data) (hu : IsInts W u order) (hE : splitE n o s data ≠ 0) :
    Calls Try.prog 6 #[.agg #[.int .i64 n, .int .i64 o, .int .i64 s], v, u, .int .i64 more] W fun e w' => e = .returned (.bool true) ∧ Below W.heap.size W w' := by
  obtain ⟨a, c, rfl, _⟩ := hd.opened
  obtain ⟨a', c', rfl, _⟩ := hu.opened
  have hne : (splitE n o s data != 0) = true := by simpa using hE
  have S0 := (Since.refl W).alloc (.cells #[.int .i64 n, .int .i64 o, .int .i64 s] 23)
  have hd0 := hd.stays S0.below
  have HE := Lib.hid hE
  clear hd hu hE
  go_enter Try.func6, Try.ntmps6
  go_wp2_with fail
  refine (Split_no n o s _ data _ hd0 HE.out).mono ?_
  rintro e w1 ⟨rfl, hb1⟩
  have S1 := S0.step hb1
  clear hb1 hd0 S0
  go_wp2_with fail
  refine (parted_any _).mono ?_
  rintro e w2 ⟨rfl, hb2⟩
  have S2 := S1.step hb2
  clear hb2 S1
  go_wp2_with fail
  refine (parted_any _).mono ?_
  rintro e w3 ⟨rfl, hb3⟩
  have S3 := S2.step hb3
  clear hb3 S2
  go_wp2_with fail
  go_ret
  exact ⟨rfl, S3.below⟩

set_option maxRecDepth 100000 in
set_option maxHeartbeats 3000000 in
theorem shareAny_ok (n o s : Nat) (more : Int) (v u : Value) (data order : List Int) (W : World) (hd : IsInts W v data) (hu : IsInts W u order) (hm : I64 more) (hE : splitE n o s data = 0) :
    Calls Try.prog 6 #[.agg #[.int .i64 n, .int .i64 o, .int .i64 s], v, u, .int .i64 more] W fun e w' => e = .returned (.bool true) ∧ Below W.heap.size W w' := by
  obtain ⟨hp, hl, hnum⟩ := splitE_zero hE
  obtain ⟨p1, p2, p3, p4, p5, p6⟩ := planV_bd hp
  obtain ⟨hm0, hm1⟩ := hm
  have HP := Lib.hid hp
  have HJ : Hid (∀ ps rest : List Sh, (ps ++ rest).Perm (sharesL n data o (rowsN n s)) → n ≤ ps.length → Right n o s ps ∧ checkL n o s [] ps = 0 ∧ joinE n o s ps = 0 ∧ joinC n o s ps = data) := Lib.hid (fun ps rest h hn => by
    have h1 := someOf_perm h
    obtain ⟨h2, h3⟩ := h1.joins hp (by omega) hnum hn
    exact ⟨h1.right hp hn, h1.checkL hp, h2, h3⟩)
  have HK : Hid (∀ ps rest : List Sh, (ps ++ rest).Perm (sharesL n data o (rowsN n s)) → ps.length < n → checksL n o s ps = 7) := Lib.hid (fun ps rest h hn => (someOf_perm h).short hp hn)
  have HONE : Hid (∀ k, k < o → oneV n o s k (shareL n data (rowsN n s) k).2 = 0) := Lib.hid (fun k hk => oneV_zero hp (t := shareL n data (rowsN n s) k) (by simp [shareL]) (by simp [shareL]; omega) (shareL_len _ _ _ _) (fun z hz => by
    obtain ⟨i, hi, rfl⟩ := List.getElem_of_mem hz
    simp [shareL]
    exact partV_bd _ _ _ _))
  have HQ := Lib.hid (show eqInts data data = true by simp [eqInts])
  have HSL := Lib.hid (sharesL_len n data o (rowsN n s))
  have HSG := Lib.hid (fun k (h : k < o) => sharesL_get n data (rowsN n s) h)
  obtain ⟨a, c, rfl, _⟩ := hd.opened
  obtain ⟨a', c', rfl, _⟩ := hu.opened
  have HE := Lib.hid hE
  have S0 := (Since.refl W).alloc (.cells #[.int .i64 n, .int .i64 o, .int .i64 s] 23)
  have c0 : (W.alloc (.cells #[.int .i64 n, .int .i64 o, .int .i64 s] 23)).cell? ⟨W.heap.size, 0, none⟩ = some (.int .i64 n) := by go_simp
  have c1 : (W.alloc (.cells #[.int .i64 n, .int .i64 o, .int .i64 s] 23)).cell? ⟨W.heap.size, 1, none⟩ = some (.int .i64 o) := by go_simp
  have c2 : (W.alloc (.cells #[.int .i64 n, .int .i64 o, .int .i64 s] 23)).cell? ⟨W.heap.size, 2, none⟩ = some (.int .i64 s) := by go_simp
  have hd0 := hd.stays S0.below
  have hu0 := hu.stays S0.below
  clear hd hu hE hp hl hnum
  go_enter Try.func6, Try.ntmps6
  go_upto_region 1 with fail
  generalize W.alloc (.cells #[.int .i64 n, .int .i64 o, .int .i64 s] 23) = w0 at *
  obtain ⟨B, hB⟩ : ∃ B, B = W.heap.size := ⟨_, rfl⟩
  rw [← hB] at c0 c1 c2 ⊢
  clear hB
  have l0 := cell_lt c0
  have HC : Hid (∀ w', Since w0.heap.size w0 w' → (w'.cell? ⟨B, 0, none⟩ = some (.int .i64 n) ∧ w'.cell? ⟨B, 1, none⟩ = some (.int .i64 o) ∧ w'.cell? ⟨B, 2, none⟩ = some (.int .i64 s))) := Lib.hid (fun w' q => ⟨(q.below.cell (p := ⟨B, 0, none⟩) l0).trans c0, (q.below.cell (p := ⟨B, 1, none⟩) l0).trans c1, (q.below.cell (p := ⟨B, 2, none⟩) l0).trans c2⟩)
  go_wp2_with fail
  refine (Split_ok n o s _ data _ hd0 HE.out).mono ?_
  rintro e w1 ⟨⟨g, f, rfl, ho1⟩, hb1⟩
  have T1 := (Since.refl w0).step hb1
  clear hb1 c0 c1 c2
  go_wp2_with fail
  refine (parted_any _).mono ?_
  rintro e w2 ⟨rfl, hb2⟩
  have T2 := T1.step hb2
  have HO2 := Lib.hid (ho1.stays hb2)
  have HD2 := Lib.hid (hd0.stays T2.below)
  have HU2 := Lib.hid (hu0.stays T2.below)
  obtain ⟨d0, d1, d2⟩ := HC.out _ T2
  have HS : Hid (∀ w', Since w2.heap.size w2 w' → (w'.cell? ⟨B, 0, none⟩ = some (.int .i64 n) ∧ w'.cell? ⟨B, 1, none⟩ = some (.int .i64 o) ∧ w'.cell? ⟨B, 2, none⟩ = some (.int .i64 s))) := Lib.hid (fun w' q => HC.out w' (T2.step q.below))
  have hmb := modV_bd more (n := (o : Int) - (n : Int) + 1) (by omega)
  clear hb2 ho1 hd0 hu0 T1
  go_wp2_with (go_quiet (refine Calls.quiet_of_same ((at_any _ _ _ (by omega) (by omega) (by omega) (by omega)).mono fun e w' h => ⟨h.1, h.2.symm⟩)))
  generalize modV more ((o : Int) - (n : Int) + 1) = m at *
  obtain ⟨m0, m1⟩ := hmb
  have q2 := since_drewN (Since.refl w2) nq
  generalize w2.drewN nq = wq at *
  have sq := HS.out wq.drew q2.drew
  have HSH := Lib.hid (HO2.out.isShares)
  clear d0 d1 d2
  go_upto_region 5 with fail
  go_region_held3 (fun w' => w'.cell? ⟨B, 0, none⟩ = some (.int .i64 n) ∧ w'.cell? ⟨B, 1, none⟩ = some (.int .i64 o) ∧ w'.cell? ⟨B, 2, none⟩ = some (.int .i64 s)) (first | exact sq | exact s5 | exact s6) (first
    | (go_at_call 29; refine (picked_any _ (sharesL n data o (rowsN n s)) _ order _ _ (shares_stays HSH.out q2.drew.below) (HU2.out.stays q2.drew.below) (by rw [HSL.out]; omega)).mono ?_; rintro e w5 ⟨⟨v5, rfl, ps, rest, hw5, hperm, hfin, _⟩, hb5⟩; have q5 := q2.drew.step hb5; have s5 := HS.out w5 q5; have hpl := perm_len hperm; have hnl : n ≤ ps.length := (by rcases hfin with h | h; (rw [h] at hpl; simp at hpl; omega); omega); obtain ⟨j1, j2, j3, j4⟩ := HJ.out ps rest hperm hnl)
    | (go_at_call 18; refine (Join_ok n o s _ ps _ (isShares_of_row hw5.isRow) j1 j2).mono ?_; rintro e w6 ⟨⟨v6, rfl, hi6⟩, hb6⟩; rw [j3]; rw [j4] at hi6; have q6 := q5.step hb6; have s6 := HS.out w6 q6; obtain ⟨a6, c6, rfl, _⟩ := hi6.opened))
  all_goals
    have hoo : ((o : Int) != (o : Int)) = false := by simp
    have HI6 := Lib.hid hi6
    obtain ⟨d0, d1, d2⟩ := HS.out _ q6
    clear sq s5 s6 hw5 hperm hfin hpl hnl hb5 hb6 j1 j2 j3 j4 hi6
    go_wp2_with fail
    refine (Equal_ints _ _ data data _ HI6.out (HD2.out.stays q6.below)).mono ?_
    rintro e w7 ⟨rfl, hb7⟩
    rw [HQ.out]
    have q7 := q6.step hb7
    have s7 := HS.out w7.drew q7.drew
    have hw1 : IntKind.i64.wrap ((n : Int) - 1) = (n : Int) - 1 := IntWalk.i64_in _ (by omega)
    clear d0 d1 d2 hb7 HI6
    go_upto_region 8 with fail
    go_region_held3 (fun w' => w'.cell? ⟨B, 0, none⟩ = some (.int .i64 n) ∧ w'.cell? ⟨B, 1, none⟩ = some (.int .i64 o) ∧ w'.cell? ⟨B, 2, none⟩ = some (.int .i64 s)) (first | exact s7 | exact s8 | exact s9) (first
      | (go_at_call 29; refine (picked_any _ (sharesL n data o (rowsN n s)) _ order _ _ (shares_stays HSH.out q7.drew.below) (HU2.out.stays q7.drew.below) (by rw [HSL.out]; omega)).mono ?_; rintro e w8 ⟨⟨v8, rfl, ps, rest, hw8, hperm, _, hfew⟩, hb8⟩; have q8 := q7.drew.step hb8; have s8 := HS.out w8 q8; have hnl : ps.length < n := (by rcases hfew with h | h; omega; (rw [h]; simp; omega)); have j1 := HK.out ps rest hperm hnl)
      | (go_at_call 18; refine (Join_any n o s _ ps _ (isShares_of_row hw8.isRow) (by rw [j1]; decide)).mono ?_; rintro e w9 ⟨rfl, hb9⟩; rw [j1]; have q9 := q8.step hb9; have s9 := HS.out w9 q9))
    all_goals
      clear s7 s8 s9 hw8 hperm hfew hnl hb8 hb9 j1
      go_wp2_with fail
      go_loopw [76] (fun q wr => ∃ k : Nat, k ≤ o ∧ q = .int .i64 k ∧ Since w9.heap.size w9 wr) (fun q _ => o - (intOf q).toNat)
      case atStart => exact ⟨0, by omega, rfl, Since.refl w9⟩
      case round =>
        obtain ⟨k, hk, rfl, hS⟩ := hrel
        by_cases hlt : k < o
        · have hSw := q9.step hS.below
          have ho := HO2.out.stays hSw.below
          have g3 := HSG.out k hlt
          have k1 := ho.cellN g3
          have k2 := ho.cellV g3
          have hiv := (ho.own _ _ g3).isInts
          have i1 := HONE.out k hlt
          obtain ⟨fv, hfv⟩ : ∃ fv, fv = f k := ⟨_, rfl⟩
          rw [← hfv] at k2 hiv
          obtain ⟨a2, c2, rfl, _⟩ := hiv.opened
          have kN : (shareL n data (rowsN n s) k).1 = (k : Int) := rfl
          rw [kN] at k1
          generalize (shareL n data (rowsN n s) k).2 = LL at *
          have hkk : ((k : Int) != (k : Int)) = false := by simp
          have hiv1 := hiv.stays (below_alloc wr (.cells #[.int .i64 (k : Int), .slice a2 LL.length c2] 32))
          have hS1 := hS.alloc (.cells #[.int .i64 (k : Int), .slice a2 LL.length c2] 32)
          have I1 := Lib.hid i1
          obtain ⟨d0, d1, d2⟩ := HS.out _ (q9.step hS.below)
          have ld := cell_lt d0
          clear g3 hiv kN ho hfv i1 hS
          go_wp2_with fail
          refine (One_any n o s k _ LL _ hiv1).mono ?_
          rintro e w10 ⟨rfl, hb10⟩
          rw [I1.out]
          have hS2 := hS1.step hb10
          clear k1 k2 d0 d1 d2 hb10 hiv1 ld
          go_wp2_with fail
          go_roundw
          case rel => exact ⟨k + 1, by omega, by go_num, hS2⟩
          case measure => simp [intOf]; omega
        · go_wp2_with fail
          go_ret
          exact ⟨rfl, (S0.step (T2.step (q9.step hS.below).below).below).below⟩

theorem ShareAny_walk (v0 : Value) (p : Plan3) (v1 : Value) (data : List Int) (v2 : Value) (order : List Int) (v3 : Value) (more : Int) (W : World) (h0 : IsPlan v0 p) (h1 : IsInts W v1 data) (h2 : IsInts W v2 order) (h3 : IsInt v3 more) :
    Calls Try.prog 6 #[v0, v1, v2, v3] W fun e w' => e = .returned (.bool true) ∧ Below W.heap.size W w' := by
  obtain ⟨rfl, _⟩ := h0
  obtain ⟨n, o, s⟩ := p
  obtain ⟨rfl, hm⟩ := h3
  by_cases h : splitE n o s data = 0
  · obtain ⟨n, o, s, rfl, rfl, rfl⟩ := plan_nat (splitE_zero h).1
    exact shareAny_ok n o s more v1 v2 data order W h1 h2 hm h
  · exact shareAny_no n o s more v1 v2 data order W h1 h2 h

end Go.Proofs.Ytlaabmpadikkjaa
