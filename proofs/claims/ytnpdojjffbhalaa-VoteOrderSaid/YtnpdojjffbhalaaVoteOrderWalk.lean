/-
  The walk of VoteOrder.
-/
import Derived.Test.YtnpdojjffbhalaaFindsMath
import Derived.Test.YtnpdojjffbhalaaVoted
import Derived.Test.YtnpdojjffbhalaaReverseSh
namespace Go.Proofs.Ytnpdojjffbhalaa
open Go.RowKit

theorem SomeOf.reverse {n o r : Nat} {data : List Int} {ps : List Sh} (h : SomeOf n data o r ps) : SomeOf n data o r ps.reverse :=
  ⟨fun t ht => h.of t (List.mem_reverse.1 ht), by
    rw [List.map_reverse]
    exact (List.reverse_perm _).nodup_iff.2 h.once⟩

set_option maxRecDepth 100000 in
set_option maxHeartbeats 4000000 in
theorem voteOrder_no (n o s many : Int) (v u : Value) (data order : List Int) (W : World) (hd : IsInts W v data) (hu : IsInts W u order) (hE : splitE n o s data ≠ 0) :
    Calls Try.prog 5 #[.agg #[.int .i64 n, .int .i64 o, .int .i64 s], v, u, .int .i64 many] W fun e w' => e = .returned (.bool true) ∧ Below W.heap.size W w' := by
  obtain ⟨a, c, rfl, _⟩ := hd.opened
  obtain ⟨a', c', rfl, _⟩ := hu.opened
  have hne : (splitE n o s data != 0) = true := by simpa using hE
  have S0 := (Since.refl W).alloc (.cells #[.int .i64 n, .int .i64 o, .int .i64 s] 23)
  have hd0 := hd.stays S0.below
  have HE := Lib.hid hE
  clear hd hu hE
  go_enter Try.func5, Try.ntmps5
  go_wp2_with fail
  refine (Split_no n o s _ data _ hd0 HE.out).mono ?_
  rintro e w1 ⟨rfl, hb1⟩
  have S1 := S0.step hb1
  clear hb1 hd0 S0
  go_wp2_with fail
  refine (voted_any _).mono ?_
  rintro e w2 ⟨rfl, hb2⟩
  have S2 := S1.step hb2
  clear hb2 S1
  go_wp2_with fail
  refine (voted_any _).mono ?_
  rintro e w3 ⟨rfl, hb3⟩
  have S3 := S2.step hb3
  clear hb3 S2
  go_wp2_with fail
  go_ret
  exact ⟨rfl, S3.below⟩

set_option maxRecDepth 100000 in
set_option maxHeartbeats 4000000 in
theorem voteOrder_ok (n o s : Nat) (many : Int) (v u : Value) (data order : List Int) (W : World) (hd : IsInts W v data) (hu : IsInts W u order) (hm : I64 many) (hE : splitE n o s data = 0) :
    Calls Try.prog 5 #[.agg #[.int .i64 n, .int .i64 o, .int .i64 s], v, u, .int .i64 many] W fun e w' => e = .returned (.bool true) ∧ Below W.heap.size W w' := by
  obtain ⟨hp, hl, hnum⟩ := splitE_zero hE
  obtain ⟨p1, p2, p3, p4, p5, p6⟩ := planV_bd hp
  have hls : data.length = s := by omega
  have HP := Lib.hid (And.intro hp (And.intro hls hnum))
  have HSL := Lib.hid (sharesL_len n data o (rowsN n s))
  obtain ⟨m0, m1⟩ := hm
  obtain ⟨a, c, rfl, _⟩ := hd.opened
  obtain ⟨a', c', rfl, _⟩ := hu.opened
  have HE := Lib.hid hE
  have S0 := (Since.refl W).alloc (.cells #[.int .i64 n, .int .i64 o, .int .i64 s] 23)
  have c0 : (W.alloc (.cells #[.int .i64 n, .int .i64 o, .int .i64 s] 23)).cell? ⟨W.heap.size, 0, none⟩ = some (.int .i64 n) := by go_simp
  have c1 : (W.alloc (.cells #[.int .i64 n, .int .i64 o, .int .i64 s] 23)).cell? ⟨W.heap.size, 1, none⟩ = some (.int .i64 o) := by go_simp
  have c2' : (W.alloc (.cells #[.int .i64 n, .int .i64 o, .int .i64 s] 23)).cell? ⟨W.heap.size, 2, none⟩ = some (.int .i64 s) := by go_simp
  have hd0 := hd.stays S0.below
  have HD0 := Lib.hid hd0
  have HU0 := Lib.hid (hu.stays S0.below)
  clear hd hu hE hp hl hnum hls
  go_enter Try.func5, Try.ntmps5
  go_upto_region 1 with fail
  generalize W.alloc (.cells #[.int .i64 n, .int .i64 o, .int .i64 s] 23) = w0 at *
  obtain ⟨B, hB⟩ : ∃ B, B = W.heap.size := ⟨_, rfl⟩
  rw [← hB] at c0 c1 c2' ⊢
  clear hB
  have HC : Hid (∀ w', Since w0.heap.size w0 w' → w'.cell? ⟨B, 0, none⟩ = some (.int .i64 n) ∧ w'.cell? ⟨B, 1, none⟩ = some (.int .i64 o) ∧ w'.cell? ⟨B, 2, none⟩ = some (.int .i64 s)) := Lib.hid (fun w' q => ⟨below_cell q.below c0, below_cell q.below c1, below_cell q.below c2'⟩)
  go_upto_region 2 with (go_at_call 13; go_fit (Split_any n o s _ data _ hd0); rintro e w1 ⟨⟨v1, rfl, h1⟩, hb1⟩; rw [HE.out])
  have T1 := (Since.refl w0).step hb1
  rw [splitL_ok HE.out] at h1
  have HI1 := Lib.hid h1
  obtain ⟨a1, k1, rfl, _⟩ := h1.opened
  clear c0 c1 c2' hb1 hd0 h1
  go_wp2_with fail
  refine (voted_any _).mono ?_
  rintro e w2 ⟨rfl, hb2⟩
  have T2 := T1.step hb2
  have HI2 := Lib.hid (shares_stays HI1.out hb2)
  clear hb2
  go_upto_region 4 with fail
  have s3 := HC.out _ T2.drew
  have hmm := modV_bd many (n := (o : Int) - n + 1) (by omega)
  obtain ⟨ma, hma⟩ := Int.eq_ofNat_of_zero_le hmm.1
  have hmo : n + ma ≤ o := by omega
  have HMA := Lib.hid hma
  have hn1 : 1 ≤ n + ma := by omega
  have HC1 : Hid (∀ w, Calls Try.prog 16 #[.int .i64 many, .int .i64 (IntKind.i64.wrap (IntKind.i64.wrap ((o : Int) - n) + 1))] w fun e w' => e = .returned (.int .i64 (ma : Int)) ∧ w = w') := Lib.hid (fun w => by
    rw [IntWalk.i64_in ((o : Int) - n) (by omega), IntWalk.i64_in _ (by omega)]
    have := at_any many ((o : Int) - n + 1) w m0 m1 (by omega) (by omega)
    rwa [HMA.out] at this)
  have HWN : Hid (IntKind.i64.wrap ((n : Int) + (ma : Int)) = ((n + ma : Nat) : Int)) := Lib.hid (by rw [IntWalk.i64_in _ (by omega)]; omega)
  rw [hma] at hmm
  clear hma
  go_region_held3 (fun w' => w'.cell? ⟨B, 0, none⟩ = some (.int .i64 n) ∧ w'.cell? ⟨B, 1, none⟩ = some (.int .i64 o) ∧ w'.cell? ⟨B, 2, none⟩ = some (.int .i64 s)) (first | exact s3 | exact s5) (first
    | (go_at_call 16; go_fit (HC1.out w2.drew); rintro e w' ⟨rfl, rfl⟩)
    | (go_at_call 15; go_fit (picked_any _ (sharesL n data o (rowsN n s)) _ order (IntKind.i64.wrap ((n : Int) + (ma : Int))) w2.drew (shares_stays HI2.out (Since.refl w2).drew.below) (HU0.out.stays T2.drew.below) (by rw [HSL.out]; omega)); rintro e w5 ⟨⟨v5, rfl, ps, rest, hw5, hperm, hfin, hfew⟩, hb5⟩; have T5 := T2.drew.step hb5; have s5 := HC.out _ T5))
  all_goals
    rw [HWN.out] at hfin hfew
    rw [IntWalk.i64_in ((o : Int) - n) (by omega), IntWalk.i64_in ((o : Int) - n + 1) (by omega), IntWalk.i64_in ((n : Int) + ma) (by omega)]
    have hpl := pick_len (perm_len hperm) hfin hfew hmo hn1
    have hso := someOf_perm hperm
    obtain ⟨N, hN⟩ : ∃ N, N = ps.length := ⟨_, rfl⟩
    have hNn : n ≤ N := by omega
    have hN8 : N ≤ 8 := by omega
    have hN1 : 1 ≤ N := by omega
    have HM1 := Lib.hid (most_whole HP.out.1 HP.out.2.1 HP.out.2.2 hso (by omega))
    have HM2 := Lib.hid (most_whole HP.out.1 HP.out.2.1 HP.out.2.2 hso.reverse (by rw [List.length_reverse]; omega))
    have HR1 := Lib.hid (hso.right HP.out.1 (by omega))
    have HR2 := Lib.hid (hso.reverse.right HP.out.1 (by rw [List.length_reverse]; omega))
    have HQ1 := Lib.hid (show eqInts data data = true by simp [eqInts])
    rcases hw5.shape with ⟨_, hnil⟩ | ⟨gp, cap, cur, rfl, hgp1, hgp2, hgp3, hgp4, _, _⟩
    · exfalso; rw [hnil] at hN; simp at hN; omega
    have HW5 := Lib.hid hw5
    have hrow := hw5.isRow
    have q5 := (Since.refl w2).drew.step hb5
    clear s3 s5 hfin hfew hperm hpl hso hb5 hmm
    go_upto_region 6 with (go_at_call 23; go_fit (CloneShares_any _ ps w5 w5 (Dirty.refl _ _) hrow (by omega)); rintro e w6 ⟨⟨v6, rfl, ho6⟩, hb6⟩)
    have T6 := T5.step hb6
    have hv6 : ∀ j, v6.ownBlock = some j → w5.heap.size ≤ j := fun j hj => (ho6.lt j hj).1
    have hsz5 := q5.2
    have hold := ((HW5.out.stays hb6).weaken (E' := fun j => v6.ownBlock = some j) (fun j _ hj => Or.inl (by have := hv6 j hj; exact Nat.le_trans hsz5 this)))
    have hnv : ∀ j, (Value.slice (some ⟨gp, 0, none⟩) ps.length cap).ownBlock = some j → ¬ v6.ownBlock = some j := fun j hj e => by cases hj; have := hv6 gp e; omega
    have HO6 := Lib.hid ho6
    have HOLD := Lib.hid hold
    clear hrow hw5 hb6 ho6 hold
    go_upto_region 7 with (go_at_call 24; go_fit (ReverseShares_any _ _ _ ps w6 HO6.out); rintro e w7 ⟨rfl, ho7, hg7⟩)
    have T7 : Since w0.heap.size w0 w7 := T6.grown hg7 (fun j hj => by have := hv6 j hj; have := T5.2; omega)
    have h7 := isShares_of_row (HOLD.out.later (Dirty.of_grown hg7) hnv).isRow
    have hr7 := isShares_of_row ho7.isRow
    obtain ⟨d0, d1, d2⟩ := HC.out _ T7
    clear hg7 ho7 hnv hv6
    go_upto_region 8 with (go_at_call 19; go_fit (Most_ok n o s _ ps w7 h7 HR1.out); rintro e w8 ⟨⟨vb, vw, rfl, hb8, hw8⟩, hb⟩; rw [HM1.out.1])
    rw [HM1.out.2.1] at hb8
    rw [HM1.out.2.2] at hw8
    have T8 := T7.step hb
    have HB8 := Lib.hid hb8
    have hr8 := shares_stays hr7 hb
    obtain ⟨ab, cb, rfl, _⟩ := hb8.opened
    obtain ⟨aw, cw, rfl, _⟩ := hw8.opened
    clear d0 d1 d2 hb hb8 hw8 h7 hr7
    obtain ⟨d0, d1, d2⟩ := HC.out _ T8
    go_upto_region 9 with (go_at_call 19; go_fit (Most_ok n o s _ ps.reverse w8 hr8 HR2.out); rintro e w9 ⟨⟨vb, vw, rfl, hb9, hw9⟩, hb⟩; rw [HM2.out.1])
    rw [HM2.out.2.1] at hb9
    rw [HM2.out.2.2] at hw9
    have T9 := T8.step hb
    have HB9 := Lib.hid hb9
    have HB89 := Lib.hid (HB8.out.stays hb)
    obtain ⟨ab', cb', rfl, _⟩ := hb9.opened
    obtain ⟨aw', cw', rfl, _⟩ := hw9.opened
    clear d0 d1 d2 hb hb9 hw9 hr8
    go_wp2_with fail
    refine (Equal_ints _ _ data data w9 HB89.out (HD0.out.stays T9.below)).mono ?_
    rintro e w10 ⟨rfl, hb10⟩
    rw [HQ1.out]
    have T10 := T9.step hb10
    have HB10 := Lib.hid (HB9.out.stays hb10)
    clear hb10
    go_wp2_with fail
    refine (Equal_ints _ _ data data w10 HB10.out (HD0.out.stays T10.below)).mono ?_
    rintro e w11 ⟨rfl, hb11⟩
    rw [HQ1.out]
    have T11 := T10.step hb11
    clear hb11
    go_wp2_with fail
    go_ret
    exact ⟨rfl, (S0.step T11.below).below⟩

theorem VoteOrder_walk (v0 : Value) (p : Plan3) (v1 : Value) (data : List Int) (v2 : Value) (order : List Int) (v3 : Value) (many : Int) (W : World) (h0 : IsPlan v0 p) (h1 : IsInts W v1 data) (h2 : IsInts W v2 order) (h3 : IsInt v3 many) :
    Calls Try.prog 5 #[v0, v1, v2, v3] W fun e w' => e = .returned (.bool true) ∧ Below W.heap.size W w' := by
  obtain ⟨rfl, _⟩ := h0
  obtain ⟨n, o, s⟩ := p
  obtain ⟨rfl, hm⟩ := h3
  by_cases h : splitE n o s data = 0
  · obtain ⟨n, o, s, rfl, rfl, rfl⟩ := plan_nat (splitE_zero h).1
    exact voteOrder_ok n o s many v1 v2 data order W h1 h2 hm h
  · exact voteOrder_no n o s many v1 v2 data order W h1 h2 h
end Go.Proofs.Ytnpdojjffbhalaa
