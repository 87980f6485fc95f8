/-
  The walk of ShareSays.
-/
import Derived.Test.YtlaabmpadikkjaaJoinsR
import Derived.Test.YtlaabmpadikkjaaShareAddsWalk
import Derived.Deep.RegionHeld3
namespace Go.Proofs.Ytlaabmpadikkjaa
open Go.RowKit

theorem checks_right {n o s : Nat} {ls : List Sh} (h : checksL n o s ls = 0) : Right n o s ls ∧ checkL n o s [] ls = 0 := by
  unfold checksL at h
  split at h
  · rename_i h1; exact absurd h h1
  · rename_i h1
    split at h
    · simp at h
    · rename_i h2
      split at h
      · rename_i h3; exact absurd h h3
      · rename_i h3
        split at h
        · simp at h
        · rename_i h4
          have e1 : planV n o s = 0 := by simpa using h1
          have e3 : checkL n o s [] ls = 0 := by simpa using h3
          exact ⟨right_of e1 (by omega) (by omega) e3, e3⟩
theorem checks_plan {n o s : Int} {ls : List Sh} (h : checksL n o s ls = 0) : planV n o s = 0 := by
  unfold checksL at h
  split at h
  · rename_i h1; exact absurd h h1
  · rename_i h1; simpa using h1
def jE (n o s : Int) (ls : List Sh) : Int := if checksL n o s ls = 0 then joinE n.toNat o.toNat s.toNat ls else checksL n o s ls
def jC (n o s : Int) (ls : List Sh) : List Int := if checksL n o s ls = 0 then joinC n.toNat o.toNat s.toNat ls else []
theorem Join_all (n o s : Int) (v : Value) (ls : List Sh) (W : World) (hd : IsShares W v ls) :
    Calls Try.prog 18 #[.agg #[.int .i64 n, .int .i64 o, .int .i64 s], v] W fun e w' => (∃ v', e = .returned (.tuple #[v', .int .i64 (jE n o s ls)]) ∧ IsInts w' v' (jC n o s ls)) ∧ Below W.heap.size W w' := by
  by_cases h : checksL n o s ls = 0
  · obtain ⟨n, o, s, rfl, rfl, rfl⟩ := plan_nat (checks_plan h)
    have h1 := checks_right h
    have e1 : jE n o s ls = joinE n o s ls := by unfold jE; rw [if_pos h]; simp
    have e2 : jC n o s ls = joinC n o s ls := by unfold jC; rw [if_pos h]; simp
    rw [e1, e2]
    exact Join_ok n o s v ls W hd h1.1 h1.2
  · have e1 : jE n o s ls = checksL n o s ls := by unfold jE; rw [if_neg h]
    have e2 : jC n o s ls = [] := by unfold jC; rw [if_neg h]
    rw [e1, e2]
    exact (Join_any n o s v ls W hd h).mono fun e w' ⟨he, hb⟩ => ⟨⟨_, he, IsInts.nil _⟩, hb⟩
theorem Joins_all (n o s : Int) (v : Value) (ls : List Sh) (W : World) (hd : IsShares W v ls) :
    Calls Try.prog 20 #[.agg #[.int .i64 n, .int .i64 o, .int .i64 s], v] W fun e w' => (∃ v', e = .returned (.tuple #[v', .int .i64 (jE n o s ls)]) ∧ IsInts w' v' (jC n o s ls)) ∧ Below W.heap.size W w' := by
  by_cases h : checksL n o s ls = 0
  · obtain ⟨n, o, s, rfl, rfl, rfl⟩ := plan_nat (checks_plan h)
    have h1 := checks_right h
    have e1 : jE n o s ls = joinE n o s ls := by unfold jE; rw [if_pos h]; simp
    have e2 : jC n o s ls = joinC n o s ls := by unfold jC; rw [if_pos h]; simp
    rw [e1, e2]
    exact Joins_ok n o s v ls W hd h1.1 h
  · have e1 : jE n o s ls = checksL n o s ls := by unfold jE; rw [if_neg h]
    have e2 : jC n o s ls = [] := by unfold jC; rw [if_neg h]
    rw [e1, e2]
    exact (Joins_no n o s v ls W hd h).mono fun e w' ⟨he, hb⟩ => ⟨⟨_, he, IsInts.nil _⟩, hb⟩

set_option maxRecDepth 100000 in
set_option maxHeartbeats 8000000 in
theorem shareSays_all (n o s N M : Int) (vd vl vs vt : Value) (data : List Int) (ls : List Sh) (ss tt : List Int) (W : World) (hd : IsInts W vd data) (hl : IsShares W vl ls) (hs : IsInts W vs ss) (ht : IsInts W vt tt) :
    Calls Try.prog 5 #[.agg #[.int .i64 n, .int .i64 o, .int .i64 s], vd, vl, .agg #[.int .i64 N, vs], .agg #[.int .i64 M, vt]] W fun e w' => e = .returned (.bool true) ∧ Below W.heap.size W w' := by
  obtain ⟨ad, cd, rfl, _⟩ := hd.opened
  obtain ⟨al, cl, rfl, _⟩ := hl.opened
  obtain ⟨as_, cs, rfl, _⟩ := hs.opened
  obtain ⟨at_, ct, rfl, _⟩ := ht.opened
  obtain ⟨w0, hw0⟩ : ∃ w0, w0 = ((W.alloc (.cells #[.int .i64 n, .int .i64 o, .int .i64 s] 23)).alloc (.cells #[.int .i64 N, .slice as_ ss.length cs] 32)).alloc (.cells #[.int .i64 M, .slice at_ tt.length ct] 32) := ⟨_, rfl⟩
  have S0 : Since W.heap.size W w0 := by rw [hw0]; exact (((Since.refl W).alloc _).alloc _).alloc _
  have c0 : w0.cell? ⟨W.heap.size, 0, none⟩ = some (.int .i64 n) := by rw [hw0]; go_simp
  have c1 : w0.cell? ⟨W.heap.size, 1, none⟩ = some (.int .i64 o) := by rw [hw0]; go_simp
  have c2 : w0.cell? ⟨W.heap.size, 2, none⟩ = some (.int .i64 s) := by rw [hw0]; go_simp
  have c3 : w0.cell? ⟨W.heap.size + 1, 0, none⟩ = some (.int .i64 N) := by rw [hw0]; go_simp
  have c4 : w0.cell? ⟨W.heap.size + 1, 1, none⟩ = some (.slice as_ ss.length cs) := by rw [hw0]; go_simp
  have c5 : w0.cell? ⟨W.heap.size + 2, 0, none⟩ = some (.int .i64 M) := by rw [hw0]; go_simp
  have c6 : w0.cell? ⟨W.heap.size + 2, 1, none⟩ = some (.slice at_ tt.length ct) := by rw [hw0]; go_simp
  have HW := Lib.hid hw0
  obtain ⟨B5, hB5⟩ : ∃ B, B = W.heap.size := ⟨_, rfl⟩
  obtain ⟨B8, hB8⟩ : ∃ B, B = W.heap.size + 1 := ⟨_, rfl⟩
  obtain ⟨B9, hB9⟩ : ∃ B, B = W.heap.size + 2 := ⟨_, rfl⟩
  rw [← hB5] at c0 c1 c2
  rw [← hB8] at c3 c4
  rw [← hB9] at c5 c6
  have HB5 := Lib.hid hB5
  have HB8 := Lib.hid hB8
  have HB9 := Lib.hid hB9
  have HD : Hid (∀ w', Since w0.heap.size w0 w' → IsInts w' (.slice ad data.length cd) data) := Lib.hid (fun w' q => hd.stays (S0.step q.below).below)
  have HL : Hid (∀ w', Since w0.heap.size w0 w' → IsShares w' (.slice al ls.length cl) ls) := Lib.hid (fun w' q => shares_stays hl (S0.step q.below).below)
  have HSS : Hid (∀ w', Since w0.heap.size w0 w' → IsInts w' (.slice as_ ss.length cs) ss) := Lib.hid (fun w' q => hs.stays (S0.step q.below).below)
  have HTT : Hid (∀ w', Since w0.heap.size w0 w' → IsInts w' (.slice at_ tt.length ct) tt) := Lib.hid (fun w' q => ht.stays (S0.step q.below).below)
  have HC : Hid (∀ w', Since w0.heap.size w0 w' → w'.cell? ⟨B5, 0, none⟩ = some (.int .i64 n) ∧ w'.cell? ⟨B5, 1, none⟩ = some (.int .i64 o) ∧ w'.cell? ⟨B5, 2, none⟩ = some (.int .i64 s) ∧ w'.cell? ⟨B8, 0, none⟩ = some (.int .i64 N) ∧ w'.cell? ⟨B8, 1, none⟩ = some (.slice as_ ss.length cs) ∧ w'.cell? ⟨B9, 0, none⟩ = some (.int .i64 M) ∧ w'.cell? ⟨B9, 1, none⟩ = some (.slice at_ tt.length ct)) := Lib.hid (fun w' q => ⟨below_cell q.below c0, below_cell q.below c1, below_cell q.below c2, below_cell q.below c3, below_cell q.below c4, below_cell q.below c5, below_cell q.below c6⟩)
  clear hw0 hB5 hB8 hB9 hd hl hs ht
  go_enter Try.func5, Try.ntmps5
  go_upto_region 1 with fail
  rw [← HW.out, ← HB9.out, ← HB8.out, ← HB5.out]
  clear c3 c4 c5 c6
  have T0 := Since.refl w0
  go_wp2_with fail
  refine (Split_any n o s _ data _ (HD.out _ T0)).mono ?_
  rintro e w1 ⟨⟨v1, rfl, hs1⟩, hb1⟩
  have T1 := T0.step hb1
  obtain ⟨EV, hEV⟩ : ∃ E, E = splitE n o s data := ⟨_, rfl⟩
  obtain ⟨SL, hSL⟩ : ∃ S, S = splitL n o s data := ⟨_, rfl⟩
  rw [← hEV]
  rw [← hSL] at hs1
  have HEV := Lib.hid hEV
  have HSL := Lib.hid hSL
  obtain ⟨a1, n1, rfl, _⟩ := hs1.opened
  obtain ⟨d0, d1, d2, _⟩ := HC.out _ T1
  clear hb1 c0 c1 c2 hEV hSL T0
  go_wp2_with fail
  refine (Join_all n o s _ ls _ (HL.out _ T1)).mono ?_
  rintro e w2 ⟨⟨v2, rfl, hi2⟩, hb2⟩
  have T2 := T1.step hb2
  have hs12 := shares_stays hs1 hb2
  obtain ⟨FV, hFV⟩ : ∃ E, E = jE n o s ls := ⟨_, rfl⟩
  obtain ⟨JL, hJL⟩ : ∃ S, S = jC n o s ls := ⟨_, rfl⟩
  rw [← hFV]
  rw [← hJL] at hi2
  have HFV := Lib.hid hFV
  have HJL := Lib.hid hJL
  obtain ⟨a2, n2, rfl, _⟩ := hi2.opened
  clear hb2 d0 d1 d2 T1 hs1 hFV hJL
  obtain ⟨d0, d1, d2, _⟩ := HC.out _ T2
  go_wp2_with fail
  refine (Splits_any n o s _ data _ (HD.out _ T2)).mono ?_
  rintro e w3 ⟨⟨v3, rfl, hs3⟩, hb3⟩
  have T3 := T2.step hb3
  rw [← HEV.out]
  rw [← HSL.out] at hs3
  obtain ⟨a3, n3, rfl, _⟩ := hs3.opened
  have hs13 := shares_stays hs12 hb3
  have hi23 := hi2.stays hb3
  clear hb3 d0 d1 d2 T2 hs12 hi2
  obtain ⟨d0, d1, d2, _⟩ := HC.out _ T3
  go_wp2_with fail
  refine (Joins_all n o s _ ls _ (HL.out _ T3)).mono ?_
  rintro e w4 ⟨⟨v4, rfl, hi4⟩, hb4⟩
  have T4 := T3.step hb4
  rw [← HFV.out]
  rw [← HJL.out] at hi4
  obtain ⟨a4, n4, rfl, _⟩ := hi4.opened
  have H1 := Lib.hid (shares_stays hs13 hb4)
  have H3 := Lib.hid (shares_stays hs3 hb4)
  have H2 := Lib.hid (hi23.stays hb4)
  have H4 := Lib.hid hi4
  clear hb4 d0 d1 d2 T3 hs13 hi23 hs3 hi4
  have HS : Hid (∀ w', Since w4.heap.size w4 w' → w'.cell? ⟨B5, 0, none⟩ = some (.int .i64 n) ∧ w'.cell? ⟨B5, 1, none⟩ = some (.int .i64 o) ∧ w'.cell? ⟨B5, 2, none⟩ = some (.int .i64 s) ∧ w'.cell? ⟨B8, 0, none⟩ = some (.int .i64 N) ∧ w'.cell? ⟨B8, 1, none⟩ = some (.slice as_ ss.length cs) ∧ w'.cell? ⟨B9, 0, none⟩ = some (.int .i64 M) ∧ w'.cell? ⟨B9, 1, none⟩ = some (.slice at_ tt.length ct)) := Lib.hid (fun w' q => HC.out w' (T4.step q.below))
  have HS8 : Hid (∀ w', Since w4.heap.size w4 w' → IsInts w' (.slice as_ ss.length cs) ss) := Lib.hid (fun w' q => HSS.out w' (T4.step q.below))
  have HS9 : Hid (∀ w', Since w4.heap.size w4 w' → IsInts w' (.slice at_ tt.length ct) tt) := Lib.hid (fun w' q => HTT.out w' (T4.step q.below))
  obtain ⟨PV, hPV⟩ : ∃ E, E = planV n o s := ⟨_, rfl⟩
  obtain ⟨LV, hLV⟩ : ∃ E, E = longV n o s := ⟨_, rfl⟩
  obtain ⟨OV, hOV⟩ : ∃ E, E = oneV n o s N ss := ⟨_, rfl⟩
  obtain ⟨SV, hSV⟩ : ∃ E, E = sameV N M ss tt := ⟨_, rfl⟩
  have HPV := Lib.hid hPV
  have HLV := Lib.hid hLV
  have HOV := Lib.hid hOV
  have HSV := Lib.hid hSV
  clear hPV hLV hOV hSV
  have z1 : (PV == PV) = true := by simp
  have z2 : (LV == LV) = true := by simp
  have z3 : (OV == OV) = true := by simp
  have z4 : (SV == SV) = true := by simp
  have z5 : (EV == EV) = true := by simp
  have z6 : (FV == FV) = true := by simp
  have HQ := Lib.hid (show eqInts JL JL = true by simp [eqInts])
  have HR := Lib.hid (eqSh_refl SL)
  have sa := HS.out w4.drew (Since.refl w4).drew
  go_upto_region 5 with fail
  go_region_held3 (fun w' => w'.cell? ⟨B5, 0, none⟩ = some (.int .i64 n) ∧ w'.cell? ⟨B5, 1, none⟩ = some (.int .i64 o) ∧ w'.cell? ⟨B5, 2, none⟩ = some (.int .i64 s) ∧ w'.cell? ⟨B8, 0, none⟩ = some (.int .i64 N) ∧ w'.cell? ⟨B8, 1, none⟩ = some (.slice as_ ss.length cs) ∧ w'.cell? ⟨B9, 0, none⟩ = some (.int .i64 M) ∧ w'.cell? ⟨B9, 1, none⟩ = some (.slice at_ tt.length ct)) (first | exact sa | exact s1 | exact s2 | exact s3 | exact s4 | exact s5 | exact s6 | exact t1 | exact t2 | exact t3 | exact t4 | exact sF) (first
    | (go_at_call 14; refine (parted_any _).mono ?_; rintro e wnp1 ⟨rfl, hbp1⟩; have p1 := (Since.refl w4).drew.step hbp1; have s1 := HS.out wnp1 p1)
    | (go_at_call 21; refine (planCheck_any n o s _).mono ?_; rintro e wnp2 ⟨rfl, hbp2⟩; rw [← HPV.out]; have p2 := q1.step hbp2; have s2 := HS.out wnp2 p2)
    | (go_at_call 21; refine (planCheck_any n o s _).mono ?_; rintro e wnq1 ⟨rfl, hbq1⟩; rw [← HPV.out]; have q1 := p1.step hbq1; have t1 := HS.out wnq1 q1)
    | (go_at_call 22; refine (CheckPlan_any n o s _).mono ?_; rintro e wnp2 ⟨rfl, hbp2⟩; rw [← HPV.out]; have p2 := q1.step hbp2; have s2 := HS.out wnp2 p2)
    | (go_at_call 22; refine (CheckPlan_any n o s _).mono ?_; rintro e wnq1 ⟨rfl, hbq1⟩; rw [← HPV.out]; have q1 := p1.step hbq1; have t1 := HS.out wnq1 q1)
    | (go_at_call 15; refine (Long_any n o s _).mono ?_; rintro e wnp3 ⟨rfl, hbp3⟩; rw [← HLV.out]; have p3 := q2.step hbp3; have s3 := HS.out wnp3 p3)
    | (go_at_call 15; refine (Long_any n o s _).mono ?_; rintro e wnq2 ⟨rfl, hbq2⟩; rw [← HLV.out]; have q2 := p2.step hbq2; have t2 := HS.out wnq2 q2)
    | (go_at_call 23; refine (RowsOf_any n o s _).mono ?_; rintro e wnp3 ⟨rfl, hbp3⟩; rw [← HLV.out]; have p3 := q2.step hbp3; have s3 := HS.out wnp3 p3)
    | (go_at_call 23; refine (RowsOf_any n o s _).mono ?_; rintro e wnq2 ⟨rfl, hbq2⟩; rw [← HLV.out]; have q2 := p2.step hbq2; have t2 := HS.out wnq2 q2)
    | (go_at_call 24; refine (One_any n o s N _ ss _ (HS8.out _ q3)).mono ?_; rintro e wnp4 ⟨rfl, hbp4⟩; rw [← HOV.out]; have p4 := q3.step hbp4; have s4 := HS.out wnp4 p4)
    | (go_at_call 24; refine (One_any n o s N _ ss _ (HS8.out _ p3)).mono ?_; rintro e wnq3 ⟨rfl, hbq3⟩; rw [← HOV.out]; have q3 := p3.step hbq3; have t3 := HS.out wnq3 q3)
    | (go_at_call 25; refine (CheckShare_any n o s N _ ss _ (HS8.out _ q3)).mono ?_; rintro e wnp4 ⟨rfl, hbp4⟩; rw [← HOV.out]; have p4 := q3.step hbp4; have s4 := HS.out wnp4 p4)
    | (go_at_call 25; refine (CheckShare_any n o s N _ ss _ (HS8.out _ p3)).mono ?_; rintro e wnq3 ⟨rfl, hbq3⟩; rw [← HOV.out]; have q3 := p3.step hbq3; have t3 := HS.out wnq3 q3)
    | (go_at_call 17; refine (Same_any N M _ _ ss tt _ (HS8.out _ q4) (HS9.out _ q4)).mono ?_; rintro e wnp5 ⟨rfl, hbp5⟩; rw [← HSV.out]; have p5 := q4.step hbp5; have s5 := HS.out wnp5 p5)
    | (go_at_call 17; refine (Same_any N M _ _ ss tt _ (HS8.out _ p4) (HS9.out _ p4)).mono ?_; rintro e wnq4 ⟨rfl, hbq4⟩; rw [← HSV.out]; have q4 := p4.step hbq4; have t4 := HS.out wnq4 q4)
    | (go_at_call 26; refine (SameShare_any N M _ _ ss tt _ (HS8.out _ q4) (HS9.out _ q4)).mono ?_; rintro e wnp5 ⟨rfl, hbp5⟩; rw [← HSV.out]; have p5 := q4.step hbp5; have s5 := HS.out wnp5 p5)
    | (go_at_call 26; refine (SameShare_any N M _ _ ss tt _ (HS8.out _ p4) (HS9.out _ p4)).mono ?_; rintro e wnq4 ⟨rfl, hbq4⟩; rw [← HSV.out]; have q4 := p4.step hbq4; have t4 := HS.out wnq4 q4)
    | (go_at_call 16; refine (EqualSharesR_any _ _ SL SL _ (shares_stays H1.out p5.below) (shares_stays H3.out p5.below)).mono ?_; rintro e wnp6 ⟨rfl, hbp6⟩; rw [HR.out]; have p6 := p5.step hbp6; have s6 := HS.out wnp6 p6)
    | (go_at_call 27; refine (Equal_ints _ _ JL JL _ (H2.out.stays p6.below) (H4.out.stays p6.below)).mono ?_; rintro e wnpF ⟨rfl, hbpF⟩; rw [HQ.out]; have pF := p6.step hbpF; have sF := HS.out wnpF pF))
  all_goals
    go_wp2_with fail
    go_ret
    exact ⟨rfl, (S0.step (T4.step pF.below).below).below⟩

theorem ShareSays_walk (v0 : Value) (p : Plan3) (v1 : Value) (data : List Int) (v2 : Value) (ls : List Sh) (v3 : Value) (s : Sh) (v4 : Value) (t : Sh) (W : World) (h0 : IsPlan v0 p) (h1 : IsInts W v1 data) (h2 : IsShares W v2 ls) (h3 : IsShare W v3 s) (h4 : IsShare W v4 t) :
    Calls Try.prog 5 #[v0, v1, v2, v3, v4] W fun e w' => e = .returned (.bool true) ∧ Below W.heap.size W w' := by
  obtain ⟨rfl, _⟩ := h0
  obtain ⟨u3, rfl, h3, _⟩ := h3
  obtain ⟨u4, rfl, h4, _⟩ := h4
  exact shareSays_all _ _ _ _ _ v1 v2 u3 u4 data ls _ _ W h1 h2 h3 h4

end Go.Proofs.Ytlaabmpadikkjaa
