/-
  The library's slices.Sort, laid at this program: the numbers of this seat.
  slices.Sort at ints of the call's own.
  vote.Most walked.
  The closed fact of the vote.
-/
import Derived.Shelf.SlLaysNS
import Derived.Shelf.SortG.Plain
import Derived.Shelf.SortG.SortNone
import Derived.Test.YtmlkjepfepmcgaaBase
import Derived.Sort.OwnSortedInts
import Derived.Test.YtmlkjepfepmcgaaTries
import Derived.Deep.RegionHeld3
import Derived.Deep.DeepCutAuto
namespace Go.Proofs.Ytmlkjepfepmcgaa
def sortInts_ren : Go.Shelf.Ren := ⟨fun | 53 => 13 | 64 => 32 | 63 => 31 | 78 => 54 | 79 => 55 | 70 => 45 | 71 => 46 | 72 => 47 | 73 => 48 | 74 => 49 | 75 => 50 | 59 => 51 | 76 => 52 | 77 => 53 | 88 => 71 | 89 => 72 | 90 => 73 | 91 => 74 | 92 => 75 | 68 => 66 | 96 => 79 | n => n, fun | 22 => 25 | 23 => 3 | 3 => 3 | 51 => 66 | 0 => 0 | 67 => 87 | 69 => 89 | 4 => 4 | 61 => 79 | 60 => 78 | 44 => 84 | 5 => 5 | 9 => 9 | 75 => 98 | 79 => 102 | 83 => 106 | 84 => 107 | n => n, fun | n => n⟩
theorem sortInts : Go.Proofs.SlLaysN.n53 Try.prog sortInts_ren := {
  mixed := by kernel_rfl,
  f53 := ⟨Try.f13.name, by decide, Try.func13.trans (congrArg some (by kernel_rfl))⟩,
  f59 := ⟨Try.f51.name, by decide, Try.func51.trans (congrArg some (by kernel_rfl))⟩,
  f63 := ⟨Try.f31.name, by decide, Try.func31.trans (congrArg some (by kernel_rfl))⟩,
  f64 := Try.func32.trans (congrArg some (by kernel_rfl)),
  f68 := ⟨Try.f66.name, by decide, Try.func66.trans (congrArg some (by kernel_rfl))⟩,
  f70 := ⟨Try.f45.name, by decide, Try.func45.trans (congrArg some (by kernel_rfl))⟩,
  f71 := ⟨Try.f46.name, by decide, Try.func46.trans (congrArg some (by kernel_rfl))⟩,
  f72 := ⟨Try.f47.name, by decide, Try.func47.trans (congrArg some (by kernel_rfl))⟩,
  f73 := ⟨Try.f48.name, by decide, Try.func48.trans (congrArg some (by kernel_rfl))⟩,
  f74 := ⟨Try.f49.name, by decide, Try.func49.trans (congrArg some (by kernel_rfl))⟩,
  f75 := ⟨Try.f50.name, by decide, Try.func50.trans (congrArg some (by kernel_rfl))⟩,
  f76 := ⟨Try.f52.name, by decide, Try.func52.trans (congrArg some (by kernel_rfl))⟩,
  f77 := ⟨Try.f53.name, by decide, Try.func53.trans (congrArg some (by kernel_rfl))⟩,
  f78 := Try.func54.trans (congrArg some (by kernel_rfl)),
  f79 := Try.func55.trans (congrArg some (by kernel_rfl)),
  f88 := ⟨Try.f71.name, by decide, Try.func71.trans (congrArg some (by kernel_rfl))⟩,
  f89 := Try.func72.trans (congrArg some (by kernel_rfl)),
  f90 := Try.func73.trans (congrArg some (by kernel_rfl)),
  f91 := ⟨Try.f74.name, by decide, Try.func74.trans (congrArg some (by kernel_rfl))⟩,
  f92 := ⟨Try.f75.name, by decide, Try.func75.trans (congrArg some (by kernel_rfl))⟩,
  f96 := ⟨Try.f79.name, by decide, Try.func79.trans (congrArg some (by kernel_rfl))⟩,
  t0 := Try.underlying0,
  a0 := Try.isAgg0,
  z0 := Try.sizeOf0,
  v0 := Try.zeroValue0,
  t3 := Try.underlying3,
  a3 := Try.isAgg3,
  z3 := Try.sizeOf3,
  v3 := Try.zeroValue3,
  t4 := Try.underlying4,
  a4 := Try.isAgg4,
  z4 := Try.sizeOf4,
  v4 := Try.zeroValue4,
  t5 := Try.underlying5,
  a5 := Try.isAgg5,
  z5 := Try.sizeOf5,
  v5 := Try.zeroValue5,
  t9 := Try.underlying9,
  a9 := Try.isAgg9,
  z9 := Try.sizeOf9,
  v9 := Try.zeroValue9,
  t22 := Try.underlying25,
  a22 := Try.isAgg25,
  z22 := Try.sizeOf25,
  v22 := Try.zeroValue25,
  t23 := Try.underlying3,
  a23 := Try.isAgg3,
  z23 := Try.sizeOf3,
  v23 := Try.zeroValue3,
  t44 := Try.underlying84,
  a44 := Try.isAgg84,
  z44 := Try.sizeOf84,
  v44 := Try.zeroValue84,
  t51 := Try.underlying66,
  a51 := Try.isAgg66,
  z51 := Try.sizeOf66,
  v51 := Try.zeroValue66,
  t60 := Try.underlying78,
  a60 := Try.isAgg78,
  z60 := Try.sizeOf78,
  v60 := Try.zeroValue78,
  t61 := Try.underlying79,
  a61 := Try.isAgg79,
  z61 := Try.sizeOf79,
  v61 := Try.zeroValue79,
  t67 := Try.underlying87,
  a67 := Try.isAgg87,
  z67 := Try.sizeOf87,
  v67 := Try.zeroValue87,
  t69 := Try.underlying89,
  a69 := Try.isAgg89,
  z69 := Try.sizeOf89,
  v69 := Try.zeroValue89,
  t75 := Try.underlying98,
  a75 := Try.isAgg98,
  z75 := Try.sizeOf98,
  v75 := Try.zeroValue98,
  t79 := Try.underlying102,
  a79 := Try.isAgg102,
  z79 := Try.sizeOf102,
  v79 := Try.zeroValue102,
  t83 := Try.underlying106,
  a83 := Try.isAgg106,
  z83 := Try.sizeOf106,
  v83 := Try.zeroValue106,
  t84 := Try.underlying107,
  a84 := Try.isAgg107,
  z84 := Try.sizeOf107,
  v84 := Try.zeroValue107
}
end Go.Proofs.Ytmlkjepfepmcgaa

namespace Go.Proofs.Ytmlkjepfepmcgaa
open Go.RowKit Go.Sort

def sortV (l : List Int) : List Int := l.mergeSort fun x y => decide (x ≤ y)
theorem sortV_perm (l : List Int) : (sortV l).Perm l := List.mergeSort_perm _ _
theorem sortV_len (l : List Int) : (sortV l).length = l.length := (sortV_perm l).length_eq
theorem SortInts_any (base : Nat) (v : Value) (l : List Int) (W : World) (ho : OwnInts W 3 base v l) :
    Calls Try.prog 13 #[v] W fun e w' => e = .returned (.tuple #[]) ∧ OwnInts w' 3 base v (sortV l) ∧ W.grownBy w' v.ownBlock := by
  obtain ⟨ho1, hb, hl⟩ := ho
  rcases ho1.2 with ⟨rfl, hn⟩ | ⟨g, cap, cur, rfl, hbg, hg, hnc, hcm, hcs, htk⟩
  · obtain rfl : l = [] := List.eq_nil_of_length_eq_zero hn
    refine (AnyG.slices_Sort_int_none sortInts none 0 W).mono ?_
    rintro e w' ⟨rfl, rfl⟩
    exact ⟨rfl, by rw [show sortV [] = [] by simp [sortV]]; exact OwnInts.nil _ _ _, World.grownBy.refl _ _⟩
  · rw [Nat.mul_one] at htk
    refine (AnyG.slices_Sort_int sortInts g 0 cap l W (holds_of_blockI hg htk) (Array.getElem?_eq_some_iff.1 hg).1 (by omega)).mono ?_
    rintro e w' ⟨rfl, n, os, rfl⟩
    refine ⟨rfl, ⟨?_, fun x hx => hb x ((sortV_perm l).mem_iff.1 hx), by rw [sortV_len]; exact hl⟩, grownBy_sortedI _⟩
    rw [sortV_len]
    exact ownsRow_sortedI (ts := sortV l) (sortV_len l) hbg hg hnc hcm hcs
end Go.Proofs.Ytmlkjepfepmcgaa

namespace Go.Proofs.Ytmlkjepfepmcgaa
open Go.RowKit

theorem try_any (W : World) (z : Tb) (hz : z.ok W.heap.size) (n o s : Nat) (al : Option Addr) (cl : Nat) (ls : List Sh) (hL : IsShares W (.slice al ls.length cl) ls) (hR : Right n o s ls) :
    ∀ (m i : Nat), ls.length - i ≤ m → i ≤ ls.length → TryDo W z n o s al cl ls i := by
  intro m
  induction m with
  | zero =>
    intro i hm hi x hx pk vp w st h1 h2 h3 h4 h5 h6
    subst hx
    unfold tryN
    by_cases hn : pk.length = n
    · rw [if_pos hn]
      exact try_vote W z hz n o s al cl ls hL hR i pk vp w st hn h2 h3 h4 h5 h6
    · rw [if_neg hn]
      exact try_loop W z hz n o s al cl ls hL hR i hi (fun j h7 h8 => by omega) pk vp w st (by omega) h2 h3 h4 h5 h6
  | succ m ih =>
    intro i hm hi x hx pk vp w st h1 h2 h3 h4 h5 h6
    subst hx
    unfold tryN
    by_cases hn : pk.length = n
    · rw [if_pos hn]
      exact try_vote W z hz n o s al cl ls hL hR i pk vp w st hn h2 h3 h4 h5 h6
    · rw [if_neg hn]
      exact try_loop W z hz n o s al cl ls hL hR i hi (fun j h7 h8 => ih j (by omega) h8) pk vp w st (by omega) h2 h3 h4 h5 h6

theorem oneV_ne9 (n o s N : Int) (l : List Int) : oneV n o s N l ≠ 9 := by
  have h : ∀ l : List Int, allV l ≠ 9 := by
    intro l
    induction l with
    | nil => simp [allV]
    | cons a l ih => unfold allV; split <;> simp_all
  unfold oneV planV
  repeat' split
  all_goals first | exact h _ | (intro h9; omega)
theorem checkL_ne9 (n o s : Int) : ∀ (r seen : List Sh), checkL n o s seen r ≠ 9
  | [], _ => by simp [checkL]
  | t :: r, seen => by
    unfold checkL
    have h1 := oneV_ne9 n o s t.1 t.2
    have h2 := checkL_ne9 n o s r (seen ++ [t])
    repeat' split
    all_goals first | assumption | (intro h9; omega)
theorem checksL_ne9 (n o s : Int) (ls : List Sh) : checksL n o s ls ≠ 9 := by
  have h1 := checkL_ne9 n o s ls []
  unfold checksL planV
  repeat' split
  all_goals first | assumption | (intro h9; omega)
theorem ret_3 {v u : Value} {a b : Int} (h : a = b) : Ending.returned (.tuple #[v, u, .int .i64 a]) = .returned (.tuple #[v, u, .int .i64 b]) := by rw [h]

set_option maxRecDepth 100000 in
set_option maxHeartbeats 4000000 in
theorem Most_no (n o s : Int) (v : Value) (ls : List Sh) (W : World) (hd : IsShares W v ls) (hE : checksL n o s ls ≠ 0) :
    Calls Try.prog 4 #[.agg #[.int .i64 n, .int .i64 o, .int .i64 s], v] W fun e w' => e = .returned (.tuple #[.slice none 0 0, .slice none 0 0, .int .i64 (mostE n o s ls)]) ∧ Below W.heap.size W w' := by
  have HE := Lib.hid hE
  have HM := Lib.hid (mostE_chk hE)
  have h9 := checksL_ne9 n o s ls
  obtain ⟨a, c, rfl, _⟩ := hd.opened
  have S0 := ((Since.refl W).alloc (.cells #[.int .i64 n, .int .i64 o, .int .i64 s] 23)).alloc (.cells #[.slice a ls.length c] 24)
  have hd0 := shares_stays hd S0.below
  clear hE hd
  obtain ⟨E, hEE⟩ : ∃ E, E = checksL n o s ls := ⟨_, rfl⟩
  rw [← hEE] at h9
  have HEE := Lib.hid hEE
  have hn0 : (E != 0) = true := by rw [hEE]; simpa using HE.out
  have hn9 : (E != 9) = true := by simpa using h9
  clear hEE
  go_enter Try.func4, Try.ntmps4
  go_wp2_with (go_at_call 8; go_fit (Join_any n o s _ ls _ hd0 HE.out); rintro e w1 ⟨rfl, hb1⟩; rw [← HEE.out])
  exact bodyPost_ret (v := .tuple #[.slice none 0 0, .slice none 0 0, .int .i64 E]) (by simp [results, Try.results4, go_sem]) rfl ⟨by rw [HM.out, ← HEE.out], (S0.step hb1).below⟩

set_option maxRecDepth 100000 in
set_option maxHeartbeats 4000000 in
theorem Most_ok (n o s : Nat) (v : Value) (ls : List Sh) (W : World) (hd : IsShares W v ls) (hR : Right n o s ls) :
    Calls Try.prog 4 #[.agg #[.int .i64 n, .int .i64 o, .int .i64 s], v] W fun e w' => (∃ vb vw, e = .returned (.tuple #[vb, vw, .int .i64 (mostE n o s ls)]) ∧ IsInts w' vb (mostB n o s ls) ∧ IsInts w' vw (mostW n o s ls)) ∧ Below W.heap.size W w' := by
  have HR := Lib.hid hR
  have HD := Lib.hid hd
  have hmany := hR.many
  have hJ : joinE n o s ls = 0 ∨ joinE n o s ls = 9 := by
    unfold joinE
    rw [if_neg (by simpa using hR.checks)]
    repeat' split
    all_goals simp
  obtain ⟨a, c, rfl, _⟩ := hd.opened
  have S0 := ((Since.refl W).alloc (.cells #[.int .i64 n, .int .i64 o, .int .i64 s] 23)).alloc (.cells #[.slice a ls.length c] 24)
  have hd0 := shares_stays hd S0.below
  clear hR hd
  obtain ⟨J, hJJ⟩ : ∃ J, J = joinE n o s ls := ⟨_, rfl⟩
  rw [← hJJ] at hJ
  have HJJ := Lib.hid hJJ
  clear hJJ
  go_enter Try.func4, Try.ntmps4
  go_upto_region 2 with (go_at_call 8; go_fit (Join_ok n o s _ ls _ hd0 HR.out HR.out.check); rintro e w1 ⟨⟨v1, rfl, hi1⟩, hb1⟩; rw [← HJJ.out])
  have S1 := S0.step hb1
  clear hd0
  have p0 : ((W.alloc (.cells #[.int .i64 n, .int .i64 o, .int .i64 s] 23)).alloc (.cells #[.slice a ls.length c] 24)).cell? ⟨W.heap.size, 0, none⟩ = some (.int .i64 n) := by go_simp
  have p1 : ((W.alloc (.cells #[.int .i64 n, .int .i64 o, .int .i64 s] 23)).alloc (.cells #[.slice a ls.length c] 24)).cell? ⟨W.heap.size, 1, none⟩ = some (.int .i64 o) := by go_simp
  have p2 : ((W.alloc (.cells #[.int .i64 n, .int .i64 o, .int .i64 s] 23)).alloc (.cells #[.slice a ls.length c] 24)).cell? ⟨W.heap.size, 2, none⟩ = some (.int .i64 s) := by go_simp
  have p3 : ((W.alloc (.cells #[.int .i64 n, .int .i64 o, .int .i64 s] 23)).alloc (.cells #[.slice a ls.length c] 24)).cell? ⟨W.heap.size + 1, 0, none⟩ = some (.slice a ls.length c) := by go_simp
  have hsz := hb1.size
  have hsz2 : W.heap.size + 2 ≤ w1.heap.size := by simpa using hsz
  obtain ⟨ws, hws, g1, g2, g3, Ss⟩ := three_boxes w1 (.slice none 0 0) (.slice none 0 0) .nilFunc 25 34
  have HWS := Lib.hid hws
  have hbs := hb1.trans (Ss.below.mono hb1.size)
  have q0 := below_cell hbs p0
  have q1 := below_cell hbs p1
  have q2 := below_cell hbs p2
  have q3 := below_cell hbs p3
  have S2 := S1.step Ss.below
  obtain ⟨z, hz⟩ : ∃ z : Tb, z = ⟨W.heap.size, W.heap.size + 1, w1.heap.size + 1, w1.heap.size, w1.heap.size + 1 + 1⟩ := ⟨_, rfl⟩
  have zp : W.heap.size = z.p := by rw [hz]
  have zl : W.heap.size + 1 = z.l := by rw [hz]
  have zw : w1.heap.size + 1 = z.w := by rw [hz]
  have zb : w1.heap.size = z.b := by rw [hz]
  have zt : w1.heap.size + 1 + 1 = z.t := by rw [hz]
  have hzo : z.ok W.heap.size := by rw [hz]; simp only [Tb.ok]; omega
  have HZ : Hid (W.heap.size = z.p ∧ W.heap.size + 1 = z.l ∧ w1.heap.size + 1 = z.w ∧ w1.heap.size = z.b ∧ w1.heap.size + 1 + 1 = z.t) := Lib.hid ⟨zp, zl, zw, zb, zt⟩
  rw [zb] at g1
  rw [zw] at g2
  rw [zt] at g3
  rw [zp] at q0 q1 q2
  rw [zl] at q3
  have htt : z.t ≠ z.p ∧ z.t ≠ z.l ∧ W.heap.size ≤ z.t := by omega
  clear p0 p1 p2 p3 hz hws hsz hsz2 hb1 zp zl zw zb zt hbs
  have hst : (store ⟨z.t, 0, none⟩ (.func (.func 9) #[] #[.pointer (some ⟨z.p, 0, none⟩), .pointer (some ⟨z.l, 0, none⟩), .pointer (some ⟨z.w, 0, none⟩), .pointer (some ⟨z.b, 0, none⟩), .pointer (some ⟨z.t, 0, none⟩)])).run Try.prog ws = .ok () (ws.setCell ⟨z.t, 0, none⟩ (.func (.func 9) #[] #[.pointer (some ⟨z.p, 0, none⟩), .pointer (some ⟨z.l, 0, none⟩), .pointer (some ⟨z.w, 0, none⟩), .pointer (some ⟨z.b, 0, none⟩), .pointer (some ⟨z.t, 0, none⟩)])) := by
    rw [run_store _ _ _ _ _ rfl, box_cell g3]
    simp [box_free g3]
  have hC : TryC z n o s a ls.length c (ws.setCell ⟨z.t, 0, none⟩ (.func (.func 9) #[] z.caps)) :=
    ⟨(cell_set_other _ _ _ _ htt.1.symm).trans q0, (cell_set_other _ _ _ _ htt.1.symm).trans q1, (cell_set_other _ _ _ _ htt.1.symm).trans q2, (cell_set_other _ _ _ _ htt.2.1.symm).trans q3, by
      have := heap_setCell_same ws z.t 0 _ _ (.func (.func 9) #[] z.caps) g3
      exact box_cell (by simpa using this)⟩
  have hB : TryB z (ws.setCell ⟨z.t, 0, none⟩ (.func (.func 9) #[] z.caps)) ([], []) :=
    ⟨none, 0, none, 0, 0, (Below.heap_setCell ws ⟨z.t, 0, none⟩ _ z.w hzo.2.2.2.2.1.symm).trans g2, (Below.heap_setCell ws ⟨z.t, 0, none⟩ _ z.b hzo.2.2.2.2.2.1.symm).trans g1, IsInts.nil _, IsInts.nil _, fun _ => ⟨rfl, rfl⟩⟩
  have S3 := S2.setCell (a := ⟨z.t, 0, none⟩) htt.2.2 (.func (.func 9) #[] z.caps)
  unfold Tb.caps at hC hB S3
  have HB := Lib.hid hB
  have HC := Lib.hid hC
  have HZO := Lib.hid hzo
  have hn1 := (planV_bd HR.out.plan).1
  have HTRY := Lib.hid (try_any W z hzo n o s a c ls HD.out HR.out _ 0 (Nat.le_refl _) (Nat.zero_le _))
  obtain ⟨_, _, _, c3, c4⟩ := hC
  unfold Tb.caps at c4
  clear g1 g2 g3 q0 q1 q2 q3 hB hzo Ss S2
  have hcall : Calls Try.prog 9 #[.int .i64 0, .slice none 0 0, .pointer (some ⟨z.p, 0, none⟩), .pointer (some ⟨z.l, 0, none⟩), .pointer (some ⟨z.w, 0, none⟩), .pointer (some ⟨z.b, 0, none⟩), .pointer (some ⟨z.t, 0, none⟩)] (ws.setCell ⟨z.t, 0, none⟩ (.func (.func 9) #[] #[.pointer (some ⟨z.p, 0, none⟩), .pointer (some ⟨z.l, 0, none⟩), .pointer (some ⟨z.w, 0, none⟩), .pointer (some ⟨z.b, 0, none⟩), .pointer (some ⟨z.t, 0, none⟩)])) fun e w' =>
      e = .returned (.tuple #[]) ∧ Since W.heap.size W w' ∧ Dirty z.E (ws.setCell ⟨z.t, 0, none⟩ (.func (.func 9) #[] #[.pointer (some ⟨z.p, 0, none⟩), .pointer (some ⟨z.l, 0, none⟩), .pointer (some ⟨z.w, 0, none⟩), .pointer (some ⟨z.b, 0, none⟩), .pointer (some ⟨z.t, 0, none⟩)])) w' ∧ TryB z w' (finV n o s ls) := by
    refine (HTRY.out 0 rfl [] (.slice none 0 0) _ ([], []) (by simp) (List.nil_sublist _) (OwnRow.nil _ _ _) S3 HC.out HB.out).mono ?_
    rintro e w' ⟨he, h1, h2, h3⟩
    refine ⟨he, h1, h2, ?_⟩
    have e1 : tryN n (castV n o s ls) [] (ls.drop 0) ([], []) = finV n o s ls := by
      unfold tryN
      rw [if_neg (by simp; omega)]
      rfl
    rwa [e1] at h3
  have HCALL := Lib.hid hcall
  clear hcall htt
  rcases hJ with rfl | rfl
  all_goals
    go_upto_region 6 with fail
    rw [← HWS.out, HZ.out.2.2.2.2, HZ.out.2.2.1, HZ.out.2.1, HZ.out.1, HZ.out.2.2.2.1]
    go_upto_region 8 with (go_at_call 9; go_fit HCALL.out; rintro e w3 ⟨rfl, S4, D4, B4⟩)
    have hC4 := HC.out.dirty HZO.out D4
    have HC4 := Lib.hid hC4
    have HME := Lib.hid (mostE_nat HR.out.checks)
    obtain ⟨aw, cw, ab, nb, cb, g1, g2, i1, i2, hnil⟩ := B4
    generalize hF : finV n o s ls = F at *
    have HF := Lib.hid hF
    have m1 := box_cell g1
    have m2 := box_cell g2
    obtain ⟨_, _, _, d3, _⟩ := hC4
    have hq : ∀ (w : World) (a : Option Addr) (n c n' c' : Nat), (binOp .eql 25 (.slice a n c) (.slice none n' c')).run Try.prog w = .ok (.bool a.isNone) w := fun w a n c n' c' => Lib.run_eql_slice_nil w _ _ a n c n' c' Try.underlying25
    clear c3 c4 hst g1 g2 hF
    by_cases hnone : F.2 = []
    · obtain ⟨rfl, rfl⟩ := hnil hnone
      have H9 := Lib.hid (show mostE n o s ls = 9 by rw [HME.out, if_pos hnone])
      have HB0 := Lib.hid (mostB_no (n := n) (o := o) (s := s) (ls := ls) (by rw [H9.out]; simp))
      have HW0 := Lib.hid (mostW_no (n := n) (o := o) (s := s) (ls := ls) (by rw [H9.out]; simp))
      clear hnone i1 i2 hnil
      go_wp2_with fail
      exact bodyPost_ret (v := .tuple #[.slice none 0 0, .slice none 0 0, .int .i64 9]) (by simp [results, Try.results4, go_sem]) rfl ⟨⟨_, _, ret_3 H9.out.symm, by rw [HB0.out]; exact IsInts.nil _, by rw [HW0.out]; exact IsInts.nil _⟩, S4.below⟩
    · have H0 := Lib.hid (show mostE n o s ls = 0 by rw [HME.out, if_neg hnone])
      have HB0 := Lib.hid (mostB_nat (n := n) (o := o) (s := s) (ls := ls) H0.out)
      have HW0 := Lib.hid (mostW_nat (n := n) (o := o) (s := s) (ls := ls) H0.out)
      rw [HF.out] at HB0 HW0
      have HI1 := Lib.hid i1
      have HI2 := Lib.hid i2
      have hsome : ∃ y, aw = some y := by
        obtain ⟨a', c', e1, _, _, hi⟩ := i1
        simp only [Value.slice.injEq] at e1
        obtain ⟨rfl, _, _⟩ := e1
        obtain ⟨b, off, _, e2, _⟩ := hi 0 (List.length_pos_iff.2 hnone)
        exact ⟨_, e2⟩
      obtain ⟨y, rfl⟩ := hsome
      clear hnone i1 i2 hnil
      have HMM : Hid (∀ w', Since w3.heap.size w3 w' → w'.cell? ⟨z.w, 0, none⟩ = some (.slice (some y) F.2.length cw) ∧ w'.cell? ⟨z.b, 0, none⟩ = some (.slice ab nb cb)) := Lib.hid (fun w' q => ⟨below_cell q.below m1, below_cell q.below m2⟩)
      have HLS : Hid (∀ w', Since w3.heap.size w3 w' → IsShares w' (.slice a ls.length c) ls) := Lib.hid (fun w' q => shares_stays HD.out (S4.step q.below).below)
      go_wp2_with fail
      clear m1 m2 d3
      go_loopw [35, 12] (fun i x wr => ∃ k : Nat, k ≤ ls.length ∧ i = .int .i64 k ∧ Since w3.heap.size w3 wr ∧ OwnInts wr 3 w3.heap.size x (badF F.2 0 (ls.take k))) (fun i _ _ => ls.length - (intOf i).toNat)
      case atStart => exact ⟨0, by omega, rfl, Since.refl w3, OwnInts.nil _ _ _⟩
      case round =>
        obtain ⟨k, hk, rfl, hS, ho⟩ := hrel
        obtain ⟨m1, m2⟩ := HMM.out wr hS
        by_cases hlt : k < ls.length
        · have hx : ls[k]? = some ls[k] := List.getElem?_eq_getElem hlt
          obtain ⟨g, off, u, cu, rfl, k0, k1, hiv, hi1⟩ := shares_at (HLS.out wr hS) hx
          have HST := Lib.hid (badF_step F.2 hx)
          have hol : (badF F.2 0 (ls.take k)).length ≤ 8 := by
            have := badF_len F.2 (ls.take k) 0
            simp at this
            omega
          generalize ls[k] = t at *
          have S5 := hS.alloc (.cells #[.int .i64 t.1, .slice u t.2.length cu] 38)
          have hA := below_alloc wr (.cells #[.int .i64 t.1, .slice u t.2.length cu] 38)
          have HO := Lib.hid (ho.stays hA)
          have f0 : (wr.alloc (.cells #[.int .i64 t.1, .slice u t.2.length cu] 38)).cell? ⟨wr.heap.size, 0, none⟩ = some (.int .i64 t.1) := by go_simp
          have n1 := below_cell hA m1
          clear hx hiv ho hA
          go_upto_region 14 with fail
          generalize wr.alloc (.cells #[.int .i64 t.1, .slice u t.2.length cu] 38) = w5 at *
          obtain ⟨Bt, hBt⟩ : ∃ Bt, Bt = wr.heap.size := ⟨_, rfl⟩
          rw [← hBt] at f0 ⊢
          clear hBt k0 k1 m1 m2 hS
          generalize hT : memB (k : Int) F.2 = T at *
          have HT := Lib.hid hT
          clear hT
          cases T with
          | true =>
            go_wp2_with (go_at_call 12; go_fit (Contains_ints _ F.2 (k : Int) w5 (HI1.out.stays S5.below)); rintro e w' ⟨rfl, rfl⟩; rw [HT.out])
            go_roundw
            case rel => exact ⟨k + 1, by omega, by go_num, S5, by rw [HST.out]; simpa using HO.out⟩
            case measure => simp [intOf]; omega
          | false =>
            have ho5 := HO.out.stays (below_alloc w5 (.cells #[.int .i64 t.1] 3))
            go_wp2_with (first
              | (go_at_call 12; go_fit (Contains_ints _ F.2 (k : Int) w5 (HI1.out.stays S5.below)); rintro e w' ⟨rfl, rfl⟩; rw [HT.out])
              | (at_builtin; refine wpList_append_int rfl _ _ 25 rfl 3 Try.underlying25 info_int w3.heap.size _ _ rfl ho5 ⟨w5.heap.size, 0, none⟩ 1 t.1 rfl (by simp) hi1 (by omega) (by have := S5.2; simp; omega) ?_; intro v' w6 ho6 hg6))
            have S6 := (S5.alloc (.cells #[.int .i64 t.1] 3)).own ho5 hg6
            have HO6 := Lib.hid ho6
            clear ho6 hg6 ho5
            go_roundw
            case rel => exact ⟨k + 1, by omega, by go_num, S6, by rw [HST.out]; simpa using HO6.out⟩
            case measure => simp [intOf]; omega
        · obtain rfl : ls.length = k := by omega
          rw [List.take_length] at ho
          have hsort : Calls Try.prog 13 #[u12] wr fun e w' => e = .returned (.tuple #[]) ∧ OwnInts w' 3 w3.heap.size u12 (mostW n o s ls) ∧ Since w3.heap.size w3 w' := by
            refine (SortInts_any _ _ _ wr ho).mono ?_
            rintro e w' ⟨he, h1, h2⟩
            exact ⟨he, by rw [HW0.out]; exact h1, hS.own ho h2⟩
          have HSORT := Lib.hid hsort
          clear hsort ho
          go_wp2_with (go_at_call 13; go_fit HSORT.out; rintro e w6 ⟨rfl, ho6, S6⟩; obtain ⟨n1, n2⟩ := HMM.out w6 S6)
          exact bodyPost_ret (v := .tuple #[.slice ab nb cb, u12, .int .i64 0]) (by simp [results, Try.results4, go_sem]) rfl ⟨⟨_, _, ret_3 H0.out.symm, by rw [HB0.out]; exact HI2.out.stays S6.below, ho6.isInts⟩, (S4.step S6.below).below⟩
end Go.Proofs.Ytmlkjepfepmcgaa

namespace Go.Proofs.Ytmlkjepfepmcgaa
open Go.RowKit

theorem Most_any (n o s : Int) (v : Value) (ls : List Sh) (W : World) (hd : IsShares W v ls) :
    Calls Try.prog 4 #[.agg #[.int .i64 n, .int .i64 o, .int .i64 s], v] W fun e w' => (∃ vb vw, e = .returned (.tuple #[vb, vw, .int .i64 (mostE n o s ls)]) ∧ IsInts w' vb (mostB n o s ls) ∧ IsInts w' vw (mostW n o s ls)) ∧ Below W.heap.size W w' := by
  by_cases h : checksL n o s ls = 0
  · have hp : planV n o s = 0 := by
      unfold checksL at h
      split at h
      · rename_i h1; exact absurd h h1
      · rename_i h1; simpa using h1
    obtain ⟨n, o, s, rfl, rfl, rfl⟩ := plan_nat hp
    exact Most_ok n o s v ls W hd (right_iff.1 h)
  · refine (Most_no n o s v ls W hd h).mono ?_
    rintro e w' ⟨rfl, hb⟩
    have hE : mostE n o s ls ≠ 0 := by rw [mostE_chk h]; exact h
    exact ⟨⟨_, _, rfl, by rw [mostB_no hE]; exact IsInts.nil _, by rw [mostW_no hE]; exact IsInts.nil _⟩, hb⟩

/-- One share's numbers are put elsewhere. -/
theorem OwnSh.setV {w : World} {ei e : TypeId} {base g n : Nat} {ls : List Sh} {f : Nat → Value} (h : OwnSh w ei e base g n ls f) {k : Nat} {t : Sh} (ht : ls[k]? = some t) {v : Value} {l : List Int} (hv : IsInts w v l) (hoff : ∀ j, Value.lies v j → j ≠ g) :
    IsShares (w.setCell ⟨g, k * 2 + 1, none⟩ v) (.slice (some ⟨g, 0, none⟩) n n) (ls.set k (t.1, l)) := by
  have hl := h.len
  have htop := h.top
  have hd : Dirty (fun j => j = g) w (w.setCell ⟨g, k * 2 + 1, none⟩ v) := (Dirty.of_grown (grown_setCell w ⟨g, k * 2 + 1, none⟩ v)).mono fun j _ hj => by cases hj; rfl
  refine ⟨some ⟨g, 0, none⟩, n, by rw [List.length_set, hl], by rw [List.length_set]; omega, ⟨by rw [List.length_set]; omega, by omega, fun e => by cases e⟩, fun i hi => ?_⟩
  rw [List.length_set] at hi
  have hs : ls[i]? = some ls[i] := List.getElem?_eq_getElem hi
  generalize ls[i] = u at hs
  have c0 := h.cellN hs
  have c1 := h.cellV hs
  obtain ⟨cur, _, _, hcs⟩ := h.row
  have hi0 := (hcs i u hs).2.2
  have e0 : (w.setCell ⟨g, k * 2 + 1, none⟩ v).cell? ⟨g, i * 2, none⟩ = some (.int .i64 u.1) := (World.cell?_setCell_other (a := ⟨g, k * 2 + 1, none⟩) (b := ⟨g, i * 2, none⟩) _ _ (by intro e; have e2 : k * 2 + 1 = i * 2 := congrArg Addr.off e; omega)).trans c0
  by_cases hik : k = i
  · subst hik
    rw [ht] at hs
    cases hs
    refine ⟨g, 0, v, (t.1, l), rfl, by simpa using e0, ?_, hv.framed (fun j hj _ => hoff j hj) hd, by rw [List.getElem?_set, if_pos rfl, if_pos hi], hi0⟩
    rw [Nat.zero_add]
    exact World.cell?_setCell_same _ _ _ c1
  · refine ⟨g, 0, f i, u, rfl, by simpa using e0, ?_, ?_, by rw [List.getElem?_set, if_neg hik]; exact hs, hi0⟩
    · rw [Nat.zero_add]
      exact (World.cell?_setCell_other (a := ⟨g, k * 2 + 1, none⟩) (b := ⟨g, i * 2 + 1, none⟩) _ _ (by intro e; have e2 : k * 2 + 1 = i * 2 + 1 := congrArg Addr.off e; omega)).trans c1
    · refine (h.own i u hs).isInts.framed (fun j hj _ e => ?_) hd
      obtain ⟨a, n', c', ef, rfl⟩ := hj
      subst e
      exact h.off i (by omega) (by rw [ef]; rfl)

def vtL : List Sh := [(0, [5]), (1, [8]), (2, [9]), (3, [11])]

set_option maxRecDepth 100000 in
set_option maxHeartbeats 4000000 in
theorem voted_any (W : World) : Calls Try.prog 6 #[] W fun e w' => e = .returned (.bool true) ∧ Below W.heap.size W w' := by
  have E1 := Lib.hid (show splitE ((2 : Nat) : Int) ((4 : Nat) : Int) ((2 : Nat) : Int) [5, 7] = 0 from by decide +kernel)
  have E2 : Hid (sharesL 2 [5, 7] 4 (rowsN 2 2) = [(0, [5]), (1, [7]), (2, [9]), (3, [11])]) := Lib.hid (by decide +kernel)
  have E3 := Lib.hid (show checksL ((2 : Nat) : Int) ((4 : Nat) : Int) ((2 : Nat) : Int) vtL = 0 from by decide +kernel)
  have E4 := Lib.hid (show mostE ((2 : Nat) : Int) ((4 : Nat) : Int) ((2 : Nat) : Int) vtL = 0 from by decide +kernel)
  have E5 : Hid (mostB ((2 : Nat) : Int) ((4 : Nat) : Int) ((2 : Nat) : Int) vtL = [5, 7]) := Lib.hid (by decide +kernel)
  have E6 : Hid (mostW ((2 : Nat) : Int) ((4 : Nat) : Int) ((2 : Nat) : Int) vtL = [1]) := Lib.hid (by
    rw [mostW_nat E4.out, show badF (finV 2 4 2 vtL).2 0 vtL = [1] by decide +kernel]
    simp)
  have E7 := Lib.hid (show mostE ((2 : Nat) : Int) ((4 : Nat) : Int) ((2 : Nat) : Int) [(0, [5])] = 7 from by decide +kernel)
  have E8 : Hid (eqInts [5, 7] [5, 7] = true) := Lib.hid (by decide)
  have E9 : Hid (eqInts [1] [1] = true) := Lib.hid (by decide)
  go_enter Try.func6, Try.ntmps6
  go_upto_region 2 with fail
  have c0 : (W.alloc (.cells #[.int .i64 2, .int .i64 4, .int .i64 2] 23)).cell? ⟨W.heap.size, 0, none⟩ = some (.int .i64 2) := by go_simp
  have c1 : (W.alloc (.cells #[.int .i64 2, .int .i64 4, .int .i64 2] 23)).cell? ⟨W.heap.size, 1, none⟩ = some (.int .i64 4) := by go_simp
  have c2 : (W.alloc (.cells #[.int .i64 2, .int .i64 4, .int .i64 2] 23)).cell? ⟨W.heap.size, 2, none⟩ = some (.int .i64 2) := by go_simp
  have S0 := (Since.refl W).alloc (.cells #[.int .i64 2, .int .i64 4, .int .i64 2] 23)
  generalize W.alloc (.cells #[.int .i64 2, .int .i64 4, .int .i64 2] 23) = w0 at *
  obtain ⟨B, hB⟩ : ∃ B, B = W.heap.size := ⟨_, rfl⟩
  rw [← hB] at c0 c1 c2 ⊢
  have hBl := cell_lt c0
  clear hB
  have HC : Hid (∀ w', Since w0.heap.size w0 w' → w'.cell? ⟨B, 0, none⟩ = some (.int .i64 2) ∧ w'.cell? ⟨B, 1, none⟩ = some (.int .i64 4) ∧ w'.cell? ⟨B, 2, none⟩ = some (.int .i64 2)) := Lib.hid (fun w' q => ⟨below_cell q.below c0, below_cell q.below c1, below_cell q.below c2⟩)
  go_upto_region 5 with (go_at_call 20; go_fit (Split_ok 2 4 2 _ [5, 7] _ (IsInts.fresh w0 3 [5, 7] (by decide) (wfNums _ (by decide)) _ rfl) E1.out); rintro e w1 ⟨⟨g, f, rfl, ho1⟩, hb1⟩)
  have T1 := ((Since.refl w0).alloc (.cells #[.int .i64 5, .int .i64 7] 3)).step hb1
  have hz1 := hb1.size
  rw [E2.out] at ho1
  have ho2 := ho1.stays (below_alloc w1 (.cells #[.int .i64 8] 3))
  have hgl := ho1.lt
  have hgb := ho1.low
  have k1 := ho2.cellV (k := 1) (s := (1, [7])) rfl
  have k2 := ho2.free (1 * 2 + 1)
  have HV := Lib.hid (ho2.setV (k := 1) (t := (1, [7])) rfl (IsInts.fresh w1 3 [8] (by decide) (wfNums _ (by decide)) _ rfl) (by rintro j ⟨y, n', c', e, rfl⟩; simp only [Value.slice.injEq, Option.some.injEq] at e; obtain ⟨rfl, _, _⟩ := e; dsimp only; omega))
  have T2 := T1.alloc (.cells #[.int .i64 8] 3)
  have T3 := T2.setCell (a := ⟨g, 1 * 2 + 1, none⟩) (by dsimp only; simp at hgb; omega) (.slice (some ⟨w1.heap.size, 0, none⟩) 1 1)
  have hv3 : IsShares ((w1.alloc (.cells #[.int .i64 8] 3)).setCell ⟨g, 3, none⟩ (.slice (some ⟨w1.heap.size, 0, none⟩) 1 1)) (.slice (some ⟨g, 0, none⟩) 4 4) vtL := HV.out
  have T4 : Since w0.heap.size w0 ((w1.alloc (.cells #[.int .i64 8] 3)).setCell ⟨g, 3, none⟩ (.slice (some ⟨w1.heap.size, 0, none⟩) 1 1)) := T3
  rw [World.setCell_alloc_past _ g 3 _ hgl] at hv3 T4
  obtain ⟨d0, d1, d2⟩ := HC.out _ T4
  have k3 : (w1.alloc (.cells #[.int .i64 8] 3)).cell? ⟨g, 3, none⟩ = some (f 1) := k1
  have k4 : (w1.alloc (.cells #[.int .i64 8] 3)).frozen? ⟨g, 3, none⟩ = false := k2
  rw [World.cell?_alloc_past _ g 3 hgl] at k3
  rw [World.frozen?_alloc_past _ g 3 hgl] at k4
  have k5 : w1.cell? ⟨g, 1 * 2 + 1, none⟩ = some (f 1) := k3
  have k6 : w1.frozen? ⟨g, 1 * 2 + 1, none⟩ = false := k4
  clear c0 c1 c2 hb1 ho1 ho2 k1 k2 HV
  go_upto_region 6 with fail
  generalize hw2 : (w1.setCell ⟨g, 3, none⟩ (.slice (some ⟨w1.heap.size, 0, none⟩) 1 1)).alloc (.cells #[.int .i64 8] 3) = w2 at *
  have hv4 := shares_take hv3 1 (by decide)
  go_upto_region 7 with (go_at_call 4; go_fit (Most_ok 2 4 2 _ vtL _ hv3 (right_iff.1 E3.out)); rintro e w3 ⟨⟨vb, vw, rfl, hb3, hw3⟩, hb⟩; rw [E4.out])
  have T4 := T4.step hb
  rw [E5.out] at hb3
  rw [E6.out] at hw3
  have HB3 := Lib.hid hb3
  have HW3 := Lib.hid hw3
  obtain ⟨ab, cb, rfl, _⟩ := hb3.opened
  obtain ⟨aw, cw, rfl, _⟩ := hw3.opened
  have hv5 := (shares_stays hv4 hb)
  have s4 := HC.out _ T4.drew
  clear d0 d1 d2 hb hb3 hw3 hv3 hv4 k3 k4 k5 k6 hw2
  go_region_held3 (fun w' => w'.cell? ⟨B, 0, none⟩ = some (.int .i64 2) ∧ w'.cell? ⟨B, 1, none⟩ = some (.int .i64 4) ∧ w'.cell? ⟨B, 2, none⟩ = some (.int .i64 2)) (first | exact s4 | exact s5) (first
    | (go_at_call 4; go_fit (Most_any 2 4 2 _ [(0, [5])] _ (shares_stays hv5 (Since.refl w3).drew.below)); rintro e w5 ⟨⟨vx, vy, rfl, hb5, hw5⟩, hb⟩; rw [show mostE 2 4 2 [(0, [5])] = 7 from E7.out]; have T5 := T4.drew.step hb; have p5 := (Since.refl w3).drew.step hb; have s5 := HC.out _ T5))
  all_goals
    have HB5 := Lib.hid (HB3.out.stays p5.below)
    have HW5 := Lib.hid (HW3.out.stays p5.below)
    obtain ⟨ax, cx, rfl, _⟩ := hb5.opened
    obtain ⟨ay, cy, rfl, _⟩ := hw5.opened
    clear s4 s5 hb5 hw5 hb
    go_wp2_with fail
    refine (Equal_ints _ _ [5, 7] [5, 7] _ (HB5.out.stays (below_alloc _ _)) (IsInts.fresh w5 3 [5, 7] (by decide) (wfNums _ (by decide)) _ rfl)).mono ?_
    rintro e w6 ⟨rfl, hb6⟩
    rw [E8.out]
    have T6 := (T5.alloc (.cells #[.int .i64 5, .int .i64 7] 3)).step hb6
    have HW6 := Lib.hid ((HW5.out.stays (below_alloc _ (.cells #[.int .i64 5, .int .i64 7] 3))).stays hb6)
    clear hb6
    go_wp2_with fail
    refine (Equal_ints _ _ [1] [1] _ (HW6.out.stays (below_alloc _ _)) (IsInts.fresh w6 3 [1] (by decide) (wfNums _ (by decide)) _ rfl)).mono ?_
    rintro e w7 ⟨rfl, hb7⟩
    rw [E9.out]
    have T7 := (T6.alloc (.cells #[.int .i64 1] 3)).step hb7
    clear hb7
    go_wp2_with fail
    go_ret
    exact ⟨rfl, (S0.step T7.below).below⟩
end Go.Proofs.Ytmlkjepfepmcgaa
