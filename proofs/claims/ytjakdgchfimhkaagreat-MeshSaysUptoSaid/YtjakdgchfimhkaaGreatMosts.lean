/-
  The library's slices.Sort, laid at this program: the numbers of this seat.
  slices.Sort at ints of the call's own.
  vote.Most walked.
  The closed fact of the vote.
-/
import Derived.Shelf.SlLaysNS
import Derived.Shelf.SortG.Plain
import Derived.Shelf.SortG.SortNone
import Derived.Test.YtjakdgchfimhkaaGreatBase
import Derived.Sort.OwnSortedInts
import Derived.Test.YtjakdgchfimhkaaGreatTries
import Derived.Deep.RegionHeld3
import Derived.Deep.DeepCutAuto
namespace Go.Proofs.YtjakdgchfimhkaaGreat
def sortInts_ren : Go.Shelf.Ren := ⟨fun | 53 => 52 | 64 => 94 | 63 => 93 | 78 => 122 | 79 => 123 | 70 => 113 | 71 => 114 | 72 => 115 | 73 => 116 | 74 => 117 | 75 => 118 | 59 => 119 | 76 => 120 | 77 => 121 | 88 => 138 | 89 => 139 | 90 => 140 | 91 => 141 | 92 => 142 | 68 => 136 | 96 => 157 | n => n, fun | 22 => 28 | 23 => 3 | 3 => 3 | 51 => 122 | 0 => 0 | 67 => 147 | 69 => 149 | 4 => 4 | 61 => 139 | 60 => 138 | 44 => 144 | 5 => 5 | 9 => 9 | 75 => 159 | 79 => 163 | 83 => 174 | 84 => 175 | n => n, fun | n => n⟩
theorem sortInts : Go.Proofs.SlLaysN.n53 Tryz.prog sortInts_ren := {
  mixed := by kernel_rfl,
  f53 := ⟨Tryz.f52.name, by decide, Tryz.func52.trans (congrArg some (by kernel_rfl))⟩,
  f59 := ⟨Tryz.f119.name, by decide, Tryz.func119.trans (congrArg some (by kernel_rfl))⟩,
  f63 := ⟨Tryz.f93.name, by decide, Tryz.func93.trans (congrArg some (by kernel_rfl))⟩,
  f64 := Tryz.func94.trans (congrArg some (by kernel_rfl)),
  f68 := ⟨Tryz.f136.name, by decide, Tryz.func136.trans (congrArg some (by kernel_rfl))⟩,
  f70 := ⟨Tryz.f113.name, by decide, Tryz.func113.trans (congrArg some (by kernel_rfl))⟩,
  f71 := ⟨Tryz.f114.name, by decide, Tryz.func114.trans (congrArg some (by kernel_rfl))⟩,
  f72 := ⟨Tryz.f115.name, by decide, Tryz.func115.trans (congrArg some (by kernel_rfl))⟩,
  f73 := ⟨Tryz.f116.name, by decide, Tryz.func116.trans (congrArg some (by kernel_rfl))⟩,
  f74 := ⟨Tryz.f117.name, by decide, Tryz.func117.trans (congrArg some (by kernel_rfl))⟩,
  f75 := ⟨Tryz.f118.name, by decide, Tryz.func118.trans (congrArg some (by kernel_rfl))⟩,
  f76 := ⟨Tryz.f120.name, by decide, Tryz.func120.trans (congrArg some (by kernel_rfl))⟩,
  f77 := ⟨Tryz.f121.name, by decide, Tryz.func121.trans (congrArg some (by kernel_rfl))⟩,
  f78 := Tryz.func122.trans (congrArg some (by kernel_rfl)),
  f79 := Tryz.func123.trans (congrArg some (by kernel_rfl)),
  f88 := ⟨Tryz.f138.name, by decide, Tryz.func138.trans (congrArg some (by kernel_rfl))⟩,
  f89 := Tryz.func139.trans (congrArg some (by kernel_rfl)),
  f90 := Tryz.func140.trans (congrArg some (by kernel_rfl)),
  f91 := ⟨Tryz.f141.name, by decide, Tryz.func141.trans (congrArg some (by kernel_rfl))⟩,
  f92 := ⟨Tryz.f142.name, by decide, Tryz.func142.trans (congrArg some (by kernel_rfl))⟩,
  f96 := ⟨Tryz.f157.name, by decide, Tryz.func157.trans (congrArg some (by kernel_rfl))⟩,
  t0 := Tryz.underlying0,
  a0 := Tryz.isAgg0,
  z0 := Tryz.sizeOf0,
  v0 := Tryz.zeroValue0,
  t3 := Tryz.underlying3,
  a3 := Tryz.isAgg3,
  z3 := Tryz.sizeOf3,
  v3 := Tryz.zeroValue3,
  t4 := Tryz.underlying4,
  a4 := Tryz.isAgg4,
  z4 := Tryz.sizeOf4,
  v4 := Tryz.zeroValue4,
  t5 := Tryz.underlying5,
  a5 := Tryz.isAgg5,
  z5 := Tryz.sizeOf5,
  v5 := Tryz.zeroValue5,
  t9 := Tryz.underlying9,
  a9 := Tryz.isAgg9,
  z9 := Tryz.sizeOf9,
  v9 := Tryz.zeroValue9,
  t22 := Tryz.underlying28,
  a22 := Tryz.isAgg28,
  z22 := Tryz.sizeOf28,
  v22 := Tryz.zeroValue28,
  t23 := Tryz.underlying3,
  a23 := Tryz.isAgg3,
  z23 := Tryz.sizeOf3,
  v23 := Tryz.zeroValue3,
  t44 := Tryz.underlying144,
  a44 := Tryz.isAgg144,
  z44 := Tryz.sizeOf144,
  v44 := Tryz.zeroValue144,
  t51 := Tryz.underlying122,
  a51 := Tryz.isAgg122,
  z51 := Tryz.sizeOf122,
  v51 := Tryz.zeroValue122,
  t60 := Tryz.underlying138,
  a60 := Tryz.isAgg138,
  z60 := Tryz.sizeOf138,
  v60 := Tryz.zeroValue138,
  t61 := Tryz.underlying139,
  a61 := Tryz.isAgg139,
  z61 := Tryz.sizeOf139,
  v61 := Tryz.zeroValue139,
  t67 := Tryz.underlying147,
  a67 := Tryz.isAgg147,
  z67 := Tryz.sizeOf147,
  v67 := Tryz.zeroValue147,
  t69 := Tryz.underlying149,
  a69 := Tryz.isAgg149,
  z69 := Tryz.sizeOf149,
  v69 := Tryz.zeroValue149,
  t75 := Tryz.underlying159,
  a75 := Tryz.isAgg159,
  z75 := Tryz.sizeOf159,
  v75 := Tryz.zeroValue159,
  t79 := Tryz.underlying163,
  a79 := Tryz.isAgg163,
  z79 := Tryz.sizeOf163,
  v79 := Tryz.zeroValue163,
  t83 := Tryz.underlying174,
  a83 := Tryz.isAgg174,
  z83 := Tryz.sizeOf174,
  v83 := Tryz.zeroValue174,
  t84 := Tryz.underlying175,
  a84 := Tryz.isAgg175,
  z84 := Tryz.sizeOf175,
  v84 := Tryz.zeroValue175
}
end Go.Proofs.YtjakdgchfimhkaaGreat

namespace Go.Proofs.YtjakdgchfimhkaaGreat
open Go.RowKit Go.Sort

def sortV (l : List Int) : List Int := l.mergeSort fun x y => decide (x ≤ y)
theorem sortV_perm (l : List Int) : (sortV l).Perm l := List.mergeSort_perm _ _
theorem sortV_len (l : List Int) : (sortV l).length = l.length := (sortV_perm l).length_eq
theorem SortInts_any (base : Nat) (v : Value) (l : List Int) (W : World) (ho : OwnInts W 3 base v l) :
    Calls Tryz.prog 52 #[v] W fun e w' => e = .returned (.tuple #[]) ∧ OwnInts w' 3 base v (sortV l) ∧ W.grownBy w' v.ownBlock := by
  obtain ⟨ho1, hb, hl⟩ := ho
  rcases ho1.2 with ⟨rfl, hn⟩ | ⟨g, cap, cur, rfl, hbg, hg, hnc, hcm, hcs, htk⟩
  · obtain rfl : l = [] := List.eq_nil_of_length_eq_zero hn
    refine (AnyG.slices_Sort_int_none sortInts none 0 W).mono ?_
    rintro e w' ⟨rfl, rfl⟩
    exact ⟨rfl, by rw [show sortV [] = [] by simp [sortV]]; exact OwnInts.nil _ _ _, World.grownBy.refl _ _⟩
  · rw [Nat.mul_one] at htk
    refine (AnyG.slices_Sort_int sortInts g 0 cap l W (holds_of_blockI hg htk) (Array.getElem?_eq_some_iff.1 hg).1 (by omega)).mono ?_
    rintro e w' ⟨rfl, n, os, rfl⟩
    refine ⟨rfl, ⟨?_, fun x hx => hb x ((sortV_perm l).mem_iff.1 hx), by rw [sortV_len]; exact hl⟩, grownBy_sortedI _⟩
    rw [sortV_len]
    exact ownsRow_sortedI (ts := sortV l) (sortV_len l) hbg hg hnc hcm hcs
end Go.Proofs.YtjakdgchfimhkaaGreat

namespace Go.Proofs.YtjakdgchfimhkaaGreat
open Go.RowKit

theorem try_any (W : World) (z : Tb) (hz : z.ok W.heap.size) (n o s : Nat) (al : Option Addr) (cl : Nat) (ls : List Sh) (hL : IsShares W (.slice al ls.length cl) ls) (hR : Right n o s ls) :
    ∀ (m i : Nat), ls.length - i ≤ m → i ≤ ls.length → TryDo W z n o s al cl ls i := by
  intro m
  induction m with
  | zero =>
    intro i hm hi x hx pk vp w st h1 h2 h3 h4 h5 h6
    subst hx
    unfold tryN
    by_cases hn : pk.length = n
    · rw [if_pos hn]
      exact try_vote W z hz n o s al cl ls hL hR i pk vp w st hn h2 h3 h4 h5 h6
    · rw [if_neg hn]
      exact try_loop W z hz n o s al cl ls hL hR i hi (fun j h7 h8 => by omega) pk vp w st (by omega) h2 h3 h4 h5 h6
  | succ m ih =>
    intro i hm hi x hx pk vp w st h1 h2 h3 h4 h5 h6
    subst hx
    unfold tryN
    by_cases hn : pk.length = n
    · rw [if_pos hn]
      exact try_vote W z hz n o s al cl ls hL hR i pk vp w st hn h2 h3 h4 h5 h6
    · rw [if_neg hn]
      exact try_loop W z hz n o s al cl ls hL hR i hi (fun j h7 h8 => ih j (by omega) h8) pk vp w st (by omega) h2 h3 h4 h5 h6

theorem oneV_ne9 (n o s N : Int) (l : List Int) : oneV n o s N l ≠ 9 := by
  have h : ∀ l : List Int, allV l ≠ 9 := by
    intro l
    induction l with
    | nil => simp [allV]
    | cons a l ih => unfold allV; split <;> simp_all
  unfold oneV planV
  repeat' split
  all_goals first | exact h _ | (intro h9; omega)
theorem checkL_ne9 (n o s : Int) : ∀ (r seen : List Sh), checkL n o s seen r ≠ 9
  | [], _ => by simp [checkL]
  | t :: r, seen => by
    unfold checkL
    have h1 := oneV_ne9 n o s t.1 t.2
    have h2 := checkL_ne9 n o s r (seen ++ [t])
    repeat' split
    all_goals first | assumption | (intro h9; omega)
theorem checksL_ne9 (n o s : Int) (ls : List Sh) : checksL n o s ls ≠ 9 := by
  have h1 := checkL_ne9 n o s ls []
  unfold checksL planV
  repeat' split
  all_goals first | assumption | (intro h9; omega)
theorem ret_3 {v u : Value} {a b : Int} (h : a = b) : Ending.returned (.tuple #[v, u, .int .i64 a]) = .returned (.tuple #[v, u, .int .i64 b]) := by rw [h]

set_option maxRecDepth 100000 in
set_option maxHeartbeats 4000000 in
theorem Most_no (n o s : Int) (v : Value) (ls : List Sh) (W : World) (hd : IsShares W v ls) (hE : checksL n o s ls ≠ 0) :
    Calls Tryz.prog 19 #[.agg #[.int .i64 n, .int .i64 o, .int .i64 s], v] W fun e w' => e = .returned (.tuple #[.slice none 0 0, .slice none 0 0, .int .i64 (mostE n o s ls)]) ∧ Below W.heap.size W w' := by
  have HE := Lib.hid hE
  have HM := Lib.hid (mostE_chk hE)
  have h9 := checksL_ne9 n o s ls
  obtain ⟨a, c, rfl, _⟩ := hd.opened
  have S0 := ((Since.refl W).alloc (.cells #[.int .i64 n, .int .i64 o, .int .i64 s] 30)).alloc (.cells #[.slice a ls.length c] 50)
  have hd0 := shares_stays hd S0.below
  clear hE hd
  obtain ⟨E, hEE⟩ : ∃ E, E = checksL n o s ls := ⟨_, rfl⟩
  rw [← hEE] at h9
  have HEE := Lib.hid hEE
  have hn0 : (E != 0) = true := by rw [hEE]; simpa using HE.out
  have hn9 : (E != 9) = true := by simpa using h9
  clear hEE
  go_enter Tryz.func19, Tryz.ntmps19
  go_wp2_with (go_at_call 47; go_fit (Join_any n o s _ ls _ hd0 HE.out); rintro e w1 ⟨rfl, hb1⟩; rw [← HEE.out])
  exact bodyPost_ret (v := .tuple #[.slice none 0 0, .slice none 0 0, .int .i64 E]) (by simp [results, Tryz.results19, go_sem]) rfl ⟨by rw [HM.out, ← HEE.out], (S0.step hb1).below⟩

set_option maxRecDepth 100000 in
set_option maxHeartbeats 4000000 in
theorem Most_ok (n o s : Nat) (v : Value) (ls : List Sh) (W : World) (hd : IsShares W v ls) (hR : Right n o s ls) :
    Calls Tryz.prog 19 #[.agg #[.int .i64 n, .int .i64 o, .int .i64 s], v] W fun e w' => (∃ vb vw, e = .returned (.tuple #[vb, vw, .int .i64 (mostE n o s ls)]) ∧ IsInts w' vb (mostB n o s ls) ∧ IsInts w' vw (mostW n o s ls)) ∧ Below W.heap.size W w' := by
  have HR := Lib.hid hR
  have HD := Lib.hid hd
  have hmany := hR.many
  have hJ : joinE n o s ls = 0 ∨ joinE n o s ls = 9 := by
    unfold joinE
    rw [if_neg (by simpa using hR.checks)]
    repeat' split
    all_goals simp
  obtain ⟨a, c, rfl, _⟩ := hd.opened
  have S0 := ((Since.refl W).alloc (.cells #[.int .i64 n, .int .i64 o, .int .i64 s] 30)).alloc (.cells #[.slice a ls.length c] 50)
  have hd0 := shares_stays hd S0.below
  clear hR hd
  obtain ⟨J, hJJ⟩ : ∃ J, J = joinE n o s ls := ⟨_, rfl⟩
  rw [← hJJ] at hJ
  have HJJ := Lib.hid hJJ
  clear hJJ
  go_enter Tryz.func19, Tryz.ntmps19
  go_upto_region 2 with (go_at_call 47; go_fit (Join_ok n o s _ ls _ hd0 HR.out HR.out.check); rintro e w1 ⟨⟨v1, rfl, hi1⟩, hb1⟩; rw [← HJJ.out])
  have S1 := S0.step hb1
  clear hd0
  have p0 : ((W.alloc (.cells #[.int .i64 n, .int .i64 o, .int .i64 s] 30)).alloc (.cells #[.slice a ls.length c] 50)).cell? ⟨W.heap.size, 0, none⟩ = some (.int .i64 n) := by go_simp
  have p1 : ((W.alloc (.cells #[.int .i64 n, .int .i64 o, .int .i64 s] 30)).alloc (.cells #[.slice a ls.length c] 50)).cell? ⟨W.heap.size, 1, none⟩ = some (.int .i64 o) := by go_simp
  have p2 : ((W.alloc (.cells #[.int .i64 n, .int .i64 o, .int .i64 s] 30)).alloc (.cells #[.slice a ls.length c] 50)).cell? ⟨W.heap.size, 2, none⟩ = some (.int .i64 s) := by go_simp
  have p3 : ((W.alloc (.cells #[.int .i64 n, .int .i64 o, .int .i64 s] 30)).alloc (.cells #[.slice a ls.length c] 50)).cell? ⟨W.heap.size + 1, 0, none⟩ = some (.slice a ls.length c) := by go_simp
  have hsz := hb1.size
  have hsz2 : W.heap.size + 2 ≤ w1.heap.size := by simpa using hsz
  obtain ⟨ws, hws, g1, g2, g3, Ss⟩ := three_boxes w1 (.slice none 0 0) (.slice none 0 0) .nilFunc 28 77
  have HWS := Lib.hid hws
  have hbs := hb1.trans (Ss.below.mono hb1.size)
  have q0 := below_cell hbs p0
  have q1 := below_cell hbs p1
  have q2 := below_cell hbs p2
  have q3 := below_cell hbs p3
  have S2 := S1.step Ss.below
  obtain ⟨z, hz⟩ : ∃ z : Tb, z = ⟨W.heap.size, W.heap.size + 1, w1.heap.size + 1, w1.heap.size, w1.heap.size + 1 + 1⟩ := ⟨_, rfl⟩
  have zp : W.heap.size = z.p := by rw [hz]
  have zl : W.heap.size + 1 = z.l := by rw [hz]
  have zw : w1.heap.size + 1 = z.w := by rw [hz]
  have zb : w1.heap.size = z.b := by rw [hz]
  have zt : w1.heap.size + 1 + 1 = z.t := by rw [hz]
  have hzo : z.ok W.heap.size := by rw [hz]; simp only [Tb.ok]; omega
  have HZ : Hid (W.heap.size = z.p ∧ W.heap.size + 1 = z.l ∧ w1.heap.size + 1 = z.w ∧ w1.heap.size = z.b ∧ w1.heap.size + 1 + 1 = z.t) := Lib.hid ⟨zp, zl, zw, zb, zt⟩
  rw [zb] at g1
  rw [zw] at g2
  rw [zt] at g3
  rw [zp] at q0 q1 q2
  rw [zl] at q3
  have htt : z.t ≠ z.p ∧ z.t ≠ z.l ∧ W.heap.size ≤ z.t := by omega
  clear p0 p1 p2 p3 hz hws hsz hsz2 hb1 zp zl zw zb zt hbs
  have hst : (store ⟨z.t, 0, none⟩ (.func (.func 48) #[] #[.pointer (some ⟨z.p, 0, none⟩), .pointer (some ⟨z.l, 0, none⟩), .pointer (some ⟨z.w, 0, none⟩), .pointer (some ⟨z.b, 0, none⟩), .pointer (some ⟨z.t, 0, none⟩)])).run Tryz.prog ws = .ok () (ws.setCell ⟨z.t, 0, none⟩ (.func (.func 48) #[] #[.pointer (some ⟨z.p, 0, none⟩), .pointer (some ⟨z.l, 0, none⟩), .pointer (some ⟨z.w, 0, none⟩), .pointer (some ⟨z.b, 0, none⟩), .pointer (some ⟨z.t, 0, none⟩)])) := by
    rw [run_store _ _ _ _ _ rfl, box_cell g3]
    simp [box_free g3]
  have hC : TryC z n o s a ls.length c (ws.setCell ⟨z.t, 0, none⟩ (.func (.func 48) #[] z.caps)) :=
    ⟨(cell_set_other _ _ _ _ htt.1.symm).trans q0, (cell_set_other _ _ _ _ htt.1.symm).trans q1, (cell_set_other _ _ _ _ htt.1.symm).trans q2, (cell_set_other _ _ _ _ htt.2.1.symm).trans q3, by
      have := heap_setCell_same ws z.t 0 _ _ (.func (.func 48) #[] z.caps) g3
      exact box_cell (by simpa using this)⟩
  have hB : TryB z (ws.setCell ⟨z.t, 0, none⟩ (.func (.func 48) #[] z.caps)) ([], []) :=
    ⟨none, 0, none, 0, 0, (Below.heap_setCell ws ⟨z.t, 0, none⟩ _ z.w hzo.2.2.2.2.1.symm).trans g2, (Below.heap_setCell ws ⟨z.t, 0, none⟩ _ z.b hzo.2.2.2.2.2.1.symm).trans g1, IsInts.nil _, IsInts.nil _, fun _ => ⟨rfl, rfl⟩⟩
  have S3 := S2.setCell (a := ⟨z.t, 0, none⟩) htt.2.2 (.func (.func 48) #[] z.caps)
  unfold Tb.caps at hC hB S3
  have HB := Lib.hid hB
  have HC := Lib.hid hC
  have HZO := Lib.hid hzo
  have hn1 := (planV_bd HR.out.plan).1
  have HTRY := Lib.hid (try_any W z hzo n o s a c ls HD.out HR.out _ 0 (Nat.le_refl _) (Nat.zero_le _))
  obtain ⟨_, _, _, c3, c4⟩ := hC
  unfold Tb.caps at c4
  clear g1 g2 g3 q0 q1 q2 q3 hB hzo Ss S2
  have hcall : Calls Tryz.prog 48 #[.int .i64 0, .slice none 0 0, .pointer (some ⟨z.p, 0, none⟩), .pointer (some ⟨z.l, 0, none⟩), .pointer (some ⟨z.w, 0, none⟩), .pointer (some ⟨z.b, 0, none⟩), .pointer (some ⟨z.t, 0, none⟩)] (ws.setCell ⟨z.t, 0, none⟩ (.func (.func 48) #[] #[.pointer (some ⟨z.p, 0, none⟩), .pointer (some ⟨z.l, 0, none⟩), .pointer (some ⟨z.w, 0, none⟩), .pointer (some ⟨z.b, 0, none⟩), .pointer (some ⟨z.t, 0, none⟩)])) fun e w' =>
      e = .returned (.tuple #[]) ∧ Since W.heap.size W w' ∧ Dirty z.E (ws.setCell ⟨z.t, 0, none⟩ (.func (.func 48) #[] #[.pointer (some ⟨z.p, 0, none⟩), .pointer (some ⟨z.l, 0, none⟩), .pointer (some ⟨z.w, 0, none⟩), .pointer (some ⟨z.b, 0, none⟩), .pointer (some ⟨z.t, 0, none⟩)])) w' ∧ TryB z w' (finV n o s ls) := by
    refine (HTRY.out 0 rfl [] (.slice none 0 0) _ ([], []) (by simp) (List.nil_sublist _) (OwnRow.nil _ _ _) S3 HC.out HB.out).mono ?_
    rintro e w' ⟨he, h1, h2, h3⟩
    refine ⟨he, h1, h2, ?_⟩
    have e1 : tryN n (castV n o s ls) [] (ls.drop 0) ([], []) = finV n o s ls := by
      unfold tryN
      rw [if_neg (by simp; omega)]
      rfl
    rwa [e1] at h3
  have HCALL := Lib.hid hcall
  clear hcall htt
  rcases hJ with rfl | rfl
  all_goals
    go_upto_region 6 with fail
    rw [← HWS.out, HZ.out.2.2.2.2, HZ.out.2.2.1, HZ.out.2.1, HZ.out.1, HZ.out.2.2.2.1]
    go_upto_region 8 with (go_at_call 48; go_fit HCALL.out; rintro e w3 ⟨rfl, S4, D4, B4⟩)
    have hC4 := HC.out.dirty HZO.out D4
    have HC4 := Lib.hid hC4
    have HME := Lib.hid (mostE_nat HR.out.checks)
    obtain ⟨aw, cw, ab, nb, cb, g1, g2, i1, i2, hnil⟩ := B4
    generalize hF : finV n o s ls = F at *
    have HF := Lib.hid hF
    have m1 := box_cell g1
    have m2 := box_cell g2
    obtain ⟨_, _, _, d3, _⟩ := hC4
    have hq : ∀ (w : World) (a : Option Addr) (n c n' c' : Nat), (binOp .eql 28 (.slice a n c) (.slice none n' c')).run Tryz.prog w = .ok (.bool a.isNone) w := fun w a n c n' c' => Lib.run_eql_slice_nil w _ _ a n c n' c' Tryz.underlying28
    clear c3 c4 hst g1 g2 hF
    by_cases hnone : F.2 = []
    · obtain ⟨rfl, rfl⟩ := hnil hnone
      have H9 := Lib.hid (show mostE n o s ls = 9 by rw [HME.out, if_pos hnone])
      have HB0 := Lib.hid (mostB_no (n := n) (o := o) (s := s) (ls := ls) (by rw [H9.out]; simp))
      have HW0 := Lib.hid (mostW_no (n := n) (o := o) (s := s) (ls := ls) (by rw [H9.out]; simp))
      clear hnone i1 i2 hnil
      go_wp2_with fail
      exact bodyPost_ret (v := .tuple #[.slice none 0 0, .slice none 0 0, .int .i64 9]) (by simp [results, Tryz.results19, go_sem]) rfl ⟨⟨_, _, ret_3 H9.out.symm, by rw [HB0.out]; exact IsInts.nil _, by rw [HW0.out]; exact IsInts.nil _⟩, S4.below⟩
    · have H0 := Lib.hid (show mostE n o s ls = 0 by rw [HME.out, if_neg hnone])
      have HB0 := Lib.hid (mostB_nat (n := n) (o := o) (s := s) (ls := ls) H0.out)
      have HW0 := Lib.hid (mostW_nat (n := n) (o := o) (s := s) (ls := ls) H0.out)
      rw [HF.out] at HB0 HW0
      have HI1 := Lib.hid i1
      have HI2 := Lib.hid i2
      have hsome : ∃ y, aw = some y := by
        obtain ⟨a', c', e1, _, _, hi⟩ := i1
        simp only [Value.slice.injEq] at e1
        obtain ⟨rfl, _, _⟩ := e1
        obtain ⟨b, off, _, e2, _⟩ := hi 0 (List.length_pos_iff.2 hnone)
        exact ⟨_, e2⟩
      obtain ⟨y, rfl⟩ := hsome
      clear hnone i1 i2 hnil
      have HMM : Hid (∀ w', Since w3.heap.size w3 w' → w'.cell? ⟨z.w, 0, none⟩ = some (.slice (some y) F.2.length cw) ∧ w'.cell? ⟨z.b, 0, none⟩ = some (.slice ab nb cb)) := Lib.hid (fun w' q => ⟨below_cell q.below m1, below_cell q.below m2⟩)
      have HLS : Hid (∀ w', Since w3.heap.size w3 w' → IsShares w' (.slice a ls.length c) ls) := Lib.hid (fun w' q => shares_stays HD.out (S4.step q.below).below)
      go_wp2_with fail
      clear m1 m2 d3
      go_loopw [35, 12] (fun i x wr => ∃ k : Nat, k ≤ ls.length ∧ i = .int .i64 k ∧ Since w3.heap.size w3 wr ∧ OwnInts wr 3 w3.heap.size x (badF F.2 0 (ls.take k))) (fun i _ _ => ls.length - (intOf i).toNat)
      case atStart => exact ⟨0, by omega, rfl, Since.refl w3, OwnInts.nil _ _ _⟩
      case round =>
        obtain ⟨k, hk, rfl, hS, ho⟩ := hrel
        obtain ⟨m1, m2⟩ := HMM.out wr hS
        by_cases hlt : k < ls.length
        · have hx : ls[k]? = some ls[k] := List.getElem?_eq_getElem hlt
          obtain ⟨g, off, u, cu, rfl, k0, k1, hiv, hi1⟩ := shares_at (HLS.out wr hS) hx
          have HST := Lib.hid (badF_step F.2 hx)
          have hol : (badF F.2 0 (ls.take k)).length ≤ 8 := by
            have := badF_len F.2 (ls.take k) 0
            simp at this
            omega
          generalize ls[k] = t at *
          have S5 := hS.alloc (.cells #[.int .i64 t.1, .slice u t.2.length cu] 58)
          have hA := below_alloc wr (.cells #[.int .i64 t.1, .slice u t.2.length cu] 58)
          have HO := Lib.hid (ho.stays hA)
          have f0 : (wr.alloc (.cells #[.int .i64 t.1, .slice u t.2.length cu] 58)).cell? ⟨wr.heap.size, 0, none⟩ = some (.int .i64 t.1) := by go_simp
          have n1 := below_cell hA m1
          clear hx hiv ho hA
          go_upto_region 14 with fail
          generalize wr.alloc (.cells #[.int .i64 t.1, .slice u t.2.length cu] 58) = w5 at *
          obtain ⟨Bt, hBt⟩ : ∃ Bt, Bt = wr.heap.size := ⟨_, rfl⟩
          rw [← hBt] at f0 ⊢
          clear hBt k0 k1 m1 m2 hS
          generalize hT : memB (k : Int) F.2 = T at *
          have HT := Lib.hid hT
          clear hT
          cases T with
          | true =>
            go_wp2_with (go_at_call 51; go_fit (Contains_ints _ F.2 (k : Int) w5 (HI1.out.stays S5.below)); rintro e w' ⟨rfl, rfl⟩; rw [HT.out])
            go_roundw
            case rel => exact ⟨k + 1, by omega, by go_num, S5, by rw [HST.out]; simpa using HO.out⟩
            case measure => simp [intOf]; omega
          | false =>
            have ho5 := HO.out.stays (below_alloc w5 (.cells #[.int .i64 t.1] 3))
            go_wp2_with (first
              | (go_at_call 51; go_fit (Contains_ints _ F.2 (k : Int) w5 (HI1.out.stays S5.below)); rintro e w' ⟨rfl, rfl⟩; rw [HT.out])
              | (at_builtin; refine wpList_append_int rfl _ _ 28 rfl 3 Tryz.underlying28 info_int w3.heap.size _ _ rfl ho5 ⟨w5.heap.size, 0, none⟩ 1 t.1 rfl (by simp) hi1 (by omega) (by have := S5.2; simp; omega) ?_; intro v' w6 ho6 hg6))
            have S6 := (S5.alloc (.cells #[.int .i64 t.1] 3)).own ho5 hg6
            have HO6 := Lib.hid ho6
            clear ho6 hg6 ho5
            go_roundw
            case rel => exact ⟨k + 1, by omega, by go_num, S6, by rw [HST.out]; simpa using HO6.out⟩
            case measure => simp [intOf]; omega
        · obtain rfl : ls.length = k := by omega
          rw [List.take_length] at ho
          have hsort : Calls Tryz.prog 52 #[u12] wr fun e w' => e = .returned (.tuple #[]) ∧ OwnInts w' 3 w3.heap.size u12 (mostW n o s ls) ∧ Since w3.heap.size w3 w' := by
            refine (SortInts_any _ _ _ wr ho).mono ?_
            rintro e w' ⟨he, h1, h2⟩
            exact ⟨he, by rw [HW0.out]; exact h1, hS.own ho h2⟩
          have HSORT := Lib.hid hsort
          clear hsort ho
          go_wp2_with (go_at_call 52; go_fit HSORT.out; rintro e w6 ⟨rfl, ho6, S6⟩; obtain ⟨n1, n2⟩ := HMM.out w6 S6)
          exact bodyPost_ret (v := .tuple #[.slice ab nb cb, u12, .int .i64 0]) (by simp [results, Tryz.results19, go_sem]) rfl ⟨⟨_, _, ret_3 H0.out.symm, by rw [HB0.out]; exact HI2.out.stays S6.below, ho6.isInts⟩, (S4.step S6.below).below⟩
end Go.Proofs.YtjakdgchfimhkaaGreat

namespace Go.Proofs.YtjakdgchfimhkaaGreat
open Go.RowKit

theorem Most_any (n o s : Int) (v : Value) (ls : List Sh) (W : World) (hd : IsShares W v ls) :
    Calls Tryz.prog 19 #[.agg #[.int .i64 n, .int .i64 o, .int .i64 s], v] W fun e w' => (∃ vb vw, e = .returned (.tuple #[vb, vw, .int .i64 (mostE n o s ls)]) ∧ IsInts w' vb (mostB n o s ls) ∧ IsInts w' vw (mostW n o s ls)) ∧ Below W.heap.size W w' := by
  by_cases h : checksL n o s ls = 0
  · have hp : planV n o s = 0 := by
      unfold checksL at h
      split at h
      · rename_i h1; exact absurd h h1
      · rename_i h1; simpa using h1
    obtain ⟨n, o, s, rfl, rfl, rfl⟩ := plan_nat hp
    exact Most_ok n o s v ls W hd (right_iff.1 h)
  · refine (Most_no n o s v ls W hd h).mono ?_
    rintro e w' ⟨rfl, hb⟩
    have hE : mostE n o s ls ≠ 0 := by rw [mostE_chk h]; exact h
    exact ⟨⟨_, _, rfl, by rw [mostB_no hE]; exact IsInts.nil _, by rw [mostW_no hE]; exact IsInts.nil _⟩, hb⟩

end Go.Proofs.YtjakdgchfimhkaaGreat
