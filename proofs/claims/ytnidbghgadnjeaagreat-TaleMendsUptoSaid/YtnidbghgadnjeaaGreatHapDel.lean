/-
  slices.Clone, IndexFunc, DeleteFunc at happenings. (Printed by wip/tools/mkhapdel.py.)
-/
import Derived.Test.YtnidbghgadnjeaaGreatReadHap
import Derived.Test.YtnidbghgadnjeaaGreatMends
namespace Go.Proofs.YtnidbghgadnjeaaGreat
open Go.RowKit

theorem info_hap : (Tryz.prog.info? 50).map (fun i => (i.zero, i.size, i.bytes)) = some (some (.agg #[.int .i64 0, .int .i64 0, .int .i64 0, .slice none 0 0, .slice none 0 0, .int .i64 0, .int .i64 0]), 7, 88) := by kernel_rfl
theorem zero_hap (w : World) : (zeroValue 50).run Tryz.prog w = .ok (.agg #[.int .i64 0, .int .i64 0, .int .i64 0, .slice none 0 0, .slice none 0 0, .int .i64 0, .int .i64 0]) w := by kernel_rfl
theorem RHap.one : RHap.One := by
  rintro w cs x ⟨vd, vp, rfl, hd, hp, _⟩ c hc
  obtain ⟨a, n, rfl, _⟩ := hd.opened
  obtain ⟨a', n', rfl, _⟩ := hp.opened
  simp at hc
  rcases hc with rfl | rfl | rfl | rfl | rfl | rfl | rfl <;> rfl

set_option maxRecDepth 100000 in
set_option maxHeartbeats 1000000 in
theorem CloneHaps_any (v : Value) (b : List Hp) (w0 w : World) (hw0 : Dirty (fun _ => False) w0 w) (hv : IsHaps w0 v b) (hb : b.length ≤ 2000000) :
    Calls Tryz.prog 44 #[v] w fun e w' => (∃ v', e = .returned v' ∧ OwnRow 7 RHap (fun k => w0.heap.size ≤ k) w' 50 w.heap.size v' b) ∧ Below w.heap.size w w' := by
  have hq : ∀ (w : World) (a : Option Addr) (n c n' c' : Nat), (binOp .eql 23 (.slice a n c) (.slice none n' c')).run Tryz.prog w = .ok (.bool a.isNone) w := fun w a n c n' c' => Lib.run_eql_slice_nil w _ _ a n c n' c' Tryz.underlying23
  have hv0 := hv
  obtain ⟨ax, cx, rfl, hcx, hmx, hx⟩ := hv.opened
  obtain ⟨hm1, hm2, hm3⟩ := hmx
  cases ax with
  | none =>
    have hc0 := hm3 rfl
    have hl0 : b = [] := by
      cases b with
      | nil => rfl
      | cons y r => obtain ⟨b, off, e1, _⟩ := hx 0 y rfl; cases e1
    subst hc0 hl0
    clear hx
    go_enter Tryz.func44, Tryz.ntmps44
    go_wp2
    go_ret
    exact ⟨⟨_, rfl, OwnRow.nil _ _ _⟩, Below.refl _ _⟩
  | some ad =>
    clear hm3 hx hv
    have hown := OwnRow.made (R := RHap) (sz := 7) (E := fun k => w0.heap.size ≤ k) w 50
    have HV := Lib.hid hv0
    have HD : Hid (Dirty (fun _ => False) w0 (w.alloc (.cells #[] 50))) := Lib.hid (hw0.trans (Dirty.old (below_alloc _ _) _))
    have hsz := hw0.1
    clear hv0 hw0
    go_enter Tryz.func44, Tryz.ntmps44
    go_wp2_with (at_builtin; refine wpList_append_rows rfl _ _ 23 rfl 7 _ 50 Tryz.underlying23 _ 88 info_hap rfl (by omega) (by omega) w.heap.size _ [] rfl hown w0 HD.out b _ rfl HV.out RHap.stays RHap.one (by intro k hk; rcases hk with hk | hk; (cases hk; exact hsz); exact hk) (by simpa using hb) (by simp) ?_; intro v' w1 hown1 hg1 _)
    go_ret
    exact ⟨⟨_, rfl, hown1⟩, below_row (below_alloc _ _) hown hg1 (by simp)⟩

set_option maxRecDepth 100000 in
set_option maxHeartbeats 2000000 in
theorem IndexHaps_any (F : Nat) (eF : ∀ args w, (callFunc F args).run Tryz.prog w = .ok (.enter F args) w) (caps : Array Value) (p : Hp → Bool) (v : Value) (l : List Hp) (W : World) (hv : IsHaps W v l)
    (hF : ∀ u z w, z ∈ l → Since W.heap.size W w → IsHap w u z → Calls Tryz.prog F (#[u] ++ caps) w fun e w' => e = .returned (.bool (p z)) ∧ Below w.heap.size w w') :
    Calls Tryz.prog 85 #[v, .func (.func F) #[] caps] W fun e w' => e = .returned (.int .i64 (findFrom p l 0)) ∧ Below W.heap.size W w' := by
  obtain ⟨a, c, rfl, hcap, ⟨hm, hcm, _⟩, _⟩ := hv.opened
  have HF := Lib.hid hF
  clear hF
  go_enter Tryz.func85, Tryz.ntmps85
  go_wp2_with fail
  go_loopw [8] (fun i wr => ∃ k : Nat, k ≤ l.length ∧ i = .int .i64 k ∧ Since W.heap.size W wr ∧ findFrom p (l.drop k) k = findFrom p l 0) (fun i _ => l.length - (intOf i).toNat)
  case atStart => exact ⟨0, by omega, rfl, Since.refl W, rfl⟩
  case round =>
    obtain ⟨k, hk, rfl, hS, hq⟩ := hrel
    have HQ := Lib.hid hq
    clear hq
    by_cases hlt : k < l.length
    · obtain ⟨g, off, u, cu, u', cu', rfl, k0, k1, k2, k3, k4, k5, k6, hd, hp, hi⟩ := haps_at (hv.later RHap.stays (Dirty.old hS.below _)) (List.getElem?_eq_getElem hlt)
      have HD := Lib.hid (List.drop_eq_getElem_cons hlt)
      have HM := Lib.hid (List.getElem_mem hlt)
      generalize l[k] = x at *
      have HVER : Hid (IsHap wr (.agg #[.int .i64 x.1, .int .i64 x.2.1, .int .i64 x.2.2.1, .slice u x.2.2.2.1.length cu, .slice u' x.2.2.2.2.1.length cu', .int .i64 x.2.2.2.2.2.1, .int .i64 x.2.2.2.2.2.2]) x) := Lib.hid ⟨_, _, rfl, hd, hp, hi⟩
      obtain ⟨T, hT⟩ : ∃ T, T = p x := ⟨_, rfl⟩
      have HT := Lib.hid hT
      clear hT hd hp hi
      cases T with
      | true =>
        have HH := Lib.hid (show findFrom p l 0 = (k : Int) by rw [← HQ.out, HD.out]; simp [findFrom, ← HT.out])
        go_wp2_with (go_at_fn F; refine (HF.out _ x _ HM.out hS HVER.out).mono ?_; rintro e w' ⟨rfl, hb'⟩; rw [← HT.out])
        go_ret
        exact ⟨ret_int HH.out.symm, (hS.step hb').below⟩
      | false =>
        have HH := Lib.hid (show findFrom p (l.drop (k + 1)) (k + 1) = findFrom p l 0 by rw [← HQ.out, HD.out]; simp [findFrom, ← HT.out])
        go_wp2_with (go_at_fn F; refine (HF.out _ x _ HM.out hS HVER.out).mono ?_; rintro e w' ⟨rfl, hb'⟩; rw [← HT.out])
        clear k0 k1 k2 k3 k4 k5 k6
        go_roundw
        case rel => exact ⟨k + 1, by omega, by go_num, hS.step hb', HH.out⟩
        case measure => simp [intOf]; omega
    · obtain rfl : l.length = k := by omega
      go_wp2_with fail
      go_ret
      refine ⟨ret_int ?_, hS.below⟩
      rw [← HQ.out]
      simp [findFrom]

theorem filter_take_stepG {α : Type} {p : α → Bool} {l : List α} {k : Nat} {z : α} (h : l[k]? = some z) : (l.take (k + 1)).filter p = (l.take k).filter p ++ (if p z = true then [z] else []) := by
  rw [take_get h, List.filter_append]
  congr 1
  by_cases hz : p z = true <;> simp [hz]
theorem find_before {α : Type} {p : α → Bool} : ∀ {l : List α} {k n : Nat}, findFrom p l k = ((k + n : Nat) : Int) → ∀ x ∈ l.take n, p x = false
  | [], k, n, h, x, hx => by simp at hx
  | y :: l, k, n, h, x, hx => by
    match n, hx with
    | 0, hx => simp at hx
    | n + 1, hx =>
      unfold findFrom at h
      split at h
      · omega
      · rename_i hy
        rw [List.take_succ_cons] at hx
        rcases List.mem_cons.1 hx with rfl | hx
        · simpa using hy
        · exact find_before (l := l) (k := k + 1) (n := n) (by rw [h]; congr 1; omega) x hx
theorem run_clear_rows {P : Program} (w : World) (t e ty : TypeId) (z : Value) (zs : List Value) (ht : P.underlying t = some (.slice e)) (hv : ∀ w, (zeroValue e).run P w = .ok z w) (hz : z.cells = zs.toArray) (h1 : ∀ v ∈ zs, v.oneCell' = true) (b o n c : Nat) (hn : 0 < n) (hs : 0 < zs.length)
    (hc : ∀ j, j < n * zs.length → (w.cell? ⟨b, o + j, none⟩).isSome = true ∧ w.frozen? ⟨b, o + j, none⟩ = false) :
    (Builtin.clear_ #[t] ty #[.slice (some ⟨b, o, none⟩) n c]).run P w = .ok (.tuple #[]) (w.setCells b o (List.replicate n zs).flatten) := by
  have hfl : (List.replicate n zs).flatten.length = n * zs.length := by rw [flatten_len (sz := zs.length) (fun r hr => by rw [List.eq_of_mem_replicate hr]), List.length_replicate]
  have hzc : (Builtin.zeroCells z.cells n).toList = (List.replicate n zs).flatten := by
    rw [hz]
    unfold Builtin.zeroCells
    apply List.ext_getElem
    · simp
    · intro i h1 h2
      have h2' : i < n * zs.length := by rw [← hfl]; exact h2
      have hq : i / zs.length < n := Nat.div_lt_of_lt_mul (by rw [Nat.mul_comm]; exact h2')
      have hr : i % zs.length < zs.length := Nat.mod_lt _ hs
      have hg := flatten_get (sz := zs.length) (rows := List.replicate n zs) (i := i / zs.length) (j := i % zs.length) (r := zs) (c := zs[i % zs.length]) (fun r hr => by rw [List.eq_of_mem_replicate hr]) (by rw [List.getElem?_replicate, if_pos hq]) (List.getElem?_eq_getElem hr)
      have hdm : i / zs.length * zs.length + i % zs.length = i := by rw [Nat.mul_comm]; exact Nat.div_add_mod i zs.length
      rw [hdm] at hg
      have := (List.getElem?_eq_some_iff.1 hg).2
      rw [this]
      simp [List.getElem?_eq_getElem hr]
  have hst := run_storeCells_cells (P := P) b o (List.replicate n zs).flatten 0 w (by rw [hfl]; exact fun j hj => by simpa using (hc j hj).1) (by rw [hfl]; exact fun j hj => by simpa using (hc j hj).2) (by
    intro v hv'
    obtain ⟨r, hr, hvr⟩ := List.mem_flatten.1 hv'
    rw [List.eq_of_mem_replicate hr] at hvr
    exact h1 v hvr)
  simp only [Nat.add_zero] at hst
  obtain ⟨m, rfl⟩ : ∃ m, n = m + 1 := ⟨n - 1, by omega⟩
  simp [Builtin.clear_, run_underlying ht, hv, hzc, hst]

set_option maxRecDepth 100000 in
set_option maxHeartbeats 4000000 in
theorem DeleteFuncHaps_any (F : Nat) (eF : ∀ args w, (callFunc F args).run Tryz.prog w = .ok (.enter F args) w) (caps : Array Value) (p : Hp → Bool) (E : Nat → Prop) (base : Nat) (v : Value) (l : List Hp) (W : World) (ho : OwnRow 7 RHap E W 50 base v l)
    (hF : ∀ u z w, IsHap w u z → Calls Tryz.prog F (#[u] ++ caps) w fun e w' => e = .returned (.bool (p z)) ∧ Below w.heap.size w w') :
    Calls Tryz.prog 43 #[v, .func (.func F) #[] caps] W fun e w' => (∃ v', e = .returned v' ∧ OwnRow 7 RHap E w' 50 base v' (l.filter fun z => !p z)) ∧ W.grownBy w' v.ownBlock := by
  have HI := Lib.hid (IndexHaps_any F eF caps p v l W ho.isRow (fun u z w _ _ hk => hF u z w hk))
  have HF := Lib.hid hF
  have htop := ho.top
  obtain ⟨a, cap, rfl, hcap, ⟨hm, hcm, _⟩, _⟩ := ho.isRow.opened
  clear hF
  rcases findFrom_bdK p l 0 with hr | ⟨n, x, hr, hx, hpx⟩
  · have hfa := Lib.hid (findFrom_allK hr)
    rw [hr] at HI
    clear hr
    go_enter Tryz.func43, Tryz.ntmps43
    go_wp2_with fail
    refine HI.out.mono ?_
    rintro e w1 ⟨rfl, hb1⟩
    have HO := Lib.hid (ho.stays hb1)
    have HG := Lib.hid (World.grownBy.but (grown_of_below hb1) (Value.slice a l.length cap).ownBlock)
    clear hb1 ho
    go_wp2_with fail
    go_ret
    exact ⟨⟨_, rfl, by rw [hfa.out]; exact HO.out⟩, HG.out⟩
  · have HBF := Lib.hid (find_before (p := p) (l := l) (k := 0) (n := n) hr)
    rw [Nat.zero_add] at hr
    rw [hr] at HI
    have hnl : n < l.length := (List.getElem?_eq_some_iff.1 hx).1
    have HX := Lib.hid hx
    have HPX := Lib.hid hpx
    clear hr hx hpx
    rcases ho.shape with ⟨h5, h6⟩ | ⟨g, cap', cur, h5, hgb, hgl, hnc, _, _, _⟩
    · rw [h6] at hnl; simp at hnl
    · simp only [Value.slice.injEq, true_and] at h5
      obtain ⟨rfl, rfl⟩ := h5
      have hne : (((n : Nat) : Int) == -1) = false := by simp
      go_enter Tryz.func43, Tryz.ntmps43
      go_wp2_with fail
      refine HI.out.mono ?_
      rintro e w1 ⟨rfl, hb1⟩
      have ho1 := ho.stays hb1
      have hg1 := World.grownBy.but (grown_of_below hb1) (some g)
      clear hb1 ho
      go_wp2_with fail
      go_loopw [6, 5] (fun j i wr => ∃ j' i' : Nat, ∃ c : List Hp, j = .int .i64 j' ∧ i = .int .i64 i' ∧ i' < j' ∧ j' ≤ l.length ∧ W.grownBy wr (some g) ∧ OwnRow 7 RHap E wr 50 base (.slice (some ⟨g, 0, none⟩) l.length cap) c ∧ c.length = l.length ∧ c.take i' = (l.take j').filter (fun z => !p z) ∧ c.drop j' = l.drop j') (fun j _ _ => l.length - (intOf j).toNat)
      case atStart => exact ⟨n + 1, n, l, by go_num, rfl, by omega, by omega, hg1, ho1, rfl, by
        rw [filter_take_stepG (p := fun z => !p z) HX.out, List.filter_eq_self.2 (fun x hx => by simpa using HBF.out x hx)]
        simp [HPX.out], rfl⟩
      case round =>
        obtain ⟨j, i, c, rfl, rfl, hij, hjl, hgw, hoc, hcl, hct, hcd⟩ := hrel
        have HCT := Lib.hid hct
        have HCD := Lib.hid hcd
        have HCL := Lib.hid hcl
        clear hct hcd hcl hg1 ho1
        by_cases hlt : j < l.length
        · have hz : l[j]? = some l[j] := List.getElem?_eq_getElem hlt
          generalize l[j] = z at *
          have hcz : c[j]? = some z := by
            have := congrArg (fun r => r[0]?) HCD.out
            simpa [List.getElem?_drop, hz] using this
          have HC2 : Hid (c.drop (j + 1) = l.drop (j + 1)) := Lib.hid (by
            have := congrArg (List.drop 1) HCD.out
            simpa [List.drop_drop] using this)
          have hst := Lib.hid (filter_take_stepG (p := fun z => !p z) hz)
          obtain ⟨r, g', hg', hrl, hr1, hrc, hrf⟩ := hoc.get hcz
          simp only [Value.ownBlock, Option.some.injEq] at hg'
          subst hg'
          obtain ⟨zk, zn, zm, zdl, zpl, ze, zo⟩ := z
          obtain ⟨vd, vp, rfl, hzd, hzp, i1, i2, i3, i4, i5⟩ := hrf.now
          obtain ⟨zu, zuc, rfl, _⟩ := hzd.opened
          obtain ⟨zv, zvc, rfl, _⟩ := hzp.opened
          simp only at hrc hrf hzd hzp i1 i2 i3 i4 i5
          have k0 : wr.cell? ⟨g, j * 7, none⟩ = some (.int .i64 zk) := hrc 0 _ rfl
          have k1 : wr.cell? ⟨g, j * 7 + 1, none⟩ = some (.int .i64 zn) := hrc 1 _ rfl
          have k2 : wr.cell? ⟨g, j * 7 + 2, none⟩ = some (.int .i64 zm) := hrc 2 _ rfl
          have k3 : wr.cell? ⟨g, j * 7 + 3, none⟩ = some (.slice zu zdl.length zuc) := hrc 3 _ rfl
          have k4 : wr.cell? ⟨g, j * 7 + 4, none⟩ = some (.slice zv zpl.length zvc) := hrc 4 _ rfl
          have k5 : wr.cell? ⟨g, j * 7 + 5, none⟩ = some (.int .i64 ze) := hrc 5 _ rfl
          have k6 : wr.cell? ⟨g, j * 7 + 6, none⟩ = some (.int .i64 zo) := hrc 6 _ rfl
          have sp : ∀ q, q < 7 → (wr.cell? ⟨g, i * 7 + q, none⟩).isSome = true ∧ wr.frozen? ⟨g, i * 7 + q, none⟩ = false := fun q hq => hoc.spare (by omega)
          have HRF := Lib.hid hrf
          have HOC := Lib.hid hoc
          have BB := below_alloc wr (.cells #[.int .i64 zk, .int .i64 zn, .int .i64 zm, .slice zu zdl.length zuc, .slice zv zpl.length zvc, .int .i64 ze, .int .i64 zo] 50)
          have HK : Hid (IsHap (wr.alloc (.cells #[.int .i64 zk, .int .i64 zn, .int .i64 zm, .slice zu zdl.length zuc, .slice zv zpl.length zvc, .int .i64 ze, .int .i64 zo] 50)) (.agg #[.int .i64 zk, .int .i64 zn, .int .i64 zm, .slice zu zdl.length zuc, .slice zv zpl.length zvc, .int .i64 ze, .int .i64 zo]) (zk, zn, zm, zdl, zpl, ze, zo)) := Lib.hid ⟨_, _, rfl, hzd.stays BB, hzp.stays BB, i1, i2, i3, i4, i5⟩
          have hg2 : W.grownBy (wr.alloc (.cells #[.int .i64 zk, .int .i64 zn, .int .i64 zm, .slice zu zdl.length zuc, .slice zv zpl.length zvc, .int .i64 ze, .int .i64 zo] 50)) (some g) := hgw.trans (World.grownBy.but (grown_of_below BB) _)
          have s1 : (j : Int) < (l.length : Int) := by omega
          have s2 : (i : Int) < (l.length : Int) := by omega
          have q0 : (wr.alloc (.cells #[.int .i64 zk, .int .i64 zn, .int .i64 zm, .slice zu zdl.length zuc, .slice zv zpl.length zvc, .int .i64 ze, .int .i64 zo] 50)).cell? ⟨wr.heap.size, 0, none⟩ = some (.int .i64 zk) := by go_simp
          have q1 : (wr.alloc (.cells #[.int .i64 zk, .int .i64 zn, .int .i64 zm, .slice zu zdl.length zuc, .slice zv zpl.length zvc, .int .i64 ze, .int .i64 zo] 50)).cell? ⟨wr.heap.size, 1, none⟩ = some (.int .i64 zn) := by go_simp
          have q2 : (wr.alloc (.cells #[.int .i64 zk, .int .i64 zn, .int .i64 zm, .slice zu zdl.length zuc, .slice zv zpl.length zvc, .int .i64 ze, .int .i64 zo] 50)).cell? ⟨wr.heap.size, 2, none⟩ = some (.int .i64 zm) := by go_simp
          have q3 : (wr.alloc (.cells #[.int .i64 zk, .int .i64 zn, .int .i64 zm, .slice zu zdl.length zuc, .slice zv zpl.length zvc, .int .i64 ze, .int .i64 zo] 50)).cell? ⟨wr.heap.size, 3, none⟩ = some (.slice zu zdl.length zuc) := by go_simp
          have q4 : (wr.alloc (.cells #[.int .i64 zk, .int .i64 zn, .int .i64 zm, .slice zu zdl.length zuc, .slice zv zpl.length zvc, .int .i64 ze, .int .i64 zo] 50)).cell? ⟨wr.heap.size, 4, none⟩ = some (.slice zv zpl.length zvc) := by go_simp
          have q5 : (wr.alloc (.cells #[.int .i64 zk, .int .i64 zn, .int .i64 zm, .slice zu zdl.length zuc, .slice zv zpl.length zvc, .int .i64 ze, .int .i64 zo] 50)).cell? ⟨wr.heap.size, 5, none⟩ = some (.int .i64 ze) := by go_simp
          have q6 : (wr.alloc (.cells #[.int .i64 zk, .int .i64 zn, .int .i64 zm, .slice zu zdl.length zuc, .slice zv zpl.length zvc, .int .i64 ze, .int .i64 zo] 50)).cell? ⟨wr.heap.size, 6, none⟩ = some (.int .i64 zo) := by go_simp
          have HSP := Lib.hid sp
          clear hz hcz hrf hr1 hrc hrl hoc hgw hzd hzp sp i1 i2 i3 i4 i5
          go_upto_region 8 with fail
          obtain ⟨B7, hB7⟩ : ∃ B7, B7 = wr.heap.size := ⟨_, rfl⟩
          rw [← hB7] at q0 q1 q2 q3 q4 q5 q6 ⊢
          have HSPA : Hid (∀ q, q < 7 → ((wr.alloc (.cells #[.int .i64 zk, .int .i64 zn, .int .i64 zm, .slice zu zdl.length zuc, .slice zv zpl.length zvc, .int .i64 ze, .int .i64 zo] 50)).cell? ⟨g, i * 7 + q, none⟩).isSome = true ∧ (wr.alloc (.cells #[.int .i64 zk, .int .i64 zn, .int .i64 zm, .slice zu zdl.length zuc, .slice zv zpl.length zvc, .int .i64 ze, .int .i64 zo] 50)).frozen? ⟨g, i * 7 + q, none⟩ = false) := Lib.hid (fun q hq => by
            obtain ⟨h1, h2⟩ := HSP.out q hq
            obtain ⟨c, hc⟩ := Option.isSome_iff_exists.1 h1
            exact ⟨by rw [below_cell BB hc]; rfl, below_free BB hc h2⟩)
          have HOA := Lib.hid (HOC.out.stays BB)
          have HRA := Lib.hid (HRF.out.step (Dirty.old BB _))
          clear k0 k1 k2 k3 k4 k5 k6 BB hB7
          generalize wr.alloc (.cells #[.int .i64 zk, .int .i64 zn, .int .i64 zm, .slice zu zdl.length zuc, .slice zv zpl.length zvc, .int .i64 ze, .int .i64 zo] 50) = w2 at *
          cases hp : p (zk, zn, zm, zdl, zpl, ze, zo) with
          | true =>
            have HP := Lib.hid hp
            clear hp
            go_wp2_with (go_at_fn F; refine (HF.out _ (zk, zn, zm, zdl, zpl, ze, zo) _ HK.out).mono ?_; rintro e w3 ⟨rfl, hb3⟩; rw [HP.out])
            have hg3 := hg2.trans (World.grownBy.but (grown_of_below hb3) _)
            have HO3 := Lib.hid (HOA.out.stays hb3)
            clear hb3 q0 q1 q2 q3 q4 q5 q6
            go_roundw
            case rel => exact ⟨j + 1, i, c, by go_num, rfl, by omega, by omega, hg3, HO3.out, HCL.out, by rw [hst.out, HCT.out]; simp [HP.out], HC2.out⟩
            case measure => simp [intOf]; omega
          | false =>
            have HP := Lib.hid hp
            clear hp
            go_wp2_with (go_at_fn F; refine (HF.out _ (zk, zn, zm, zdl, zpl, ze, zo) _ HK.out).mono ?_; rintro e w3 ⟨rfl, hb3⟩; rw [HP.out]; have d0 := below_cell hb3 q0; have d1 := below_cell hb3 q1; have d2 := below_cell hb3 q2; have d3 := below_cell hb3 q3; have d4 := below_cell hb3 q4; have d5 := below_cell hb3 q5; have d6 := below_cell hb3 q6; obtain ⟨u0, hu0⟩ := Option.isSome_iff_exists.1 (HSPA.out 0 (by omega)).1; obtain ⟨u1, hu1⟩ := Option.isSome_iff_exists.1 (HSPA.out 1 (by omega)).1; obtain ⟨u2, hu2⟩ := Option.isSome_iff_exists.1 (HSPA.out 2 (by omega)).1; obtain ⟨u3, hu3⟩ := Option.isSome_iff_exists.1 (HSPA.out 3 (by omega)).1; obtain ⟨u4, hu4⟩ := Option.isSome_iff_exists.1 (HSPA.out 4 (by omega)).1; obtain ⟨u5, hu5⟩ := Option.isSome_iff_exists.1 (HSPA.out 5 (by omega)).1; obtain ⟨u6, hu6⟩ := Option.isSome_iff_exists.1 (HSPA.out 6 (by omega)).1; have x0 : w3.cell? ⟨g, i * 7, none⟩ = some u0 := below_cell hb3 hu0; have x1 := below_cell hb3 hu1; have x2 := below_cell hb3 hu2; have x3 := below_cell hb3 hu3; have x4 := below_cell hb3 hu4; have x5 := below_cell hb3 hu5; have x6 := below_cell hb3 hu6; have y0 : w3.frozen? ⟨g, i * 7, none⟩ = false := below_free hb3 hu0 (HSPA.out 0 (by omega)).2; have y1 := below_free hb3 hu1 (HSPA.out 1 (by omega)).2; have y2 := below_free hb3 hu2 (HSPA.out 2 (by omega)).2; have y3 := below_free hb3 hu3 (HSPA.out 3 (by omega)).2; have y4 := below_free hb3 hu4 (HSPA.out 4 (by omega)).2; have y5 := below_free hb3 hu5 (HSPA.out 5 (by omega)).2; have y6 := below_free hb3 hu6 (HSPA.out 6 (by omega)).2)
            have HO5 := Lib.hid ((HOA.out.stays hb3).setElem (k := i) (r := [.int .i64 zk, .int .i64 zn, .int .i64 zm, .slice zu zdl.length zuc, .slice zv zpl.length zvc, .int .i64 ze, .int .i64 zo]) (x := (zk, zn, zm, zdl, zpl, ze, zo)) (by rw [HCL.out]; omega) rfl (by intro c hc; simp at hc; rcases hc with rfl | rfl | rfl | rfl | rfl | rfl | rfl <;> rfl) (HRA.out.step (Dirty.old hb3 _)))
            have HG5 : Hid (W.grownBy (w3.setCells g (i * 7) [.int .i64 zk, .int .i64 zn, .int .i64 zm, .slice zu zdl.length zuc, .slice zv zpl.length zvc, .int .i64 ze, .int .i64 zo]) (some g)) := Lib.hid ((hg2.trans (World.grownBy.but (grown_of_below hb3) _)).trans (grown_setCellsR g _ (i * 7) w3))
            clear d0 hu0 x0 y0 q0 d1 hu1 x1 y1 q1 d2 hu2 x2 y2 q2 d3 hu3 x3 y3 q3 d4 hu4 x4 y4 q4 d5 hu5 x5 y5 q5 d6 hu6 x6 y6 q6 hb3
            go_roundw
            case rel =>
              refine ⟨j + 1, i + 1, c.set i (zk, zn, zm, zdl, zpl, ze, zo), by go_num, by go_num, by omega, by omega, HG5.out, HO5.out, by simpa using HCL.out, ?_, ?_⟩
              · rw [hst.out, ← HCT.out, List.take_add_one, List.take_set_of_le (by omega)]
                have : (c.set i (zk, zn, zm, zdl, zpl, ze, zo))[i]? = some (zk, zn, zm, zdl, zpl, ze, zo) := by rw [List.getElem?_set, if_pos rfl, if_pos (by rw [HCL.out]; omega)]
                rw [this]
                simp [HP.out]
              · rw [List.drop_set_of_lt (by omega), HC2.out]
            case measure => simp [intOf]; omega
        · obtain rfl : l.length = j := by omega
          have hclr : ∀ ty, (Builtin.clear_ #[23] ty #[.slice (some ⟨g, i * 7, none⟩) (l.length - i) (cap - i)]).run Tryz.prog wr = .ok (.tuple #[]) (wr.setCells g (i * 7) (List.replicate (l.length - i) [.int .i64 0, .int .i64 0, .int .i64 0, .slice none 0 0, .slice none 0 0, .int .i64 0, .int .i64 0]).flatten) := fun ty =>
            run_clear_rows wr _ _ ty _ [.int .i64 0, .int .i64 0, .int .i64 0, .slice none 0 0, .slice none 0 0, .int .i64 0, .int .i64 0] Tryz.underlying23 zero_hap rfl (by intro c hc; simp at hc; rcases hc with rfl | rfl | rfl <;> rfl) g (i * 7) _ _ (by omega) (by decide) (fun q hq => by
              simp only [List.length_cons, List.length_nil] at hq
              exact hoc.spare (by omega))
          have hsp := hoc.splice (k := i) (rs := List.replicate (l.length - i) [.int .i64 0, .int .i64 0, .int .i64 0, .slice none 0 0, .slice none 0 0, .int .i64 0, .int .i64 0]) (xs := List.replicate (l.length - i) ((0, 0, 0, [], [], 0, 0) : Hp)) (by rw [HCL.out]; omega) (by simp) (by intro r hr; rw [List.eq_of_mem_replicate hr]; exact ⟨rfl, by intro c hc; simp at hc; rcases hc with rfl | rfl | rfl <;> rfl⟩)
            (by
              intro q r x hr hx
              rw [List.eq_of_mem_replicate (List.mem_of_getElem? hr), List.eq_of_mem_replicate (List.mem_of_getElem? hx)]
              exact fun w' _ => ⟨_, _, rfl, IsInts.nil w', IsInts.nil w', ⟨by decide, by decide⟩, ⟨by decide, by decide⟩, ⟨by decide, by decide⟩, ⟨by decide, by decide⟩, ⟨by decide, by decide⟩⟩) (by rw [List.length_replicate]; omega) (by rw [List.length_replicate]; omega) rfl
          have hlen : (c.take i ++ List.replicate (l.length - i) ((0, 0, 0, [], [], 0, 0) : Hp) ++ c.drop (i + (List.replicate (l.length - i) ((0, 0, 0, [], [], 0, 0) : Hp)).length)).take i = l.filter fun z => !p z := by
            have hci : (c.take i).length = i := by rw [List.length_take, HCL.out]; omega
            rw [List.append_assoc, List.take_append_of_le_length (by omega), List.take_of_length_le (by omega), HCT.out, List.take_length]
          have ho6 := hsp.take i (by
            simp only [List.length_append, List.length_take, List.length_replicate]
            rw [HCL.out]
            omega) rfl
          rw [hlen] at ho6
          have HO6 := Lib.hid ho6
          have HG6 := Lib.hid (hgw.trans (grown_setCellsR g (List.replicate (l.length - i) [.int .i64 0, .int .i64 0, .int .i64 0, .slice none 0 0, .slice none 0 0, .int .i64 0, .int .i64 0]).flatten (i * 7) wr))
          have s1 : (i : Int) ≤ (l.length : Int) := by omega
          have s3 : ¬ cap = i := by omega
          have s4 : (i : Int) ≤ (cap : Int) := by omega
          clear hoc hgw ho6 hsp hlen
          go_wp2_with fail
          go_ret
          exact ⟨⟨_, rfl, HO6.out⟩, HG6.out⟩
end Go.Proofs.YtnidbghgadnjeaaGreat
