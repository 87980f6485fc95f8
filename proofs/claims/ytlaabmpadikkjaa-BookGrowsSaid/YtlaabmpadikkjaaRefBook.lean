/-
  The walks of the reference's From, AllBehind and CommonOf, at right books.
-/
import Derived.Test.YtlaabmpadikkjaaBook2
import Derived.Test.YtlaabmpadikkjaaFunc
namespace Go.Proofs.Ytlaabmpadikkjaa
open Go.RowKit

theorem run_makeFuncR (fn : Fn) (first cap : Array Value) (w : World) : (Instr.makeFunc fn first cap).run Try.prog w = .ok (.func fn first cap) w := rfl

set_option maxHeartbeats 1000000 in
theorem FromOne_of (p old : Int) (B0 B1 : Nat) (v : Value) (b : List Ver) (w : World) (h0 : w.cell? ⟨B0, 0, none⟩ = some v) (h1 : w.cell? ⟨B1, 0, none⟩ = some (.int .i64 old)) (hv : IsVers w v b) (T : Bool)
    (ih : ∀ W, IsVers W v b → Calls Try.prog 36 #[.agg #[v], .int .i64 p, .int .i64 old] W fun e w' => e = .returned (.bool T) ∧ Below W.heap.size W w') :
    Calls Try.prog 68 #[.int .i64 p, .pointer (some ⟨B0, 0, none⟩), .pointer (some ⟨B1, 0, none⟩)] w fun e w' => e = .returned (.bool T) ∧ Below w.heap.size w w' := by
  obtain ⟨a, c, rfl, _⟩ := hv.opened
  have IH := Lib.hid ih
  clear ih
  go_enter Try.func68, Try.ntmps68
  go_wp2_with fail
  refine (IH.out _ hv).mono ?_
  rintro e w1 ⟨rfl, hb1⟩
  go_wp2_with fail
  go_ret
  exact ⟨rfl, hb1⟩

set_option maxRecDepth 100000 in
set_option maxHeartbeats 2000000 in
theorem From_nat (v : Value) (b : List Ver) (hB : BookOk b) (old : Int) : ∀ (k : Nat) (W : World), k < b.length → IsVers W v b →
    Calls Try.prog 36 #[.agg #[v], .int .i64 k, .int .i64 old] W fun e w' => e = .returned (.bool (fromV b k old)) ∧ Below W.heap.size W w' := by
  intro k
  induction k using Nat.strongRecOn with
  | ind k ih =>
    intro W hkb hv
    have ht := hB.top
    have IH := Lib.hid ih
    have HB := Lib.hid hB
    clear ih hB
    obtain ⟨a, c, rfl, hc, ⟨hm, hcm, _⟩, _⟩ := hv.opened
    have S0 := ((Since.refl W).alloc (.cells #[.slice a b.length c] 50)).alloc (.cells #[.int .i64 old] 3)
    by_cases he : (k : Int) = old
    · have HF := Lib.hid (show fromV b k old = true by rw [← he]; exact from_self _ _)
      have hd : ((k : Int) == old) = true := by simpa using he
      clear he hv
      go_enter Try.func36, Try.ntmps36
      go_wp2_with fail
      go_ret
      exact ⟨ret_bool HF.out.symm, S0.below⟩
    · have hx : b[k]? = some b[k] := List.getElem?_eq_getElem hkb
      have HF := Lib.hid (show fromV b k old = b[k].1.any (fun p => fromV b p old) by
        rw [fromV_step HB.out (by omega) (by omega), show ((k : Int)).toNat = k by omega, pars_get hx]
        simp [he])
      have hpb := (HB.out.par k _ hx).1
      have hd : ((k : Int) == old) = false := by simpa using he
      have hv2 := hv.later RVer.stays (Dirty.old S0.below _)
      generalize b[k] = x at *
      obtain ⟨g, off, u, cu, e1, k0, _, _, _, hp, _⟩ := vers_at hv2 hx
      subst e1
      have c0 : ((W.alloc (.cells #[.slice (some ⟨g, off, none⟩) b.length c] 50)).alloc (.cells #[.int .i64 old] 3)).cell? ⟨W.heap.size, 0, none⟩ = some (.slice (some ⟨g, off, none⟩) b.length c) := by go_simp
      have c1 : ((W.alloc (.cells #[.slice (some ⟨g, off, none⟩) b.length c] 50)).alloc (.cells #[.int .i64 old] 3)).cell? ⟨W.heap.size + 1, 0, none⟩ = some (.int .i64 old) := by go_simp
      have s1 : (k : Int) < (b.length : Int) := by omega
      have s0 : (0 : Int) ≤ (k : Int) := by omega
      have HPB := Lib.hid hpb
      have kk := k0
      obtain ⟨w0, hw0⟩ : ∃ w0, w0 = (W.alloc (.cells #[.slice (some ⟨g, off, none⟩) b.length c] 50)).alloc (.cells #[.int .i64 old] 3) := ⟨_, rfl⟩
      obtain ⟨B0, hB0⟩ : ∃ B, B = W.heap.size := ⟨_, rfl⟩
      obtain ⟨B1, hB1⟩ : ∃ B, B = W.heap.size + 1 := ⟨_, rfl⟩
      rw [← hw0] at S0 hv2 k0 hp c0 c1
      rw [← hB0] at c0
      rw [← hB1] at c1
      have HW := Lib.hid hw0
      have HB0 := Lib.hid hB0
      have HB1 := Lib.hid hB1
      clear he hx hpb hw0 hB0 hB1 hv
      have hmf := run_makeFuncR
      have hcall := Lib.hid (ContainsFuncInts_any 68 (fun _ _ => rfl) #[.pointer (some ⟨B0, 0, none⟩), .pointer (some ⟨B1, 0, none⟩)] (fun p => fromV b p old) _ x.1 w0 hp (fun p w hm hS => by
        have hb := HPB.out p hm
        obtain ⟨m, rfl⟩ := Int.eq_ofNat_of_zero_le hb.1
        exact FromOne_of m old B0 B1 _ b w ((hS.below.cell (p := ⟨B0, 0, none⟩) (cell_lt c0)).trans c0) ((hS.below.cell (p := ⟨B1, 0, none⟩) (cell_lt c1)).trans c1) (hv2.later RVer.stays (Dirty.old hS.below _)) _ (fun W hW => IH.out m (by omega) W (by omega) hW)))
      obtain ⟨T, hT⟩ : ∃ T, T = x.1.any (fun p => fromV b p old) := ⟨_, rfl⟩
      rw [← hT] at hcall HF
      clear hT
      go_enter Try.func36, Try.ntmps36
      go_wp2_with fail
      rw [← HW.out, ← HB1.out, ← HB0.out]
      refine hcall.out.mono ?_
      rintro e w1 ⟨rfl, hb1⟩
      have S1 := S0.step hb1
      go_wp2_with fail
      go_ret
      exact ⟨ret_bool HF.out.symm, S1.below⟩

theorem From_any (v : Value) (b : List Ver) (k old : Int) (W : World) (hv : IsVers W v b) (hB : bookV b = 0) (h0 : 0 ≤ k) (h1 : k < b.length) :
    Calls Try.prog 36 #[.agg #[v], .int .i64 k, .int .i64 old] W fun e w' => e = .returned (.bool (fromV b k old)) ∧ Below W.heap.size W w' := by
  obtain ⟨n, rfl⟩ := Int.eq_ofNat_of_zero_le h0
  exact From_nat v b (bookV_ok.1 hB) old n W (by omega) hv

theorem filter_range_step (p : Int → Bool) (k : Nat) : (((List.range (k + 1)).map fun (j : Nat) => (j : Int)).filter p) = (((List.range k).map fun (j : Nat) => (j : Int)).filter p) ++ (if p k = true then [(k : Int)] else []) := by
  rw [List.range_succ, List.map_append, List.filter_append]
  congr 1
  by_cases h : p k = true <;> simp [h]

set_option maxRecDepth 100000 in
set_option maxHeartbeats 2000000 in
theorem AllBehind_any (v : Value) (b : List Ver) (k : Nat) (W : World) (hv : IsVers W v b) (hB : bookV b = 0) (hk : k < b.length) :
    Calls Try.prog 47 #[.agg #[v], .int .i64 k] W fun e w' => (∃ v', e = .returned v' ∧ OwnInts w' 3 W.heap.size v' (behindL b k)) ∧ Below W.heap.size W w' := by
  have ht := (bookV_ok.1 hB).top
  have HB := Lib.hid hB
  obtain ⟨a, c, rfl, hc, ⟨hm, hcm, _⟩, _⟩ := hv.opened
  have S0 := (Since.refl W).alloc (.cells #[.slice a b.length c] 50)
  have hv0 := hv.stays RVer.stays (below_alloc _ (.cells #[.slice a b.length c] 50))
  have c0 : (W.alloc (.cells #[.slice a b.length c] 50)).cell? ⟨W.heap.size, 0, none⟩ = some (.slice a b.length c) := by go_simp
  clear hv hB
  go_enter Try.func47, Try.ntmps47
  go_wp2_with fail
  obtain ⟨B, hBB⟩ : ∃ B, B = W.heap.size := ⟨_, rfl⟩
  rw [← hBB] at c0 ⊢
  clear hBB
  generalize W.alloc (.cells #[.slice a b.length c] 50) = w0 at *
  have l0 := cell_lt c0
  go_loopw [9, 5] (fun i o wr => ∃ j : Nat, j ≤ k + 1 ∧ i = .int .i64 j ∧ Since w0.heap.size w0 wr ∧ OwnInts wr 3 w0.heap.size o (((List.range j).map fun (j : Nat) => (j : Int)).filter fun o => fromV b k o)) (fun i _ _ => k + 1 - (intOf i).toNat)
  case atStart => exact ⟨0, by omega, rfl, Since.refl w0, OwnInts.nil _ _ _⟩
  case round =>
    obtain ⟨j, hj, rfl, hS, ho⟩ := hrel
    by_cases hlt : j < k + 1
    · have d0 := (hS.below.cell (p := ⟨B, 0, none⟩) l0).trans c0
      have HFS := Lib.hid (filter_range_step (fun o => fromV b k o) j)
      have hol : (((List.range j).map fun (j : Nat) => (j : Int)).filter fun o => fromV b k o).length ≤ 1000000 := Nat.le_trans (List.length_filter_le _ _) (by simp; omega)
      have s1 : (j : Int) < (k : Int) + 1 := by omega
      go_wp2_with fail
      refine (From_any _ b k j _ (hv0.later RVer.stays (Dirty.old hS.below _)) HB.out (by omega) (by omega)).mono ?_
      rintro e w1 ⟨rfl, hb1⟩
      have S1 := hS.step hb1
      have ho1 := ho.stays hb1
      have hgs := S1.2
      obtain ⟨T, hT⟩ : ∃ T, T = fromV b k j := ⟨_, rfl⟩
      rw [← hT]
      have HT := Lib.hid hT
      clear hT d0 ho hb1 hS
      cases T with
      | true =>
        go_wp2_with (at_builtin; refine wpList_append_int rfl _ _ 24 rfl 3 Try.underlying24 info_int w0.heap.size _ _ rfl (ho1.stays (below_alloc w1 _)) ⟨w1.heap.size, 0, none⟩ 1 (j : Int) rfl (by simp) ⟨by omega, by omega⟩ (by omega) (by simp; omega) ?_; intro v' w2 ho2 hg2)
        have S2 := (S1.alloc (.cells #[.int .i64 (j : Int)] 3)).own (ho1.stays (below_alloc w1 _)) hg2
        have HO2 := Lib.hid ho2
        clear ho2 hg2 ho1
        go_roundw
        case rel => exact ⟨j + 1, by omega, by go_num, S2, by rw [HFS.out]; simpa [← HT.out] using HO2.out⟩
        case measure => simp [intOf]; omega
      | false =>
        go_wp2_with fail
        go_roundw
        case rel => exact ⟨j + 1, by omega, by go_num, S1, by rw [HFS.out]; simpa [← HT.out] using ho1⟩
        case measure => simp [intOf]; omega
    · obtain rfl : j = k + 1 := by omega
      have HO := Lib.hid ho
      clear ho
      go_wp2_with fail
      go_ret
      exact ⟨⟨_, rfl, by unfold behindL; exact HO.out.mono S0.2⟩, (S0.step hS.below).below⟩

end Go.Proofs.Ytlaabmpadikkjaa
