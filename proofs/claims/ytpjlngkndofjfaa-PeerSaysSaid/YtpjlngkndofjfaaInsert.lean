/-
  The walk of slices.Insert of one kept share into an own row.
-/
import Derived.Test.YtpjlngkndofjfaaPeerRow
import Derived.Lib.Overlaps
import Derived.Deep.RegionLaw
namespace Go.Proofs.Ytpjlngkndofjfaa
open Go.RowKit

set_option maxRecDepth 100000 in
set_option maxHeartbeats 2000000 in
theorem InsertKept_any (E : Nat → Prop) (base : Nat) (v : Value) (l : List Kp) (i : Nat) (y : Kp) (u : Value) (gx : Nat) (W : World) (ho : OwnRow 3 RKept E W 44 base v l) (hi : i ≤ l.length) (htop : l.length < 1000000) (hbase : base ≤ W.heap.size)
    (hx : W.heap[gx]? = some (.cells #[.int .i64 y.1, .int .i64 y.2.1, u] 44 (0, 0))) (hne : v.ownBlock ≠ some gx) (hR : Framed (fun k => v.ownBlock = some k ∨ E k) RKept W [.int .i64 y.1, .int .i64 y.2.1, u] y) :
    Calls Try.prog 36 #[v, .int .i64 i, .slice (some ⟨gx, 0, none⟩) 1 1] W fun e w' =>
      (∃ v', e = .returned v' ∧ OwnRow 3 RKept E w' 44 base v' (l.take i ++ y :: l.drop i) ∧ (v'.ownBlock = v.ownBlock ∨ ∃ k, v'.ownBlock = some k ∧ W.heap.size ≤ k)) ∧ W.grownBy w' v.ownBlock := by
  have hone : ∀ c ∈ [Value.int .i64 y.1, .int .i64 y.2.1, u], c.oneCell' = true := by
    obtain ⟨u', e, hu, _⟩ := hR.now
    simp at e
    subst e
    obtain ⟨a, c, rfl, _⟩ := hu.opened
    intro c hc
    simp at hc
    rcases hc with rfl | rfl | rfl <;> rfl
  have hcx : ∀ j c, [Value.int .i64 y.1, .int .i64 y.2.1, u][j]? = some c → W.cell? ⟨gx, j, none⟩ = some c := by
    intro j c hj
    rw [World.cell?, hx]
    match j, hj with
    | 0, hj => simpa using hj
    | 1, hj => simpa using hj
    | 2, hj => simpa using hj
  obtain ⟨a, cap, rfl, hcap, ⟨hm, hcm, _⟩, _⟩ := ho.isRow.opened
  by_cases hil : i = l.length
  · subst hil
    have HO := Lib.hid ho
    have HX := Lib.hid hcx
    have HN := Lib.hid hone
    have HR := Lib.hid hR
    have HE := Lib.hid (show l.take l.length ++ y :: l.drop l.length = l ++ [y] by simp)
    have hii : ((l.length : Int) == (l.length : Int)) = true := by simp
    clear ho hcx hone hR hx
    rcases Nat.lt_or_ge l.length cap with hcl | hcl
    case' inr => obtain rfl : cap = l.length := by omega
    case' inl => have hcl2 : ¬ cap = l.length := by omega
    all_goals
     go_enter Try.func36, Try.ntmps36
     go_wp2_with (at_builtin; refine wpList_append_row rfl _ _ 35 rfl 3 E 44 Try.underlying35 _ 40 info_kept rfl (by omega) (by omega) base _ l (by rfl) HO.out ⟨gx, 0, none⟩ 1 [.int .i64 y.1, .int .i64 y.2.1, u] y rfl rfl HN.out (fun j c hj => by rw [add_zero']; exact HX.out j c hj) HR.out (by omega) hbase ?_; intro v' w1 ho1 hg1 hb1)
     all_goals
      have HO1 := Lib.hid ho1
      have HG1 := Lib.hid hg1
      have HB1 := Lib.hid hb1
      clear ho1 hg1 hb1
      go_wp2_with fail
      go_ret
      refine ⟨⟨_, rfl, (by first | exact HO1.out | (rw [HE.out]; exact HO1.out)), ?_⟩, HG1.out⟩
      rcases HB1.out with h | h
      · exact Or.inl h
      · exact Or.inr ⟨_, h, Nat.le_refl _⟩
  · have hilt : i < l.length := by omega
    rcases ho.shape with ⟨h5, h6⟩ | ⟨g, cap', cur, h5, hgb, hgl, hnc, _, hg, hcs⟩
    · rw [h6] at hilt; simp at hilt
    · simp only [Value.slice.injEq, true_and] at h5
      obtain ⟨rfl, rfl⟩ := h5
      obtain ⟨i0, hi0, hz0, hs0, hb0⟩ := info_parts info_kept
      have hii : ((i : Int) == (l.length : Int)) = false := beq_eq_false_iff_ne.2 (by omega)
      have hci : ¬ cap = i := by omega
      have b1 : (i : Int) ≤ (l.length : Int) := by omega
      have b2 : (i : Int) ≤ (cap : Int) := by omega
      obtain ⟨rs, r1, r2, r3, r4, r5⟩ := ho.part i
      have hgx : gx ≠ g := fun e => hne (by rw [e]; rfl)
      have wi1 : IntKind.i64.wrap ((i : Int) + 1) = ((i + 1 : Nat) : Int) := by rw [IntWalk.i64_in _ (by omega)]; omega
      have wl1 : IntKind.i64.wrap ((l.length : Int) + 1) = ((l.length + 1 : Nat) : Int) := by rw [IntWalk.i64_in _ (by omega)]; omega
      have wk : IntKind.i64.wrap (((l.length + 1 : Nat) : Int) - (i : Int)) = ((l.length + 1 - i : Nat) : Int) := by rw [IntWalk.i64_in _ (by omega)]; omega
      by_cases hroom : l.length + 1 ≤ cap
      · have c1 : ¬ (cap : Int) < ((l.length + 1 : Nat) : Int) := by omega
        have hc3 : ¬ cap = i + 1 := by omega
        have b3 : (0 : Int) ≤ (i : Int) + 1 := by omega
        have b4 : ((i : Int) + 1).toNat = i + 1 := by omega
        have b5 : (i : Int) + 1 ≤ (l.length : Int) + 1 := by omega
        have b6 : (l.length : Int) + 1 ≤ (cap : Int) := by omega
        have HO := Lib.hid ho
        have HX := Lib.hid hcx
        have HN := Lib.hid hone
        have HR := Lib.hid hR
        have HR3 := Lib.hid r3
        have HR5 := Lib.hid r5
        have hgx0 : W.shape? gx = some (44, 3) := by simp [World.shape?, hx]
        have hg0 : W.shape? g = some (44, cap * 3) := by simp [World.shape?, hg, hcs]
        have hsz : ∀ w, (Go.sizeOf 44).run Try.prog w = .ok 3 w := fun w => by simp [sizeOf, typeInfo, hi0, hs0]
        have hov : (callFunc 53 #[.slice (some ⟨gx, 0, none⟩) 1 1, .slice (some ⟨g, (i + 1) * 3, none⟩) (l.length - i) (cap - (i + 1))]).run Try.prog W = .ok (.value (.bool false)) W := by
          rw [run_callFunc_extern Try.func53 (by kernel_rfl) (by kernel_rfl) (by kernel_rfl) (e := Extern.SlicesOverlaps.overlaps #[35, 35] #[4]) (by kernel_rfl),
            Lib.run_overlaps_apart W 35 4 44 Try.underlying35 3 hsz ⟨gx, 0, none⟩ ⟨g, (i + 1) * 3, none⟩ 1 1 _ _ hgx 44 44 3 (cap * 3) hgx0 hg0 (by omega) (by simp [World.frozen?, hx]) (by simp [World.frozen?, hx])]
          rfl
        have hn2 : Hid (rs.flatten.length = Nat.min (l.length + 1 - i) (l.length - i) * i0.size) := Lib.hid (by rw [hs0, r4, show Nat.min (l.length + 1 - i) (l.length - i) = l.length - i from Nat.min_eq_right (by omega)])
        have h12 : Hid (∀ c ∈ rs.flatten, c.oneCell' = true) := Lib.hid (fun c hc => by
          obtain ⟨q, hq, hcq⟩ := List.mem_flatten.1 hc
          exact (r2 q hq).2 c hcq)
        have hcap3 : (l.length + 1) * 3 ≤ cap * 3 := Nat.mul_le_mul_right _ hroom
        have hcp2 : ∀ ty, (Builtin.copy_ #[35, 35] ty #[.slice (some ⟨g, (i + 1) * 3, none⟩) (l.length - i) (cap - (i + 1)), .slice (some ⟨g, i * 3, none⟩) (l.length + 1 - i) (cap - i)]).run Try.prog W.drew = .ok (goInt (Nat.min (l.length + 1 - i) (l.length - i))) (W.drew.setCells g ((i + 1) * 3) rs.flatten) := fun ty =>
          run_copy_big W.drew _ _ ty 44 i0 g ((i + 1) * 3) _ _ ⟨g, i * 3, none⟩ _ _ _ Try.underlying35 hi0 hn2.out (fun j c hj => by rw [add_none']; exact HR5.out j c hj) (fun j hj => HO.out.drew.spare (by rw [r4] at hj; omega)) h12.out
        have hsp := HO.out.drew.splice (k := i + 1) (by omega) (rs := rs) (xs := l.drop i) r1 r2 (fun m q x hq hx => (HR3.out m q x hq hx).step ⟨Nat.le_refl _, fun _ _ _ => rfl⟩) (by rw [List.length_drop]; omega) (by rw [List.length_drop]; omega) (n := l.length + 1) (by simp; omega)
        have e3 : l.take (i + 1) ++ l.drop i ++ l.drop (i + 1 + (l.drop i).length) = l.take (i + 1) ++ l.drop i := by
          rw [show l.drop (i + 1 + (l.drop i).length) = [] from List.drop_of_length_le (by rw [List.length_drop]; omega), List.append_nil]
        rw [e3] at hsp
        have hg1 := (show W.grownBy W.drew (some g) from ⟨rfl, rfl, rfl, Nat.le_refl _, fun _ _ _ => rfl⟩).trans (grown_setCellsR g rs.flatten ((i + 1) * 3) W.drew)
        have HSP := Lib.hid hsp
        have HG1 := Lib.hid hg1
        have e4 : (l.take (i + 1) ++ l.drop i).set i y = l.take i ++ y :: l.drop i := by
          rw [List.set_append_left _ _ (by rw [List.length_take]; omega), List.set_eq_take_append_cons_drop, if_pos (by rw [List.length_take]; omega), List.take_take, Nat.min_eq_left (by omega), List.drop_of_length_le (l := l.take (i + 1)) (by rw [List.length_take]; omega)]
          simp
        have E4 := Lib.hid e4
        have hk1 : i < (l.take (i + 1) ++ l.drop i).length := by simp; omega
        have HK1 := Lib.hid hk1
        clear hx r3 r5 hil hroom e3 e4 hsp hg1 hk1 hgx0 hg0 hsz hg hcs r1 r2 r4 hone hR hcx ho
        go_enter Try.func36, Try.ntmps36
        go_upto_region 15 with fail
        go_region
        clear hcp2 hov
        have hR1 : Framed (fun j => some g = some j ∨ E j) RKept (W.drew.setCells g ((i + 1) * 3) rs.flatten) [.int .i64 y.1, .int .i64 y.2.1, u] y := HR.out.step ((Dirty.of_grown HG1.out).mono fun k _ hk => by cases hk; exact Or.inl rfl)
        have HFIN := Lib.hid (HSP.out.setElem HK1.out (r := [.int .i64 y.1, .int .i64 y.2.1, u]) rfl HN.out hR1)
        have HGF := Lib.hid (HG1.out.trans (grown_setCellsR g [Value.int .i64 y.1, .int .i64 y.2.1, u] (i * 3) _))
        have hn1 : Hid ([Value.int .i64 y.1, .int .i64 y.2.1, u].length = Nat.min 1 (l.length + 1 - i) * i0.size) := Lib.hid (by rw [hs0, show Nat.min 1 (l.length + 1 - i) = 1 from Nat.min_eq_left (by omega)]; rfl)
        have hsr1 : Hid (∀ j c, [Value.int .i64 y.1, .int .i64 y.2.1, u][j]? = some c → (W.drew.setCells g ((i + 1) * 3) rs.flatten).cell? ((⟨gx, 0, none⟩ : Addr).add j) = some c) := Lib.hid (fun j c hj => by
          rw [add_zero']
          exact HG1.out.cell (HX.out j c hj) (by intro e; cases e; exact hgx rfl))
        have hsp1 : Hid (∀ j, j < 3 → ((W.drew.setCells g ((i + 1) * 3) rs.flatten).cell? ⟨g, i * 3 + j, none⟩).isSome = true ∧ (W.drew.setCells g ((i + 1) * 3) rs.flatten).frozen? ⟨g, i * 3 + j, none⟩ = false) := Lib.hid (fun j hj => HSP.out.spare (by omega))
        have hcp1 : ∀ ty, (Builtin.copy_ #[35, 35] ty #[.slice (some ⟨g, i * 3, none⟩) (l.length + 1 - i) (cap - i), .slice (some ⟨gx, 0, none⟩) 1 1]).run Try.prog (W.drew.setCells g ((i + 1) * 3) rs.flatten) = .ok (goInt (Nat.min 1 (l.length + 1 - i))) ((W.drew.setCells g ((i + 1) * 3) rs.flatten).setCells g (i * 3) [.int .i64 y.1, .int .i64 y.2.1, u]) := fun ty =>
          run_copy_big _ _ _ ty 44 i0 g (i * 3) _ _ ⟨gx, 0, none⟩ 1 1 _ Try.underlying35 hi0 hn1.out hsr1.out (fun j hj => hsp1.out j hj) HN.out
        go_wp2_with fail
        go_ret
        exact ⟨⟨_, rfl, by rw [← E4.out]; exact HFIN.out, Or.inl rfl⟩, HGF.out⟩
      · have c1 : (cap : Int) < ((l.length + 1 : Nat) : Int) := by omega
        have HO := Lib.hid ho
        have HX := Lib.hid hcx
        have HN := Lib.hid hone
        have HR := Lib.hid hR
        have HR3 := Lib.hid r3
        have HR5 := Lib.hid r5
        clear ho hcx hone hR hx hg r3 r5 hil hroom
        go_enter Try.func36, Try.ntmps36
        have HOT := Lib.hid (HO.out.take i (by omega) rfl)
        go_upto_region 10 with (at_builtin; refine wpList_append_grow rfl _ _ 35 3 rfl 3 E 44 Try.underlying35 Try.underlying3 _ 40 info_kept rfl (by omega) (by omega) base g i cap (l.length + 1 - i) (l.take i) (by rfl) HOT.out (by simp [Act.eval]; omega) (by omega) (by omega) (by omega) hbase ?_; intro cap2 w1 ho1 hcap2 hg1 hsz1)
        rw [show i + (l.length + 1 - i) = l.length + 1 by omega] at hcap2 ⊢
        have hti : (l.take i).length = i := by rw [List.length_take]; omega
        have hmv : ∀ k, k < W.heap.size → (some W.heap.size = some k ∨ E k) → ((Value.slice (some ⟨g, 0, none⟩) l.length cap).ownBlock = some k ∨ E k) := fun k hk hh => by
          rcases hh with hh | hh
          · cases hh; omega
          · exact Or.inr hh
        have hd1 : Dirty (fun k => (Value.slice (some ⟨g, 0, none⟩) l.length cap).ownBlock = some k ∨ E k) W w1 := (Dirty.of_grown hg1).mono fun k _ hk => by cases hk
        have hR1 := HR.out.move hd1 hmv
        have hsp := ho1.splice (k := i) (by omega) (rs := [[.int .i64 y.1, .int .i64 y.2.1, u]]) (xs := [y]) rfl (fun q hq => by simp at hq; subst hq; exact ⟨rfl, HN.out⟩) (fun m q x hq hx => by
          match m, hq, hx with
          | 0, hq, hx => simp at hq hx; subst hq hx; exact hR1
          | m + 1, hq, hx => simp at hq) (by simp; omega) (by simp; omega) (n := i + 1) (by simp; omega)
        have e1 : (l.take i).take i ++ [y] ++ (l.take i).drop (i + [y].length) = l.take i ++ [y] := by
          rw [List.take_of_length_le (l := l.take i) (by omega), List.drop_of_length_le (l := l.take i) (by simp only [List.length_singleton]; omega), List.append_nil]
        have e2 : [[Value.int .i64 y.1, .int .i64 y.2.1, u]].flatten = [.int .i64 y.1, .int .i64 y.2.1, u] := rfl
        rw [e1, e2] at hsp
        have hl1 : (l.take i ++ [y]).length = i + 1 := by simp; omega
        have hD2 := Dirty.of_grown (grown_setCellsR W.heap.size [Value.int .i64 y.1, .int .i64 y.2.1, u] (i * 3) w1)
        have hR2 : ∀ (m : Nat) (q : List Value) (x : Kp), rs[m]? = some q → (l.drop i)[m]? = some x → Framed (fun k => some W.heap.size = some k ∨ E k) RKept (w1.setCells W.heap.size (i * 3) [.int .i64 y.1, .int .i64 y.2.1, u]) q x := fun m q x hq hx =>
          ((HR3.out m q x hq hx).move hd1 hmv).step (hD2.mono fun k _ hk => Or.inl hk)
        have e3 : (l.take i ++ [y]).take (i + 1) ++ l.drop i ++ (l.take i ++ [y]).drop (i + 1 + (l.drop i).length) = l.take i ++ y :: l.drop i := by
          rw [List.take_of_length_le (l := l.take i ++ [y]) (by omega), List.drop_of_length_le (l := l.take i ++ [y]) (by omega), List.append_nil]
          simp
        have E3 := Lib.hid e3
        have HSP := Lib.hid hsp
        have HR2 := Lib.hid hR2
        have hgw : W.grownBy (w1.setCells W.heap.size (i * 3) [.int .i64 y.1, .int .i64 y.2.1, u]) none :=
          ⟨(grown_setCellsR W.heap.size _ (i * 3) w1).os.trans hg1.os, (grown_setCellsR W.heap.size _ (i * 3) w1).tape.trans hg1.tape, (grown_setCellsR W.heap.size _ (i * 3) w1).output.trans hg1.output,
            Nat.le_trans hg1.size (grown_setCellsR W.heap.size _ (i * 3) w1).size, fun k hk _ => ((grown_setCellsR W.heap.size _ (i * 3) w1).block k (by omega) (by intro e; cases e; omega)).trans (hg1.block k hk (by simp))⟩
        have HGW := Lib.hid hgw
        have HRS := Lib.hid (show rs.length = (l.drop i).length ∧ ∀ r ∈ rs, r.length = 3 ∧ ∀ c ∈ r, c.oneCell' = true from ⟨r1, r2⟩)
        have hgxW : gx < W.heap.size := by have := cell_lt (HX.out 0 _ rfl); exact this
        have hsrc1 : Hid (∀ j c, [Value.int .i64 y.1, .int .i64 y.2.1, u][j]? = some c → w1.cell? ((⟨gx, 0, none⟩ : Addr).add j) = some c) := Lib.hid (fun j c hj => by
          rw [add_zero']
          exact hg1.cell (HX.out j c hj) (by simp))
        have hsp1 : Hid (∀ j, j < 3 → (w1.cell? ⟨W.heap.size, i * 3 + j, none⟩).isSome = true ∧ w1.frozen? ⟨W.heap.size, i * 3 + j, none⟩ = false) := Lib.hid (fun j hj => ho1.spare (by
          have : (i + 1) * 3 ≤ cap2 * 3 := Nat.mul_le_mul_right _ (by omega)
          omega))
        have hn1 : Hid ([Value.int .i64 y.1, .int .i64 y.2.1, u].length = Nat.min 1 (l.length + 1 - i) * i0.size) := Lib.hid (by rw [hs0, show Nat.min 1 (l.length + 1 - i) = 1 from Nat.min_eq_left (by omega)]; rfl)
        have hsrc2 : Hid (∀ j c, rs.flatten[j]? = some c → (w1.setCells W.heap.size (i * 3) [.int .i64 y.1, .int .i64 y.2.1, u]).cell? ((⟨g, i * 3, none⟩ : Addr).add j) = some c) := Lib.hid (fun j c hj => by
          rw [add_none']
          have h1 := HR5.out j c hj
          exact (grown_setCellsR W.heap.size _ (i * 3) w1).cell (hg1.cell h1 (by simp)) (by intro e; simp at e; omega))
        have hsp2 : Hid (∀ j, j < rs.flatten.length → ((w1.setCells W.heap.size (i * 3) [.int .i64 y.1, .int .i64 y.2.1, u]).cell? ⟨W.heap.size, (i + 1) * 3 + j, none⟩).isSome = true ∧ (w1.setCells W.heap.size (i * 3) [.int .i64 y.1, .int .i64 y.2.1, u]).frozen? ⟨W.heap.size, (i + 1) * 3 + j, none⟩ = false) := Lib.hid (fun j hj => hsp.spare (by
          have h1 : (l.length + 1) * 3 ≤ cap2 * 3 := Nat.mul_le_mul_right _ hcap2
          rw [r4] at hj
          omega))
        have hn2 : Hid (rs.flatten.length = Nat.min (l.length - i) (l.length - i) * i0.size) := Lib.hid (by rw [hs0, r4, show Nat.min (l.length - i) (l.length - i) = l.length - i from Nat.min_self _])
        have h12 : Hid (∀ c ∈ rs.flatten, c.oneCell' = true) := Lib.hid (fun c hc => by
          obtain ⟨q, hq, hcq⟩ := List.mem_flatten.1 hc
          exact (r2 q hq).2 c hcq)
        have hcm2 : cap2 ≤ 9223372036854775807 := by
          obtain ⟨_, _, e, _, ⟨_, h, _⟩, _⟩ := ho1.isRow.opened
          simp only [Value.slice.injEq] at e
          obtain ⟨_, _, rfl⟩ := e
          exact h
        have hc2 : ¬ cap2 = i := by omega
        have hc3 : ¬ cap2 = i + 1 := by omega
        generalize hg2 : W.heap.size = g2 at *
        clear ho1 hsp e3 hgw hd1 hR1 hR2 hD2 hmv HOT r1 r2 r4 hg1 hsz1
        have hcp1 : ∀ ty, (Builtin.copy_ #[35, 35] ty #[.slice (some ⟨g2, i * 3, none⟩) (l.length + 1 - i) (cap2 - i), .slice (some ⟨gx, 0, none⟩) 1 1]).run Try.prog w1 = .ok (goInt (Nat.min 1 (l.length + 1 - i))) (w1.setCells g2 (i * 3) [.int .i64 y.1, .int .i64 y.2.1, u]) := fun ty =>
          run_copy_big w1 _ _ ty 44 i0 g2 (i * 3) _ _ ⟨gx, 0, none⟩ 1 1 _ Try.underlying35 hi0 hn1.out hsrc1.out (fun j hj => hsp1.out j hj) HN.out
        go_upto_region 11 with fail
        clear hcp1
        generalize w1.setCells g2 (i * 3) [.int .i64 y.1, .int .i64 y.2.1, u] = w2 at *
        have b3 : (0 : Int) ≤ (i : Int) + 1 := by omega
        have b4 : ((i : Int) + 1).toNat = i + 1 := by omega
        have hcp2 : ∀ ty, (Builtin.copy_ #[35, 35] ty #[.slice (some ⟨g2, (i + 1) * 3, none⟩) (l.length - i) (cap2 - (i + 1)), .slice (some ⟨g, i * 3, none⟩) (l.length - i) (cap - i)]).run Try.prog w2.drew = .ok (goInt (Nat.min (l.length - i) (l.length - i))) (w2.drew.setCells g2 ((i + 1) * 3) rs.flatten) := fun ty =>
          run_copy_big w2.drew _ _ ty 44 i0 g2 ((i + 1) * 3) _ _ ⟨g, i * 3, none⟩ _ _ _ Try.underlying35 hi0 hn2.out hsrc2.out hsp2.out h12.out
        go_region
        have hfin := HSP.out.drew.splice (k := i + 1) (by omega) (rs := rs) (xs := l.drop i) HRS.out.1 HRS.out.2 (fun m q x hq hx => (HR2.out m q x hq hx).step ⟨Nat.le_refl _, fun _ _ _ => rfl⟩) (by rw [List.length_drop]; omega) (by rw [List.length_drop]; omega) (n := l.length + 1) (by simp; omega)
        rw [E3.out] at hfin
        have hgf := HGW.out
        have hgs := grown_setCellsR g2 rs.flatten ((i + 1) * 3) w2.drew
        have hgt : W.grownBy (w2.drew.setCells g2 ((i + 1) * 3) rs.flatten) (some g) :=
          ⟨hgs.os.trans hgf.os, hgs.tape.trans hgf.tape, hgs.output.trans hgf.output, Nat.le_trans hgf.size hgs.size, fun k hk _ => (hgs.block k (Nat.lt_of_lt_of_le hk hgf.size) (by intro e; cases e; omega)).trans (hgf.block k hk (by simp))⟩
        have HFIN := Lib.hid hfin
        have HGT := Lib.hid hgt
        clear hfin hgf hgs hgt hcp2
        go_wp2_with fail
        go_ret
        exact ⟨⟨_, rfl, HFIN.out, Or.inr ⟨g2, rfl, Nat.le_of_eq hg2⟩⟩, HGT.out⟩

end Go.Proofs.Ytpjlngkndofjfaa
