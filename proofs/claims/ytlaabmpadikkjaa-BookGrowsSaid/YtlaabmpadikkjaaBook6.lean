/-
  The walks of book.Heads, book.Same, and of the reference's HeadsOf, SameBook.
-/
import Derived.Test.YtlaabmpadikkjaaRefBook
import Derived.Test.YtlaabmpadikkjaaBook4
import Derived.Test.YtlaabmpadikkjaaKin
namespace Go.Proofs.Ytlaabmpadikkjaa
open Go.RowKit

/-- All parents of all versions. -/
def childL (b : List Ver) : List Int := b.flatMap (·.1)
theorem any_child (b : List Ver) (k : Int) : (b.any fun v => memB k v.1) = decide (k ∈ childL b) := by
  rw [Bool.eq_iff_iff, decide_eq_true_eq, childL, List.mem_flatMap, List.any_eq_true]
  simp only [memB, decide_eq_true_eq]
theorem child_step {b : List Ver} {k : Nat} {x : Ver} (h : b[k]? = some x) : childL (b.take (k + 1)) = childL (b.take k) ++ x.1 := by
  rw [take_get h, childL, List.flatMap_append]
  simp [childL]
theorem heads_child (b : List Ver) : headsL b = ((List.range b.length).map fun (j : Nat) => (j : Int)).filter fun k => !decide (k ∈ childL b) := by
  unfold headsL
  congr 1
  funext k
  rw [any_child]
def headsC (b : List Ver) : List Int := if bookV b = 0 then headsL b else []
theorem headsC_ok {b : List Ver} (h : bookV b = 0) : headsC b = headsL b := by unfold headsC; rw [if_pos h]
theorem headsC_no {b : List Ver} (h : bookV b ≠ 0) : headsC b = [] := by unfold headsC; rw [if_neg h]

set_option maxRecDepth 100000 in
set_option maxHeartbeats 4000000 in
theorem Heads_ok (v : Value) (b : List Ver) (W : World) (hv : IsVers W v b) (h0 : bookV b = 0) :
    Calls Try.prog 41 #[.agg #[v]] W fun e w' => (∃ v', e = .returned (.tuple #[v', .int .i64 0]) ∧ OwnInts w' 3 W.heap.size v' (headsL b)) ∧ Below W.heap.size W w' := by
  have ht := (bookV_ok.1 h0).top
  have H0 := Lib.hid h0
  have HH := Lib.hid (heads_child b)
  clear h0
  obtain ⟨a, c, rfl, hc, ⟨hm, hcm, _⟩, _⟩ := hv.opened
  have S0 := (Since.refl W).alloc (.cells #[.slice a b.length c] 50)
  have hv0 := hv.stays RVer.stays (below_alloc _ (.cells #[.slice a b.length c] 50))
  have c0 : (W.alloc (.cells #[.slice a b.length c] 50)).cell? ⟨W.heap.size, 0, none⟩ = some (.slice a b.length c) := by go_simp
  have hmm := @run_makeMap Try.prog
  clear hv
  go_enter Try.func41, Try.ntmps41
  go_wp2_with fail
  generalize W.alloc (.cells #[.slice a b.length c] 50) = w0 at *
  obtain ⟨B, hB⟩ : ∃ B, B = W.heap.size := ⟨_, rfl⟩
  rw [← hB] at c0 ⊢
  have HBB := Lib.hid hB
  clear hB
  have l0 := cell_lt c0
  refine (bookCheck_any _ b _ hv0).mono ?_
  rintro e w1 ⟨rfl, hb1⟩
  rw [H0.out]
  have T1 := (Since.refl w0).step hb1
  have d0 := (T1.below.cell (p := ⟨B, 0, none⟩) l0).trans c0
  have hm0 : OwnsSet Try.prog 3 4 (w1.alloc (.map #[] 0)) w1.heap.size [] := OwnsSet.made w1
  have hs1 := T1.2
  have l1 := cell_lt d0
  clear hb1
  go_wp2_with fail
  have T2 := T1.alloc (.map #[] 0)
  obtain ⟨Bm, hBm⟩ : ∃ Bm, Bm = w1.heap.size := ⟨_, rfl⟩
  have hBm0 : w0.heap.size ≤ Bm := by omega
  rw [← hBm] at hm0 ⊢
  clear hBm d0 l1 hs1
  go_loopw [21] (fun i wr => ∃ k : Nat, k ≤ b.length ∧ i = .int .i64 k ∧ Since w0.heap.size w0 wr ∧ OwnsSet Try.prog 3 4 wr Bm (childL (b.take k)) ∧ (childL (b.take k)).length ≤ k * 17592186044416) (fun i _ => b.length - (intOf i).toNat)
  case atStart => exact ⟨0, by omega, rfl, T2, by simpa [childL] using hm0, by simp [childL]⟩
  case round =>
    obtain ⟨k, hk, rfl, hS, hm, hml⟩ := hrel
    clear hm0 T2
    by_cases hlt : k < b.length
    · have hx := List.getElem?_eq_getElem hlt
      have HT := Lib.hid (child_step hx)
      obtain ⟨g, off, u, cu, rfl, k0, k1, k2, k3, hp, i1, i2, i3⟩ := vers_at hv0 hx
      generalize b[k] = x at *
      have S1 := hS.alloc (.cells #[.slice u x.1.length cu, .int .i64 x.2.1, .int .i64 x.2.2.1, .int .i64 x.2.2.2] 63)
      have hm1 := hm.below (below_alloc wr (.cells #[.slice u x.1.length cu, .int .i64 x.2.1, .int .i64 x.2.2.1, .int .i64 x.2.2.2] 63))
      have g0 := (hS.below.cell (p := ⟨g, off + k * 4, none⟩) (cell_lt k0)).trans k0
      have g1 := (hS.below.cell (p := ⟨g, off + k * 4 + 1, none⟩) (cell_lt k1)).trans k1
      have g2 := (hS.below.cell (p := ⟨g, off + k * 4 + 2, none⟩) (cell_lt k2)).trans k2
      have g3 := (hS.below.cell (p := ⟨g, off + k * 4 + 3, none⟩) (cell_lt k3)).trans k3
      obtain ⟨_, _, e5, _, ⟨hpm, hpcm, _⟩, _⟩ := hp.opened
      simp only [Value.slice.injEq, true_and] at e5
      obtain ⟨rfl, rfl⟩ := e5
      clear hx k0 k1 k2 k3
      go_wp2_with fail
      clear g0 g1 g2 g3 hm
      generalize childL (b.take k) = S at *
      go_loopw [28] (fun i wr => ∃ m : Nat, m ≤ x.1.length ∧ i = .int .i64 m ∧ Since w0.heap.size w0 wr ∧ OwnsSet Try.prog 3 4 wr Bm (S ++ x.1.take m)) (fun i _ => x.1.length - (intOf i).toNat)
      case atStart => exact ⟨0, by omega, rfl, S1, by simpa using hm1⟩
      case round =>
        obtain ⟨m, hmm1, rfl, hS, hm⟩ := hrel
        by_cases hlm : m < x.1.length
        · obtain ⟨_, _, e6, _, _, hpi⟩ := (hp.stays hS.below).opened
          simp only [Value.slice.injEq, true_and] at e6
          obtain ⟨rfl, rfl⟩ := e6
          obtain ⟨b2, o2, z2, e7, hc2, hz2, hi2⟩ := hpi m hlm
          subst e7
          have HZ2 := Lib.hid (take_get hz2)
          have hlS : (S ++ x.1.take m).length < 1000000000000000 := by simp; omega
          clear hz2 hpi
          go_wp2_with (at_mapUpdate; refine wpList_store_set _ rfl _ _ _ 58 rfl Try.underlying3 Try.underlying4 Try.underlying58 _ _ rfl hm hlS _ rfl rfl hi2 ?_; intro w10 hm10 hg10)
          have S10 := hS.grown hg10 (fun q hq => by cases hq; exact hBm0)
          have HM10 := Lib.hid hm10
          clear hm10 hg10 hc2
          go_roundw
          case rel => exact ⟨m + 1, by omega, by go_num, S10, by rw [HZ2.out, ← List.append_assoc]; exact HM10.out⟩
          case measure => simp [intOf]; omega
        · obtain rfl : x.1.length = m := by omega
          rw [List.take_length, ← HT.out] at hm
          have HM := Lib.hid hm
          clear hm
          go_wp2_with fail
          go_roundw
          case rel => exact ⟨k + 1, by omega, by go_num, hS, HM.out, by rw [HT.out]; simp; omega⟩
          case measure => simp [intOf]; omega
    · obtain rfl : b.length = k := by omega
      rw [List.take_length] at hm
      have hmX := hm
      have d0 := (hS.below.cell (p := ⟨B, 0, none⟩) l0).trans c0
      have SX := hS
      clear hm hS
      go_wp2_with fail
      clear d0
      go_loopw [39, 10] (fun i o wr => ∃ k : Nat, k ≤ b.length ∧ i = .int .i64 k ∧ Since w0.heap.size w0 wr ∧ OwnsSet Try.prog 3 4 wr Bm (childL b) ∧ OwnInts wr 3 w0.heap.size o ((((List.range k).map fun (j : Nat) => (j : Int)).filter fun k => !decide (k ∈ childL b))) ∧ o.ownBlock ≠ some Bm) (fun i _ _ => b.length - (intOf i).toNat)
      case atStart => exact ⟨0, by omega, rfl, SX, hmX, by simpa using OwnInts.nil _ _ _, by simp [Value.ownBlock]⟩
      case round =>
        obtain ⟨k, hk, rfl, hS, hm, ho, hne⟩ := hrel
        clear SX hmX
        by_cases hlt : k < b.length
        · have HFS := Lib.hid (filter_range_step (fun k => !decide (k ∈ childL b)) k)
          have hol : (((List.range k).map fun (j : Nat) => (j : Int)).filter fun k => !decide (k ∈ childL b)).length ≤ 1000000 := Nat.le_trans (List.length_filter_le _ _) (by simp; omega)
          have ik : I64 (k : Int) := ⟨by omega, by omega⟩
          have hlk := hm.lookup (t := 58) Try.underlying3 Try.underlying4 Try.underlying58 (zero_boolB _) (k : Int) ik
          have hgs := hS.2
          obtain ⟨T, hT⟩ : ∃ T, T = decide ((k : Int) ∈ childL b) := ⟨_, rfl⟩
          rw [← hT] at hlk
          have HT := Lib.hid hT
          clear hT
          cases T with
          | true =>
            go_wp2_with fail
            clear hlk
            go_roundw
            case rel => exact ⟨k + 1, by omega, by go_num, hS, hm, by rw [HFS.out]; simpa [← HT.out] using ho, hne⟩
            case measure => simp [intOf]; omega
          | false =>
            go_wp2_with (at_builtin; refine wpList_append_int_at rfl _ _ 24 rfl 3 Try.underlying24 info_int w0.heap.size _ _ rfl (ho.stays (below_alloc wr _)) ⟨wr.heap.size, 0, none⟩ 1 (k : Int) rfl (by simp) ik (by omega) (by simp; omega) ?_; intro v' w2 ho2 hg2 hat2)
            have S2 := (hS.alloc (.cells #[.int .i64 (k : Int)] 3)).own (ho.stays (below_alloc wr _)) hg2
            have HO2 := Lib.hid ho2
            have hBw := hm.lt
            have hne2 : v'.ownBlock ≠ some Bm := by
              rcases hat2 with h | h
              · rw [h]; exact hne
              · rw [h]; simp; omega
            have hm2 := (hm.below (below_alloc wr (.cells #[.int .i64 (k : Int)] 3))).block (hg2.block Bm (by simp; omega) (fun e => hne e.symm))
            clear ho2 hg2 hat2 hm ho hlk
            go_roundw
            case rel => exact ⟨k + 1, by omega, by go_num, S2, hm2, by rw [HFS.out]; simpa [← HT.out] using HO2.out, hne2⟩
            case measure => simp [intOf]; omega
        · obtain rfl : b.length = k := by omega
          rw [← HH.out] at ho
          have HO := Lib.hid ho
          clear ho hm
          go_wp2_with fail
          go_ret2
          exact ⟨⟨_, rfl, HO.out.mono S0.2⟩, (S0.step hS.below).below⟩

end Go.Proofs.Ytlaabmpadikkjaa
