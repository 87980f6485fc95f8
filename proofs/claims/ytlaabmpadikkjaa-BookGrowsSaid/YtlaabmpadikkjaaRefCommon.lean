/-
  The walk of the reference's CommonOf, at right books.
-/
import Derived.Test.YtlaabmpadikkjaaRefBook
namespace Go.Proofs.Ytlaabmpadikkjaa
open Go.RowKit

/-- Of the versions below m: is none above k that is in common and comes from it? -/
def topN (b : List Ver) (i j k : Int) (m : Nat) : Bool := !((List.range m).any fun (o : Nat) => decide (k < (o : Int)) && (fromV b i o && fromV b j o && fromV b o k))
theorem topN_start (b : List Ver) (i j : Int) (k : Nat) : topN b i j k (k + 1) = true := by
  unfold topN
  rw [Bool.not_eq_true', List.any_eq_false]
  intro o ho
  have := List.mem_range.1 ho
  simp
  omega
theorem topN_step (b : List Ver) (i j : Int) (k m : Nat) (h : k < m) : topN b i j k (m + 1) = (topN b i j k m && !(fromV b i m && fromV b j m && fromV b m k)) := by
  unfold topN
  rw [List.range_succ, List.any_append]
  simp [h]
theorem topN_all (b : List Ver) (i j k : Int) : topN b i j k b.length = topV b i j k := rfl

set_option maxRecDepth 100000 in
set_option maxHeartbeats 4000000 in
theorem CommonOf_any (v : Value) (b : List Ver) (i j : Nat) (W : World) (hv : IsVers W v b) (hB : bookV b = 0) (hi : i < b.length) (hj : j < b.length) :
    Calls Try.prog 35 #[.agg #[v], .int .i64 i, .int .i64 j] W fun e w' => (∃ v', e = .returned v' ∧ OwnInts w' 3 W.heap.size v' (commonR b i j)) ∧ Below W.heap.size W w' := by
  have ht := (bookV_ok.1 hB).top
  have HB := Lib.hid hB
  obtain ⟨a, c, rfl, hc, ⟨hm, hcm, _⟩, _⟩ := hv.opened
  have S0 := (Since.refl W).alloc (.cells #[.slice a b.length c] 50)
  have hv0 := hv.stays RVer.stays (below_alloc _ (.cells #[.slice a b.length c] 50))
  have c0 : (W.alloc (.cells #[.slice a b.length c] 50)).cell? ⟨W.heap.size, 0, none⟩ = some (.slice a b.length c) := by go_simp
  clear hv hB
  go_enter Try.func35, Try.ntmps35
  go_wp2_with fail
  obtain ⟨B, hBB⟩ : ∃ B, B = W.heap.size := ⟨_, rfl⟩
  rw [← hBB] at c0 ⊢
  clear hBB
  generalize W.alloc (.cells #[.slice a b.length c] 50) = w0 at *
  have l0 := cell_lt c0
  go_loopw [14, 7] (fun q o wr => ∃ k : Nat, k ≤ b.length ∧ q = .int .i64 k ∧ Since w0.heap.size w0 wr ∧ OwnInts wr 3 w0.heap.size o (((List.range k).map fun (j : Nat) => (j : Int)).filter fun k => fromV b i k && fromV b j k && topV b i j k)) (fun q _ _ => b.length - (intOf q).toNat)
  case atStart => exact ⟨0, by omega, rfl, Since.refl w0, OwnInts.nil _ _ _⟩
  case round =>
    obtain ⟨k, hk, rfl, hS, ho⟩ := hrel
    obtain ⟨wo, hwo⟩ : ∃ wo : World, wo = wr := ⟨_, rfl⟩
    rw [← hwo] at hS ho ⊢
    clear hwo
    by_cases hlt : k < b.length
    · have d0 := (hS.below.cell (p := ⟨B, 0, none⟩) l0).trans c0
      have HFS := Lib.hid (filter_range_step (fun k => fromV b i k && fromV b j k && topV b i j k) k)
      have hol : (((List.range k).map fun (j : Nat) => (j : Int)).filter fun k => fromV b i k && fromV b j k && topV b i j k).length ≤ 1000000 := Nat.le_trans (List.length_filter_le _ _) (by simp; omega)
      go_wp2_with fail
      refine (From_any _ b i k _ (hv0.later RVer.stays (Dirty.old hS.below _)) HB.out (by omega) (by omega)).mono ?_
      rintro e w1 ⟨rfl, hb1⟩
      have S1 := hS.step hb1
      have ho1 := ho.stays hb1
      have d1 := (S1.below.cell (p := ⟨B, 0, none⟩) l0).trans c0
      obtain ⟨T, hT⟩ : ∃ T, T = fromV b i k := ⟨_, rfl⟩
      rw [← hT]
      have HT := Lib.hid hT
      clear hT d0 ho hb1 hS
      cases T with
      | false =>
        clear d1
        go_wp2_with fail
        go_roundw
        case rel => exact ⟨k + 1, by omega, by go_num, S1, by rw [HFS.out]; simpa [← HT.out] using ho1⟩
        case measure => simp [intOf]; omega
      | true =>
        go_wp2_with fail
        refine (From_any _ b j k _ (hv0.later RVer.stays (Dirty.old S1.below _)) HB.out (by omega) (by omega)).mono ?_
        rintro e w2 ⟨rfl, hb2⟩
        have S2 := S1.step hb2
        have ho2 := ho1.stays hb2
        have d2 := (S2.below.cell (p := ⟨B, 0, none⟩) l0).trans c0
        obtain ⟨U, hU⟩ : ∃ U, U = fromV b j k := ⟨_, rfl⟩
        rw [← hU]
        have HU := Lib.hid hU
        clear hU d1 ho1 hb2 S1
        cases U with
        | false =>
          clear d2
          go_wp2_with fail
          go_roundw
          case rel => exact ⟨k + 1, by omega, by go_num, S2, by rw [HFS.out]; simpa [← HT.out, ← HU.out] using ho2⟩
          case measure => simp [intOf]; omega
        | true =>
          clear d2
          go_wp2_with fail
          go_loopw [10, 9] (fun q t wr => ∃ m : Nat, k < m ∧ m ≤ b.length ∧ q = .int .i64 m ∧ t = .bool (topN b i j k m) ∧ Since w0.heap.size w0 wr ∧ Below w2.heap.size w2 wr) (fun q _ _ => b.length - (intOf q).toNat)
          case atStart => exact ⟨k + 1, by omega, by omega, by go_num, by rw [topN_start], S2, Below.refl _ _⟩
          case round =>
            obtain ⟨m, hkm, hm1, rfl, rfl, hS, hbw⟩ := hrel
            have d3 := (hS.below.cell (p := ⟨B, 0, none⟩) l0).trans c0
            have HTS := Lib.hid (topN_step b i j k m hkm)
            obtain ⟨tt, htt⟩ : ∃ tt, tt = topN b i j k m := ⟨_, rfl⟩
            rw [← htt]
            have HTT := Lib.hid htt
            clear htt
            by_cases hlm : m < b.length
            · go_wp2_with fail
              refine (From_any _ b i m _ (hv0.later RVer.stays (Dirty.old hS.below _)) HB.out (by omega) (by omega)).mono ?_
              rintro e w3 ⟨rfl, hb3⟩
              have S3 := hS.step hb3
              have B3 := hbw.trans (hb3.mono hbw.size)
              have e3 := (S3.below.cell (p := ⟨B, 0, none⟩) l0).trans c0
              obtain ⟨F1, hF1⟩ : ∃ F, F = fromV b i m := ⟨_, rfl⟩
              rw [← hF1]
              have HF1 := Lib.hid hF1
              clear hF1 d3 hb3
              cases F1 with
              | false =>
                clear e3
                go_wp2_with fail
                go_roundw
                case rel => exact ⟨m + 1, by omega, by omega, by go_num, by rw [HTS.out, ← HTT.out, ← HF1.out]; simp, S3, B3⟩
                case measure => simp [intOf]; omega
              | true =>
                go_wp2_with fail
                refine (From_any _ b j m _ (hv0.later RVer.stays (Dirty.old S3.below _)) HB.out (by omega) (by omega)).mono ?_
                rintro e w4 ⟨rfl, hb4⟩
                have S4 := S3.step hb4
                have B4 := B3.trans (hb4.mono B3.size)
                have e4 := (S4.below.cell (p := ⟨B, 0, none⟩) l0).trans c0
                obtain ⟨F2, hF2⟩ : ∃ F, F = fromV b j m := ⟨_, rfl⟩
                rw [← hF2]
                have HF2 := Lib.hid hF2
                clear hF2 e3 hb4
                cases F2 with
                | false =>
                  clear e4
                  go_wp2_with fail
                  go_roundw
                  case rel => exact ⟨m + 1, by omega, by omega, by go_num, by rw [HTS.out, ← HTT.out, ← HF1.out, ← HF2.out]; simp, S4, B4⟩
                  case measure => simp [intOf]; omega
                | true =>
                  go_wp2_with fail
                  refine (From_any _ b m k _ (hv0.later RVer.stays (Dirty.old S4.below _)) HB.out (by omega) (by omega)).mono ?_
                  rintro e w5 ⟨rfl, hb5⟩
                  have S5 := S4.step hb5
                  have B5 := B4.trans (hb5.mono B4.size)
                  have e5 := (S5.below.cell (p := ⟨B, 0, none⟩) l0).trans c0
                  obtain ⟨F3, hF3⟩ : ∃ F, F = fromV b m k := ⟨_, rfl⟩
                  rw [← hF3]
                  have HF3 := Lib.hid hF3
                  clear hF3 e4 hb5
                  cases F3 with
                  | false =>
                    clear e5
                    go_wp2_with fail
                    go_roundw
                    case rel => exact ⟨m + 1, by omega, by omega, by go_num, by rw [HTS.out, ← HTT.out, ← HF1.out, ← HF2.out, ← HF3.out]; simp, S5, B5⟩
                    case measure => simp [intOf]; omega
                  | true =>
                    clear e5
                    go_wp2_with fail
                    go_roundw
                    case rel => exact ⟨m + 1, by omega, by omega, by go_num, by rw [HTS.out, ← HTT.out, ← HF1.out, ← HF2.out, ← HF3.out]; simp, S5, B5⟩
                    case measure => simp [intOf]; omega
            · obtain rfl : b.length = m := by omega
              have ho3 := ho2.stays hbw
              rw [topN_all] at HTT
              have hgs := hS.2
              cases tt with
              | true =>
                go_wp2_with (at_builtin; refine wpList_append_int rfl _ _ 24 rfl 3 Try.underlying24 info_int w0.heap.size _ _ rfl (ho3.stays (below_alloc wr _)) ⟨wr.heap.size, 0, none⟩ 1 (k : Int) rfl (by simp) ⟨by omega, by omega⟩ (by omega) (by simp; omega) ?_; intro v' w6 ho6 hg6)
                have S6 := (hS.alloc (.cells #[.int .i64 (k : Int)] 3)).own (ho3.stays (below_alloc wr _)) hg6
                have HO6 := Lib.hid ho6
                clear ho6 hg6 ho3
                go_roundw
                case rel => exact ⟨k + 1, by omega, by go_num, S6, by rw [HFS.out]; simpa [← HT.out, ← HU.out, ← HTT.out] using HO6.out⟩
                case measure => simp [intOf]; omega
              | false =>
                go_wp2_with fail
                go_roundw
                case rel => exact ⟨k + 1, by omega, by go_num, hS, by rw [HFS.out]; simpa [← HT.out, ← HU.out, ← HTT.out] using ho3⟩
                case measure => simp [intOf]; omega
    · obtain rfl : b.length = k := by omega
      have HO := Lib.hid ho
      clear ho
      go_wp2_with fail
      go_ret
      exact ⟨⟨_, rfl, by unfold commonR; exact HO.out.mono S0.2⟩, (S0.step hS.below).below⟩

end Go.Proofs.Ytlaabmpadikkjaa
