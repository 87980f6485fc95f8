/-
  The walk of the reference's PlacesFor, of right peers.
-/
import Derived.Test.YtjakdgchfimhkaaGreatPlace3
namespace Go.Proofs.YtjakdgchfimhkaaGreat
open Go.RowKit

theorem roomL_len (v : Int) (l : List Pr) (left : Int) (n : Nat) : (roomL v l left n).length ≤ n := Nat.le_trans (List.length_filter_le _ _) (by simp [numsL])
theorem gathL_len (v : Int) (l : List Pr) : ∀ n, (gathL v l n).length ≤ n * l.length
  | 0 => by simp [gathL]
  | n + 1 => by
    have h1 := gathL_len v l n
    have h2 := roomL_len v l (20 - (n : Int)) l.length
    unfold gathL
    rw [List.length_append, Nat.add_mul]
    omega
theorem roomL_zero (v : Int) (l : List Pr) (left : Int) : roomL v l left 0 = [] := by simp [roomL, numsL]

set_option maxRecDepth 100000 in
set_option maxHeartbeats 2000000 in
theorem PlacesFor_lies (b : List Ver) (u : Value) (l : List Pr) (v many : Int) (W : World) (hu : IsPeers W u l) (h0 : placeV b l = 0) :
    Calls Tryz.prog 73 #[u, .int .i64 v, .int .i64 many] W fun e w' => (∃ v', e = .returned (.tuple #[v', .int .i64 (forE b l v many)]) ∧ IsInts w' v' (forC b l v many) ∧ ∀ k, Value.lies v' k → W.heap.size ≤ k) ∧ Below W.heap.size W w' := by
  obtain ⟨al, cl, rfl, hcl, ⟨hlm, hlc, _⟩, _⟩ := hu.opened
  have hok := placeV_ok.1 h0
  have HROOM := Lib.hid (fun p hp => peer_left (hok.2.2 p hp))
  have hl8 := hok.2.1
  have H0 := Lib.hid h0
  have HU := Lib.hid hu
  clear h0 hok hu
  go_enter Tryz.func73, Tryz.ntmps73
  go_wp2_with fail
  by_cases hr : many < 0 ∨ 8 < many
  · have H := Lib.hid (forE_range (v := v) H0.out hr)
    have hin := inB_no hr
    clear hr
    refine (in_any _ _ _ _).mono ?_
    rintro e w1 ⟨rfl, rfl⟩
    rw [hin]
    clear hin
    go_wp2_with fail
    go_ret2
    exact ⟨⟨_, ret_vE H.out.symm, by rw [forC_no (by rw [H.out]; simp)]; exact IsInts.nil _, fun _ hk => nil_lies hk⟩, Below.refl _ _⟩
  · have HR := Lib.hid hr
    have hin := inB_yes (n := many) (a := 0) (b := 8) (by omega) (by omega)
    have hm0 : 0 ≤ many := by omega
    clear hr
    refine (in_any _ _ _ _).mono ?_
    rintro e w1 ⟨rfl, rfl⟩
    rw [hin]
    clear hin
    go_wp2_with fail
    go_loopw [9, 8] (fun i o wr => ∃ n : Nat, n ≤ 20 ∧ i = .int .i64 (20 - (n : Int)) ∧ Since W.heap.size W wr ∧ OwnInts wr 3 W.heap.size o (gathL v l n)) (fun i _ _ => (intOf i).toNat)
    case atStart => exact ⟨0, by omega, rfl, Since.refl W, by simpa [gathL] using OwnInts.nil _ _ _⟩
    case round =>
      obtain ⟨n, hn, rfl, hS0, ho0⟩ := hrel
      obtain ⟨wo, hwo⟩ : ∃ wo : World, wo = wr := ⟨_, rfl⟩
      rw [← hwo] at hS0 ho0 ⊢
      clear hwo
      have hgl := gathL_len v l n
      have hgl2 : (gathL v l n).length ≤ 20 * 8 := Nat.le_trans hgl (Nat.mul_le_mul hn hl8)
      clear hgl
      by_cases hlt : n < 20
      · have hpos : (0 : Int) < 20 - (n : Int) := by omega
        have HNX := Lib.hid (show gathL v l n ++ roomL v l (20 - (n : Int)) l.length = gathL v l (n + 1) from rfl)
        obtain ⟨left, hleft⟩ : ∃ left : Int, left = 20 - (n : Int) := ⟨_, rfl⟩
        rw [← hleft] at hpos HNX ⊢
        have HL := Lib.hid hleft
        have hl20 : left ≤ 20 := by omega
        clear hleft
        go_wp2_with fail
        go_loopw [21, 8] (fun i o wr => ∃ k : Nat, k ≤ l.length ∧ i = .int .i64 k ∧ Since W.heap.size W wr ∧ OwnInts wr 3 W.heap.size o (gathL v l n ++ roomL v l left k)) (fun i _ _ => l.length - (intOf i).toNat)
        case atStart => exact ⟨0, by omega, rfl, hS0, by rw [roomL_zero, List.append_nil]; exact ho0⟩
        case round =>
          obtain ⟨k, hk, rfl, hS, ho⟩ := hrel
          clear hS0 ho0
          by_cases hlt : k < l.length
          · have hget := List.getElem?_eq_getElem hlt
            obtain ⟨g, off, u, cu, rfl, k0, k1, k2, hp, i1⟩ := peer_at (HU.out.later RPeer.stays (Dirty.old hS.below _)) hget
            have HCS := Lib.hid (roomL_step v l left hget)
            have hrl := roomL_len v l left k
            have ik : I64 (k : Int) := ⟨by omega, by omega⟩
            have hlv := HROOM.out _ (List.getElem_mem hlt)
            generalize l[k] = p at *
            obtain ⟨t, r, ks⟩ := p
            simp only at k0 k1 k2 hp i1
            have hwr : IntKind.i64.wrap (r - (ks.length : Int)) = leftV (t, r, ks) := by unfold leftV at hlv ⊢; exact IntWalk.i64_in _ (by simp only at hlv ⊢; omega)
            have HLV := Lib.hid (show leftV (t, r, ks) = r - (ks.length : Int) from rfl)
            generalize leftV (t, r, ks) = lv at *
            have S1 := hS.alloc (.cells #[.bool t, .int .i64 r, .slice u ks.length cu] 45)
            have S1' := (Since.refl wr).alloc (.cells #[.bool t, .int .i64 r, .slice u ks.length cu] 45)
            have ho1 := ho.stays S1'.below
            have HPI := Lib.hid (hp.stays RKept.stays S1'.below)
            have hol : (gathL v l n ++ roomL v l left k).length ≤ 1000 := by rw [List.length_append]; omega
            clear hp S1' hget hlv hgl2 hrl
            by_cases hyes : t = true ∧ lv = left
            · obtain ⟨rfl, rfl⟩ := hyes
              have hroom : (ks.length : Int) < r := by have := HLV.out; omega
              have HCV := Lib.hid (show canV v (true, r, ks) = decide (findV v ks 0 < 0) by simp [canV, hroom])
              clear hroom
              go_upto_region 10 with fail
              have f0 : (wr.alloc (.cells #[.bool true, .int .i64 r, .slice u ks.length cu] 45)).cell? ⟨wr.heap.size, 0, none⟩ = some (.bool true) := by go_simp
              have f1 : (wr.alloc (.cells #[.bool true, .int .i64 r, .slice u ks.length cu] 45)).cell? ⟨wr.heap.size, 1, none⟩ = some (.int .i64 r) := by go_simp
              have f2 : (wr.alloc (.cells #[.bool true, .int .i64 r, .slice u ks.length cu] 45)).cell? ⟨wr.heap.size, 2, none⟩ = some (.slice u ks.length cu) := by go_simp
              obtain ⟨Bk, hBk⟩ : ∃ Bk, Bk = wr.heap.size := ⟨_, rfl⟩
              rw [← hBk] at f0 f1 f2 ⊢
              have HO1 := Lib.hid ho1
              clear hBk k0 k1 k2 hS ho ho1
              generalize wr.alloc (.cells #[.bool true, .int .i64 r, .slice u ks.length cu] 45) = w2 at *
              by_cases hf : findV v ks 0 < 0
              · have HYF := Lib.hid (show canV v (true, r, ks) = true by rw [HCV.out]; exact decide_eq_true hf)
                have HCP := Lib.hid (HCS.out.trans (congrArg (roomL v l lv k ++ ·) (if_pos ⟨HYF.out, rfl⟩)))
                go_wp2_with (first
                  | (go_at_call 32; refine (At_any _ _ _ ks v _ (HPI.out.stays RKept.stays (Below.refl _ _))).mono ?_; rintro e w5 ⟨rfl, hb5⟩; have hgs := hS5' S1 hb5; have ho5 := (HO1.out.stays hb5).stays (below_alloc w5 (.cells #[.int .i64 (k : Int)] 3)))
                  | (at_builtin; refine wpList_append_int rfl _ _ 28 rfl 3 Tryz.underlying28 info_int W.heap.size _ _ rfl ho5 ⟨w5.heap.size, 0, none⟩ 1 (k : Int) rfl (by simp) ik (by omega) (by simp; omega) ?_; intro v' w6 ho6 hg6))
                have S6 := ((S1.step hb5).alloc (.cells #[.int .i64 (k : Int)] 3)).own ho5 hg6
                have HO6 := Lib.hid ho6
                clear ho6 hg6 ho5 hb5
                go_roundw
                case rel => exact ⟨k + 1, by omega, by go_num, S6, by rw [HCP.out, ← List.append_assoc]; exact HO6.out⟩
                case measure => simp [intOf]; omega
              · have HNF := Lib.hid (show canV v (true, r, ks) = false by rw [HCV.out]; exact decide_eq_false hf)
                have HCN := Lib.hid (HCS.out.trans (congrArg (roomL v l lv k ++ ·) (if_neg (fun h => by rw [HNF.out] at h; simp at h))))
                go_wp2_with (go_at_call 32; refine (At_any _ _ _ ks v _ (HPI.out.stays RKept.stays (Below.refl _ _))).mono ?_; rintro e w5 ⟨rfl, hb5⟩)
                have S5 := S1.step hb5
                have HO5 := Lib.hid (HO1.out.stays hb5)
                clear hb5
                go_roundw
                case rel => exact ⟨k + 1, by omega, by go_num, S5, by rw [HCN.out, List.append_nil]; exact HO5.out⟩
                case measure => simp [intOf]; omega
            · have HNO := Lib.hid (show ¬ (canV v (t, r, ks) = true ∧ lv = left) by rintro ⟨h1, h2⟩; exact hyes ⟨by simp [canV] at h1; exact h1.1, h2⟩)
              cases t with
              | false =>
                clear hyes
                go_wp2_with fail
                go_roundw
                case rel => exact ⟨k + 1, by omega, by go_num, S1, by rw [HCS.out, if_neg HNO.out, List.append_nil]; exact ho1⟩
                case measure => simp [intOf]; omega
              | true =>
                have hne : (lv == left) = false := by simp only [beq_eq_false_iff_ne]; exact fun h => hyes ⟨rfl, h⟩
                clear hyes
                go_wp2_with fail
                go_roundw
                case rel => exact ⟨k + 1, by omega, by go_num, S1, by rw [HCS.out, if_neg HNO.out, List.append_nil]; exact ho1⟩
                case measure => simp [intOf]; omega
          · obtain rfl : l.length = k := by omega
            have ho2 := HNX.out ▸ ho
            have HO2 := Lib.hid ho2
            clear ho ho2
            go_wp2_with fail
            go_roundw
            case rel => exact ⟨n + 1, by omega, by have := HL.out; go_num, hS, HO2.out⟩
            case measure => have := HL.out; simp [intOf]; omega
      · obtain rfl : n = 20 := by omega
        have hg : gathL v l 20 = gotL v l := gath_places (fun p hp => (HROOM.out p hp).2)
        rw [hg] at ho0
        clear hg
        obtain ⟨a', c', rfl, hcap, ⟨_, hcc, _⟩, _⟩ := ho0.isInts.opened
        have hpl := places_len v l
        have hcl := candL_len v l l.length
        have HO := Lib.hid ho0
        clear ho0
        have HE := Lib.hid hpl
        generalize hN : (gotL v l).length = N at *
        have HN := Lib.hid (show (candL v l l.length).length = N from HE.out.symm)
        clear hpl HE
        by_cases hshort : (N : Int) < many
        · have H := Lib.hid (forE_short H0.out HR.out (by rw [HN.out]; exact hshort))
          go_wp2_with fail
          go_ret2
          exact ⟨⟨_, ret_vE H.out.symm, by rw [forC_no (by rw [H.out]; simp)]; exact IsInts.nil _, fun _ hk => nil_lies hk⟩, hS0.below⟩
        · have H := Lib.hid (forE_ok H0.out HR.out (by rw [HN.out]; exact hshort))
          obtain ⟨m, rfl⟩ := Int.eq_ofNat_of_zero_le hm0
          have hm : m ≤ N := by omega
          have hmc : m ≤ c' := by omega
          have HI := Lib.hid (HO.out.isInts.take m (by rw [hN]; exact hm))
          have HLI : Hid (∀ k, Value.lies (.slice a' (m : Nat) c') k → W.heap.size ≤ k) := Lib.hid (fun k hk => by
            obtain ⟨y, n', c'', e, rfl⟩ := hk
            simp only [Value.slice.injEq] at e
            exact (HO.out.lies y.block ⟨y, _, _, by rw [e.1], rfl⟩).1)
          go_wp2_with fail
          go_ret2
          exact ⟨⟨_, ret_vE H.out.symm, by rw [forC_ok H.out]; exact HI.out, HLI.out⟩, hS0.below⟩
end Go.Proofs.YtjakdgchfimhkaaGreat
