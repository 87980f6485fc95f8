/-
  slices.SortStableFunc at a few ints of the call's own, with whatever closure that only reads.
-/
import Derived.Test.YtpjlngkndofjfaaRows
import Derived.Test.YtpjlngkndofjfaaBase
import Derived.BigRegion
import Derived.BigQuiet
import Derived.Shelf.Abstract
namespace Go.Proofs.Ytpjlngkndofjfaa
open Go.RowKit

def ltc (cf : Int → Int → Int) (x y : Int) : Bool := decide (cf x y < 0)

set_option maxRecDepth 100000 in
set_option maxHeartbeats 4000000 in
theorem insSort_any (F : Nat) (eF : ∀ args w, (callFunc F args).run Try.prog w = .ok (.enter F args) w) (caps : Array Value) (cf : Int → Int → Int) (base g cap : Nat) (l : List Int) (W : World) (ho : OwnInts W 3 base (.slice (some ⟨g, 0, none⟩) l.length cap) l) (hl : l.length ≤ 1000000)
    (hF : ∀ x y w, x ∈ l → y ∈ l → W.grownBy w (some g) → Calls Try.prog F (#[.int .i64 x, .int .i64 y] ++ caps) w fun e w' => e = .returned (.int .i64 (cf x y)) ∧ ∃ q, w' = w.drewN q) :
    Calls Try.prog 62 #[.slice (some ⟨g, 0, none⟩) l.length cap, .int .i64 0, .int .i64 l.length, .func (.func F) #[] caps] W fun e w' => e = .returned (.tuple #[]) ∧ OwnInts w' 3 base (.slice (some ⟨g, 0, none⟩) l.length cap) (srtL (ltc cf) l) ∧ W.grownBy w' (some g) := by
  have HF := Lib.hid hF
  have hg0 : W.grownBy W (some g) := World.grownBy.refl W _
  clear hF
  go_enter Try.func62, Try.ntmps62
  go_wp2_with fail
  go_loopw [8] (fun i wr => ∃ k : Nat, ∃ c : List Int, i = .int .i64 k ∧ 1 ≤ k ∧ (k ≤ l.length ∨ k = 1) ∧ c = (srtR (ltc cf) (l.take k)).reverse ++ l.drop k ∧ OwnInts wr 3 base (.slice (some ⟨g, 0, none⟩) l.length cap) c ∧ W.grownBy wr (some g)) (fun i _ => l.length - (intOf i).toNat)
  case atStart => exact ⟨1, l, by go_num, by omega, Or.inr rfl, (srt_start l).symm, ho, hg0⟩
  case round =>
    obtain ⟨k, c, rfl, hk1, hk2, hc, hoc, hgw⟩ := hrel
    clear ho hg0
    obtain ⟨wo, hwo⟩ : ∃ wo : World, wo = wr := ⟨_, rfl⟩
    rw [← hwo] at hoc hgw ⊢
    clear hwo
    by_cases hlt : k < l.length
    · have hx : l[k]? = some l[k] := List.getElem?_eq_getElem hlt
      have HMX := Lib.hid (List.getElem_mem hlt)
      generalize l[k] = x at *
      have HST := Lib.hid (srtR_step (lt := ltc cf) hx)
      have hcs : c = (srtR (ltc cf) (l.take k)).reverse ++ x :: ([] ++ l.drop (k + 1)) := by rw [hc, drop_get hx]; rfl
      have hP : (srtR (ltc cf) (l.take k)).length = k := by rw [srtR_len, List.length_take]; omega
      have HX := Lib.hid hx
      have HCS := Lib.hid hcs
      have HP := Lib.hid hP
      have HPM := Lib.hid (srtR_perm (lt := ltc cf) (l.take k))
      clear hx hc hcs hP
      go_wp2_with fail
      go_loopw [9] (fun j wr => ∃ jj : Nat, ∃ A B c : List Int, j = .int .i64 jj ∧ A.length = jj ∧ jj + B.length = k ∧ c = A ++ x :: (B ++ l.drop (k + 1)) ∧ (insA (ltc cf) x A.reverse).reverse ++ B = (srtR (ltc cf) (l.take (k + 1))).reverse ∧ (∀ z ∈ A, z ∈ l) ∧ OwnInts wr 3 base (.slice (some ⟨g, 0, none⟩) l.length cap) c ∧ W.grownBy wr (some g)) (fun j _ => (intOf j).toNat)
      case atStart =>
        refine ⟨k, (srtR (ltc cf) (l.take k)).reverse, [], c, rfl, by rw [List.length_reverse]; exact HP.out, by simp, HCS.out, by rw [List.reverse_reverse, List.append_nil, HST.out], fun z hz => ?_, hoc, hgw⟩
        exact List.mem_of_mem_take (HPM.out.mem_iff.1 (List.mem_reverse.1 hz))
      case round =>
        obtain ⟨jj, A, B, c2, rfl, hA, hB, hc2, hins, hAl, ho2, hg2⟩ := hrel
        have HI := Lib.hid hins
        have HC2 := Lib.hid hc2
        have HAL := Lib.hid hAl
        have HA := Lib.hid hA
        have hcl : c2.length = l.length := by rw [hc2]; simp; omega
        have hcl1 : l.length ≤ c2.length := by omega
        have HSTOP : Hid ((A = [] ∨ ∃ A' y, A = A' ++ [y] ∧ ltc cf x y = false) → c2 = (srtR (ltc cf) (l.take (k + 1))).reverse ++ l.drop (k + 1)) := Lib.hid (fun h => by rw [← HI.out, insA_stop h, HC2.out]; simp)
        clear hins hc2 hAl hcl hoc hgw
        by_cases hj : 0 < jj
        · obtain ⟨jp, hjp⟩ : ∃ jp, jj = jp + 1 := ⟨jj - 1, by omega⟩
          obtain ⟨A', y, hAy⟩ : ∃ A' y, A = A' ++ [y] := by
            rcases List.eq_nil_or_concat A with h | ⟨A', y, h⟩
            · rw [h] at hA; simp at hA; omega
            · exact ⟨A', y, by rw [h, List.concat_eq_append]⟩
          have hA' : A'.length = jp := by rw [hAy] at hA; simp at hA; omega
          have e1 : c2[jj]? = some x := by rw [HC2.out, List.getElem?_append_right (by omega), hA]; simp
          have e2 : c2[jp]? = some y := by rw [HC2.out, hAy]; simp [hA']
          have c1 := ho2.cell jj (by omega)
          rw [List.getD_eq_getElem?_getD, e1] at c1
          have c0 := ho2.cell jp (by omega)
          rw [List.getD_eq_getElem?_getD, e2] at c0
          have c1' : wr.cell? ⟨g, jj, none⟩ = some (.int .i64 x) := c1
          have c0' : wr.cell? ⟨g, jp, none⟩ = some (.int .i64 y) := c0
          have ix : I64 x := ho2.2.1 x (List.mem_of_getElem? e1)
          have iy : I64 y := ho2.2.1 y (List.mem_of_getElem? e2)
          have f1 := ho2.free jj
          have f0 := ho2.free jp
          have hmy : y ∈ l := HAL.out y (by rw [hAy]; simp)
          have HC := Lib.hid (fun n => HF.out x y (wr.drewN n) HMX.out hmy (hg2.trans ⟨rfl, rfl, rfl, Nat.le_refl _, fun _ _ _ => rfl⟩))
          have hw1 : IntKind.i64.wrap ((jj : Int) - 1) = (jp : Int) := by rw [IntWalk.i64_in _ (by omega)]; omega
          have s1 : (0 : Int) < (jj : Int) := by omega
          have s2 : (0 : Int) ≤ (jp : Int) := by omega
          have s3 : (jj : Int) < (l.length : Int) := by omega
          have s4 : (jp : Int) < (l.length : Int) := by omega
          have s5 : ¬ jj = jp := by omega
          have s6 : ¬ jp = jj := by omega
          have HAY := Lib.hid hAy
          have HA' := Lib.hid hA'
          have HB := Lib.hid hB
          have HE1 := Lib.hid e1
          have HE2 := Lib.hid e2
          have HJ := Lib.hid hjp
          clear c1 c0 e1 e2 hmy hAy hA' hA hB hjp
          by_cases hlv : cf x y < 0
          · have HLV := Lib.hid (show ltc cf x y = true from decide_eq_true hlv)
            go_wp2_with (go_quiet (first | (go_at_fn F; refine Calls.quiet_of (HC.out _))))
            have hg3 : W.grownBy (wr.drewN nq) (some g) := hg2.trans ⟨rfl, rfl, rfl, Nat.le_refl _, fun _ _ _ => rfl⟩
            have ho3 : OwnInts (wr.drewN nq) 3 base (.slice (some ⟨g, 0, none⟩) l.length cap) c2 := ho2.kept (row := none) ⟨rfl, rfl, rfl, Nat.le_refl _, fun _ _ _ => rfl⟩ (Or.inr (by simp [Value.ownBlock]))
            have c1 : (wr.drewN nq).cell? ⟨g, jj, none⟩ = some (.int .i64 x) := c1'
            have c0 : (wr.drewN nq).cell? ⟨g, jp, none⟩ = some (.int .i64 y) := c0'
            have k1 : (wr.drewN nq).frozen? ⟨g, jj, none⟩ = false := f1
            have k0 : (wr.drewN nq).frozen? ⟨g, jp, none⟩ = false := f0
            clear c1' c0' f1 f0 ho2 hg2
            generalize wr.drewN nq = w3 at *
            go_region
            have ho5 := (ho3.stored jj y iy).stored jp x ix
            have hg5 := hg3.trans (World.grownBy.trans (grown_setCell w3 ⟨g, jj, none⟩ (.int .i64 y)) (grown_setCell _ ⟨g, jp, none⟩ (.int .i64 x)))
            have hset : (c2.set jj y).set jp x = A' ++ x :: ((y :: B) ++ l.drop (k + 1)) := by
              have h1 : c2 = A' ++ y :: x :: (B ++ l.drop (k + 1)) := by rw [HC2.out, HAY.out]; simp
              have h2 := HA'.out
              have h3 := HJ.out
              rw [h1, h3, ← h2, List.set_append_right _ _ (by omega), List.set_append_right _ _ (by omega)]
              simp
            have HSET := Lib.hid hset
            clear c1 c0 k1 k0 ho3 hg3 hset
            go_wp2_with fail
            go_roundw
            case rel =>
              refine ⟨jp, A', y :: B, _, by go_num, HA'.out, ?_, HSET.out, ?_, fun z hz => HAL.out z (by rw [HAY.out]; simp [hz]), ho5, hg5.trans ⟨rfl, rfl, rfl, Nat.le_refl _, fun _ _ _ => rfl⟩⟩
              · have := HB.out; have := HJ.out; simp; omega
              · rw [← HI.out, HAY.out, insA_go HLV.out, List.append_assoc]; rfl
            case measure => have := HJ.out; simp [intOf]; omega
          · have HLV := Lib.hid (show ltc cf x y = false from decide_eq_false hlv)
            go_wp2_with (go_quiet (first | (go_at_fn F; refine Calls.quiet_of (HC.out _))))
            go_roundw
            case rel =>
              refine ⟨k + 1, c2, by go_num, by omega, by omega, HSTOP.out (Or.inr ⟨A', y, HAY.out, HLV.out⟩), ?_, hg2.trans ⟨rfl, rfl, rfl, Nat.le_refl _, fun _ _ _ => rfl⟩⟩
              exact ho2.kept (row := none) ⟨rfl, rfl, rfl, Nat.le_refl _, fun _ _ _ => rfl⟩ (Or.inr (by simp [Value.ownBlock]))
            case measure => simp [intOf]; omega
        · have hj0 : jj = 0 := by omega
          have hs : ¬ (0 : Int) < (jj : Int) := by omega
          have HNIL := Lib.hid (show A = [] from List.eq_nil_of_length_eq_zero (by omega))
          go_wp2_with (go_quiet (fail))
          go_roundw
          case rel =>
            refine ⟨k + 1, c2, by go_num, by omega, by omega, HSTOP.out (Or.inl HNIL.out), ?_, hg2.trans ⟨rfl, rfl, rfl, Nat.le_refl _, fun _ _ _ => rfl⟩⟩
            exact ho2.kept (row := none) ⟨rfl, rfl, rfl, Nat.le_refl _, fun _ _ _ => rfl⟩ (Or.inr (by simp [Value.ownBlock]))
          case measure => simp [intOf]; omega
    · have HD := Lib.hid (show c = srtL (ltc cf) l by rw [hc]; unfold srtL; rcases hk2 with h | h; (have : l.length = k := by omega); (rw [← this, List.take_length, List.drop_length, List.append_nil]); (subst h; rw [List.take_of_length_le (by omega), List.drop_of_length_le (by omega), List.append_nil]))
      clear hc
      go_wp2_with fail
      go_end0
      exact ⟨rfl, by rw [← HD.out]; exact hoc, hgw⟩


set_option maxRecDepth 100000 in
set_option maxHeartbeats 1000000 in
theorem SortStable_any (F : Nat) (eF : ∀ args w, (callFunc F args).run Try.prog w = .ok (.enter F args) w) (caps : Array Value) (cf : Int → Int → Int) (base g cap : Nat) (l : List Int) (W : World) (ho : OwnInts W 3 base (.slice (some ⟨g, 0, none⟩) l.length cap) l) (hl : l.length ≤ 19)
    (hF : ∀ x y w, x ∈ l → y ∈ l → W.grownBy w (some g) → Calls Try.prog F (#[.int .i64 x, .int .i64 y] ++ caps) w fun e w' => e = .returned (.int .i64 (cf x y)) ∧ ∃ q, w' = w.drewN q) :
    Calls Try.prog 26 #[.slice (some ⟨g, 0, none⟩) l.length cap, .func (.func F) #[] caps] W fun e w' => e = .returned (.tuple #[]) ∧ OwnInts w' 3 base (.slice (some ⟨g, 0, none⟩) l.length cap) (srtL (ltc cf) l) ∧ W.grownBy w' (some g) := by
  have hi := Lib.hid (insSort_any F eF caps cf base g cap l W ho (by omega) hF)
  clear hF ho
  have hst : Calls Try.prog 49 #[.slice (some ⟨g, 0, none⟩) l.length cap, .int .i64 l.length, .func (.func F) #[] caps] W fun e w' => e = .returned (.tuple #[]) ∧ OwnInts w' 3 base (.slice (some ⟨g, 0, none⟩) l.length cap) (srtL (ltc cf) l) ∧ W.grownBy w' (some g) := by
    have h1 : ¬ ((20 : Int) ≤ (l.length : Int)) := by omega
    have h2 : ¬ ((20 : Int) < (l.length : Int)) := by omega
    go_enter Try.func49, Try.ntmps49
    go_wp2_with fail
    go_loopw [7, 8] (fun a b wr => a = .int .i64 0 ∧ b = .int .i64 20 ∧ wr = W) (fun _ _ _ => 0)
    case atStart => exact ⟨rfl, rfl, rfl⟩
    case round =>
      obtain ⟨rfl, rfl, rfl⟩ := hrel
      go_wp2_with fail
      refine hi.out.mono ?_
      rintro e w1 ⟨rfl, ho1, hg1⟩
      have HO := Lib.hid ho1
      have HG := Lib.hid hg1
      clear ho1 hg1
      go_wp2_with fail
      go_loopw [6, 7, 8, 9] (fun a b c d wr => a = .int .i64 20 ∧ wr = w1) (fun _ _ _ _ _ => 0)
      case atStart => exact ⟨rfl, rfl⟩
      case round =>
        obtain ⟨rfl, rfl⟩ := hrel
        go_wp2_with fail
        go_end0
        exact ⟨rfl, HO.out, HG.out⟩
  have HST := Lib.hid hst
  clear hst
  go_enter Try.func26, Try.ntmps26
  go_wp2_with fail
  refine HST.out.mono ?_
  rintro e w1 ⟨rfl, ho1, hg1⟩
  go_wp2_with fail
  go_end0
  exact ⟨rfl, ho1, hg1⟩

end Go.Proofs.Ytpjlngkndofjfaa
