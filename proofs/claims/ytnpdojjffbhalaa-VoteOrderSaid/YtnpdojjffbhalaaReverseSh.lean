/-
  slices.Reverse at shares of the call's own.
-/
import Derived.Test.YtnpdojjffbhalaaPicked
import Derived.StillTailTactics
namespace Go.Proofs.Ytnpdojjffbhalaa
open Go.RowKit

/-- k shares of each end have changed places. -/
def TurnS (l c : List Sh) (k : Nat) : Prop := c.length = l.length ∧ ∀ j, j < l.length → c[j]? = if j < k ∨ l.length - k ≤ j then l[l.length - 1 - j]? else l[j]?
theorem TurnS.start (l : List Sh) : TurnS l l 0 := ⟨rfl, fun j hj => by rw [if_neg (by omega)]⟩
theorem TurnS.step {l c : List Sh} {k : Nat} {x y : Sh} (h : TurnS l c k) (hk : k < l.length - 1 - k) (hx : c[k]? = some x) (hy : c[l.length - 1 - k]? = some y) : TurnS l ((c.set k y).set (l.length - 1 - k) x) (k + 1) := by
  obtain ⟨hl, hc⟩ := h
  refine ⟨by simp [hl], fun j hj => ?_⟩
  have e1 := hc k (by omega)
  have e2 := hc (l.length - 1 - k) (by omega)
  rw [if_neg (by omega), hx] at e1
  rw [if_neg (by omega), hy] at e2
  rw [List.getElem?_set]
  by_cases h1 : l.length - 1 - k = j
  · rw [if_pos h1, if_pos (by simp; omega), if_pos (by omega), e1]
    congr 1
    omega
  · rw [if_neg h1, List.getElem?_set]
    by_cases h2 : k = j
    · subst h2
      rw [if_pos rfl, if_pos (by omega), if_pos (by omega), e2]
    · rw [if_neg h2, hc j hj]
      by_cases h3 : j < k ∨ l.length - k ≤ j
      · rw [if_pos h3, if_pos (by omega)]
      · rw [if_neg h3, if_neg (by omega)]
theorem TurnS.done {l c : List Sh} {k : Nat} (h : TurnS l c k) (hk : l.length - 1 - k ≤ k) : c = l.reverse := by
  obtain ⟨hl, hc⟩ := h
  apply List.ext_getElem?
  intro j
  by_cases hj : j < l.length
  · rw [hc j hj, List.getElem?_reverse hj]
    by_cases h3 : j < k ∨ l.length - k ≤ j
    · rw [if_pos h3]
    · rw [if_neg h3]
      congr 1
      omega
  · rw [List.getElem?_eq_none (by omega), List.getElem?_eq_none (by simp; omega)]

set_option maxRecDepth 100000 in
set_option maxHeartbeats 2000000 in
theorem ReverseShares_any (E : Nat → Prop) (base : Nat) (v : Value) (l : List Sh) (w : World) (ho : OwnRow 2 RShare E w 33 base v l) :
    Calls Try.prog 24 #[v] w fun e w' => e = .returned (.tuple #[]) ∧ OwnRow 2 RShare E w' 33 base v l.reverse ∧ w.grownBy w' v.ownBlock := by
  by_cases hl2 : l.length ≤ 1
  · have hr : l.reverse = l := by
      match l, hl2 with
      | [], _ => rfl
      | [a], _ => rfl
    rw [hr]
    obtain ⟨a, cap, rfl, hcap, ⟨hm1, hm2, hm3⟩, _⟩ := ho.isRow.opened
    have HO := Lib.hid ho
    clear ho hr hm3
    go_enter Try.func24, Try.ntmps24
    go_wp2
    go_loop [2, 3] (fun i j => i = .int .i64 0 ∧ j = .int .i64 ((l.length : Int) - 1)) (fun _ _ => 0)
    case atStart => exact ⟨rfl, rfl⟩
    case round =>
      obtain ⟨rfl, rfl⟩ := hrel
      go_wp2
      go_end0
      exact ⟨rfl, HO.out, World.grownBy.refl _ _⟩
  · have hlen : l.length ≤ 1000000 := ho.top
    rcases ho.shape with ⟨_, hnil⟩ | ⟨g, cap, cur, rfl, hg1, hg2, hcap1, hcap2, _, _⟩
    · rw [hnil] at hl2; simp at hl2
    go_enter Try.func24, Try.ntmps24
    go_wp2
    go_loopw [2, 3] (fun i j wr => ∃ k : Nat, ∃ c : List Sh, k ≤ l.length ∧ i = .int .i64 k ∧ j = .int .i64 ((l.length : Int) - 1 - k) ∧ OwnRow 2 RShare E wr 33 base (.slice (some ⟨g, 0, none⟩) l.length cap) c ∧ TurnS l c k ∧ w.grownBy wr (some g)) (fun i _ _ => l.length - (intOf i).toNat)
    case atStart => exact ⟨0, l, by omega, rfl, by go_num, ho, TurnS.start l, World.grownBy.refl _ _⟩
    case round =>
      obtain ⟨k, c, hk, rfl, rfl, hc, ht, hg⟩ := hrel
      have HT := Lib.hid ht
      have hcl : l.length ≤ c.length := by rw [ht.1]; exact Nat.le_refl _
      clear ht
      by_cases hlt : k < l.length - 1 - k
      · rw [show ((l.length : Int) - 1 - k) = ((l.length - 1 - k : Nat) : Int) by omega]
        obtain ⟨m, hm⟩ : ∃ m, m = l.length - 1 - k := ⟨_, rfl⟩
        rw [← hm] at hlt ⊢
        have hml : m < l.length := by omega
        have hm2 : l.length ≤ m + k + 1 := by omega
        have hm3 : m + k + 1 ≤ l.length := by omega
        have HM := Lib.hid hm
        clear hm
        have hxk : c[k]? = some c[k] := List.getElem?_eq_getElem (by omega)
        have hxm : c[m]? = some c[m] := List.getElem?_eq_getElem (by omega)
        have HXK := Lib.hid hxk
        have HXM := Lib.hid hxm
        obtain ⟨g1, cp1, u1, q1, e1, c1, d1, _, f1⟩ := ownShare_at hc hxk
        obtain ⟨g2, cp2, u2, q2, e2, c2, d2, _, f2⟩ := ownShare_at hc hxm
        simp only [Value.slice.injEq, Option.some.injEq, Addr.mk.injEq, and_true] at e1 e2
        obtain ⟨rfl, _⟩ := e1
        obtain ⟨rfl, _⟩ := e2
        generalize c[k] = x at *
        generalize c[m] = y at *
        have fr1 := hc.free (g := g) rfl (k * 2)
        have fr2 := hc.free (g := g) rfl (k * 2 + 1)
        have fr3 := hc.free (g := g) rfl (m * 2)
        have fr4 := hc.free (g := g) rfl (m * 2 + 1)
        have HF1 := Lib.hid f1
        have HF2 := Lib.hid f2
        have HC := Lib.hid hc
        clear hxk hxm hc f1 f2
        go_wp2
        have s1 : (k : Int) < (l.length : Int) := by omega
        have s2 : (m : Int) < (l.length : Int) := by omega
        have s3 : (0 : Int) ≤ (k : Int) := by omega
        have s4 : (0 : Int) ≤ (m : Int) := by omega
        have s5 : ¬ k = m := by omega
        have s6 : ¬ m = k := by omega
        have s7 : ¬ k * 2 = m * 2 + 1 := by omega
        have s8 : ¬ k * 2 + 1 = m * 2 := by omega
        have s9 : ¬ m * 2 = k * 2 + 1 := by omega
        have s10 : ¬ m * 2 + 1 = k * 2 := by omega
        go_region
        have hcl2 := HT.out.1
        have h2 := HC.out.setElem (k := k) (by omega) (r := [.int .i64 y.1, .slice u2 y.2.length q2]) (x := y) rfl (by intro z hz; simp at hz; rcases hz with rfl | rfl <;> rfl) HF2.out
        have hd := (Dirty.of_grown (grown_setCellsR g [.int .i64 y.1, .slice u2 y.2.length q2] (k * 2) wr)).mono (D' := fun j => some g = some j ∨ E j) (fun j _ hj => Or.inl hj)
        have h3 := h2.setElem (k := m) (by rw [List.length_set]; omega) (r := [.int .i64 x.1, .slice u1 x.2.length q1]) (x := x) rfl (by intro z hz; simp at hz; rcases hz with rfl | rfl <;> rfl) (HF1.out.step hd)
        have hg2 := hg.trans ((grown_setCellsR g [.int .i64 y.1, .slice u2 y.2.length q2] (k * 2) wr).trans (grown_setCellsR g [.int .i64 x.1, .slice u1 x.2.length q1] (m * 2) _))
        have H3 := Lib.hid h3.drew
        have HG2 := Lib.hid (show w.grownBy _ (some g) from ⟨hg2.os, hg2.tape, hg2.output, hg2.size, hg2.block⟩)
        clear c1 c2 d1 d2 fr1 fr2 fr3 fr4 h2 h3 hg2 hd hg
        go_wp2
        go_roundw
        case rel =>
          refine ⟨k + 1, (c.set k y).set m x, by omega, by go_num, by go_num, H3.out, ?_, ⟨HG2.out.os, HG2.out.tape, HG2.out.output, HG2.out.size, HG2.out.block⟩⟩
          rw [HM.out]
          exact HT.out.step (by rw [← HM.out]; exact hlt) HXK.out (by rw [← HM.out]; exact HXM.out)
        case measure => simp [intOf]; omega
      · go_wp2
        go_end0
        refine ⟨rfl, ?_, hg⟩
        rw [← HT.out.done (by omega)]
        exact hc

end Go.Proofs.Ytnpdojjffbhalaa
