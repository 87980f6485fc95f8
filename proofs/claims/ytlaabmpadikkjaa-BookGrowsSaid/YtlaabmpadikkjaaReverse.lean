/-
  The walk of slices.Reverse at lists of ints of the call's own.
-/
import Derived.Test.YtlaabmpadikkjaaSlices
import Derived.StillTailTactics
namespace Go.Proofs.Ytlaabmpadikkjaa
open Go.RowKit

theorem follows_mixed' : Try.prog.follows .mixedOrders = true := by kernel_rfl

/-- k numbers of each end have changed places. -/
def Turned (l c : List Int) (k : Nat) : Prop := c.length = l.length ∧ ∀ j, j < l.length → c.getD j 0 = if j < k ∨ l.length - k ≤ j then l.getD (l.length - 1 - j) 0 else l.getD j 0
theorem Turned.start (l : List Int) : Turned l l 0 := ⟨rfl, fun j hj => by rw [if_neg (by omega)]⟩
theorem getD_set' (c : List Int) (i j : Nat) (z : Int) (hi : i < c.length) : (c.set i z).getD j 0 = if j = i then z else c.getD j 0 := by
  simp only [List.getD_eq_getElem?_getD, List.getElem?_set]
  by_cases h : i = j
  · subst h; simp [hi]
  · simp [h, Ne.symm h]
theorem Turned.step {l c : List Int} {k : Nat} (h : Turned l c k) (hk : k < l.length - 1 - k) : Turned l ((c.set k (c.getD (l.length - 1 - k) 0)).set (l.length - 1 - k) (c.getD k 0)) (k + 1) := by
  obtain ⟨hl, hc⟩ := h
  refine ⟨by simp [hl], fun j hj => ?_⟩
  rw [getD_set' _ _ _ _ (by simp; omega), getD_set' _ _ _ _ (by omega)]
  have e1 := hc k (by omega)
  have e2 := hc (l.length - 1 - k) (by omega)
  rw [if_neg (by omega)] at e1 e2
  rw [e1, e2]
  by_cases h1 : j = l.length - 1 - k
  · rw [if_pos h1, if_pos (by omega)]
    congr 1
    omega
  · rw [if_neg h1]
    by_cases h2 : j = k
    · subst h2
      rw [if_pos rfl, if_pos (by omega)]
    · rw [if_neg h2, hc j hj]
      by_cases h3 : j < k ∨ l.length - k ≤ j
      · rw [if_pos h3, if_pos (by omega)]
      · rw [if_neg h3, if_neg (by omega)]
theorem Turned.done {l c : List Int} {k : Nat} (h : Turned l c k) (hk : l.length - 1 - k ≤ k) : c = l.reverse := by
  obtain ⟨hl, hc⟩ := h
  apply List.ext_getElem (by simp [hl])
  intro j h1 h2
  have := hc j (by omega)
  simp only [List.getD_eq_getElem?_getD, List.getElem?_eq_getElem h1, Option.getD_some] at this
  rw [this, List.getElem_reverse]
  by_cases h3 : j < k ∨ l.length - k ≤ j
  · rw [if_pos h3]
    rw [List.getElem?_eq_getElem (by omega)]; rfl
  · rw [if_neg h3]
    rw [List.getElem?_eq_getElem (by omega)]
    simp only [Option.getD_some]
    congr 1
    omega

set_option maxHeartbeats 1000000 in
theorem Reverse_ints (base : Nat) (v : Value) (l : List Int) (w : World) (ho : OwnInts w 3 base v l) :
    Calls Try.prog 70 #[v] w fun e w' => e = .returned (.tuple #[]) ∧ OwnInts w' 3 base v l.reverse ∧ w.grownBy w' v.ownBlock := by
  by_cases hl2 : l.length ≤ 1
  · have hr : l.reverse = l := by
      match l, hl2 with
      | [], _ => rfl
      | [a], _ => rfl
    rw [hr]
    obtain ⟨a, cap, rfl, hcap, ⟨hm1, hm2, hm3⟩, _⟩ := ho.isInts.opened
    have HO := Lib.hid ho
    clear ho hr hm3
    go_enter Try.func70, Try.ntmps70
    go_wp2
    go_loop [2, 3] (fun i j => i = .int .i64 0 ∧ j = .int .i64 ((l.length : Int) - 1)) (fun _ _ => 0)
    case atStart => exact ⟨rfl, rfl⟩
    case round =>
      obtain ⟨rfl, rfl⟩ := hrel
      go_wp2
      go_end0
      exact ⟨rfl, HO.out, rfl, rfl, rfl, Nat.le_refl _, fun _ _ _ => rfl⟩
  · obtain ⟨g, cap, rfl, hg1, hg2, hcap1, hcap2⟩ := ho.shape (by omega)
    have hlen : l.length ≤ 17592186044416 := ho.2.2
    go_enter Try.func70, Try.ntmps70
    go_wp2
    go_loopw [2, 3] (fun i j wr => ∃ k : Nat, ∃ c : List Int, k ≤ l.length ∧ i = .int .i64 k ∧ j = .int .i64 ((l.length : Int) - 1 - k) ∧ OwnInts wr 3 base (.slice (some ⟨g, 0, none⟩) l.length cap) c ∧ Turned l c k ∧ w.grownBy wr (some g)) (fun i _ _ => l.length - (intOf i).toNat)
    case atStart => exact ⟨0, l, by omega, rfl, by go_num, ho, Turned.start l, rfl, rfl, rfl, Nat.le_refl _, fun _ _ _ => rfl⟩
    case round =>
      obtain ⟨k, c, hk, rfl, rfl, hc, ht, hg⟩ := hrel
      have HT := Lib.hid ht
      have hcl : l.length ≤ c.length := by rw [ht.1]; exact Nat.le_refl _
      clear ht
      by_cases hlt : k < l.length - 1 - k
      · rw [show ((l.length : Int) - 1 - k) = ((l.length - 1 - k : Nat) : Int) by omega]
        obtain ⟨m, hm⟩ : ∃ m, m = l.length - 1 - k := ⟨_, rfl⟩
        rw [← hm] at hlt ⊢
        have hml : m < l.length := by omega
        have hm2 : l.length ≤ m + k + 1 := by omega
        have hm3 : m + k + 1 ≤ l.length := by omega
        have HM := Lib.hid hm
        clear hm
        have c1 := hc.cell k (by omega)
        have c2 := hc.cell m (by omega)
        have f1 := hc.free k
        have f2 := hc.free m
        obtain ⟨u1, hu1⟩ : ∃ u, u = c.getD k 0 := ⟨_, rfl⟩
        obtain ⟨u2, hu2⟩ : ∃ u, u = c.getD m 0 := ⟨_, rfl⟩
        have iu1 : I64 u1 := by rw [hu1, List.getD_eq_getElem?_getD, List.getElem?_eq_getElem (by omega)]; exact hc.2.1 _ (List.getElem_mem _)
        have iu2 : I64 u2 := by rw [hu2, List.getD_eq_getElem?_getD, List.getElem?_eq_getElem (by omega)]; exact hc.2.1 _ (List.getElem_mem _)
        rw [← hu1] at c1
        rw [← hu2] at c2
        have HU1 := Lib.hid hu1
        have HU2 := Lib.hid hu2
        clear hu1 hu2
        go_wp2
        have s1 : (k : Int) < (l.length : Int) := by omega
        have s2 : (m : Int) < (l.length : Int) := by omega
        have s3 : (0 : Int) ≤ (k : Int) := by omega
        have s4 : (0 : Int) ≤ (m : Int) := by omega
        have s5 : ¬ k = m := by omega
        have s6 : ¬ m = k := by omega
        go_region
        have ho2 := (hc.stored k u2 iu2).stored m u1 iu1
        have hg2' := hg.trans (World.grownBy.trans (grown_setCell wr ⟨g, k, none⟩ (.int .i64 u2)) (grown_setCell _ ⟨g, m, none⟩ (.int .i64 u1)))
        clear c1 c2 f1 f2 hc hg
        go_wp2
        go_roundw
        case rel =>
          refine ⟨k + 1, (c.set k u2).set m u1, by omega, by go_num, by go_num, ho2, ?_, ⟨hg2'.os, hg2'.tape, hg2'.output, hg2'.size, hg2'.block⟩⟩
          rw [HU1.out, HU2.out, HM.out]
          exact HT.out.step (by rw [← HM.out]; exact hlt)
        case measure => simp [intOf]; omega
      · go_wp2
        go_end0
        refine ⟨rfl, ?_, hg⟩
        rw [← HT.out.done (by omega)]
        exact hc

end Go.Proofs.Ytlaabmpadikkjaa
