/-
  slices.IndexFunc and ContainsFunc at ints, with whatever closure that asks.
-/
import Derived.Test.YtlaabmpadikkjaaSlices
import Derived.Shelf.Abstract
namespace Go.Proofs.Ytlaabmpadikkjaa
open Go.RowKit

/-- The first place at which it is so, from k on; -1: there is none. -/
def findFrom {α : Type} (p : α → Bool) : List α → Nat → Int
  | [], _ => -1
  | y :: l, k => if p y then (k : Int) else findFrom p l (k + 1)
theorem findFrom_nonneg {α : Type} (p : α → Bool) : ∀ (l : List α) (k : Nat), decide (0 ≤ findFrom p l k) = l.any p
  | [], k => by simp [findFrom]
  | y :: l, k => by
    by_cases h : p y = true
    · simp [findFrom, h]
    · simp only [Bool.not_eq_true] at h
      simp [findFrom, h, findFrom_nonneg p l (k + 1)]
theorem findFrom_bd {α : Type} (p : α → Bool) : ∀ (l : List α) (k : Nat), -1 ≤ findFrom p l k ∧ findFrom p l k < (k + l.length : Nat)
  | [], k => by simp [findFrom]; omega
  | y :: l, k => by
    have := findFrom_bd p l (k + 1)
    unfold findFrom
    split
    · simp; omega
    · simp at this ⊢; omega

set_option maxHeartbeats 1000000 in
theorem IndexFuncInts_any (F : Nat) (eF : ∀ args w, (callFunc F args).run Try.prog w = .ok (.enter F args) w) (caps : Array Value) (p : Int → Bool) (v : Value) (l : List Int) (W : World) (hv : IsInts W v l)
    (hF : ∀ z w, z ∈ l → Since W.heap.size W w → Calls Try.prog F (#[.int .i64 z] ++ caps) w fun e w' => e = .returned (.bool (p z)) ∧ Below w.heap.size w w') :
    Calls Try.prog 80 #[v, .func (.func F) #[] caps] W fun e w' => e = .returned (.int .i64 (findFrom p l 0)) ∧ Below W.heap.size W w' := by
  obtain ⟨a, c, rfl, hcap, ⟨hm, hcm, _⟩, hi⟩ := hv.opened
  have HF := Lib.hid hF
  clear hv hF
  go_enter Try.func80, Try.ntmps80
  go_wp2_with fail
  go_loopw [8] (fun i wr => ∃ k : Nat, k ≤ l.length ∧ i = .int .i64 k ∧ Since W.heap.size W wr ∧ findFrom p (l.drop k) k = findFrom p l 0) (fun i _ => l.length - (intOf i).toNat)
  case atStart => exact ⟨0, by omega, rfl, Since.refl W, rfl⟩
  case round =>
    obtain ⟨k, hk, rfl, hS, hq⟩ := hrel
    have HQ := Lib.hid hq
    clear hq
    by_cases hlt : k < l.length
    · obtain ⟨b1, o1, z1, rfl, h1, h4, h5⟩ := hi k hlt
      have HD := Lib.hid (drop_get h4)
      have HM := Lib.hid (List.mem_of_getElem? h4)
      clear h4
      have l1 := cell_lt h1
      have g1 := (hS.below.cell (p := ⟨b1, o1 + k, none⟩) l1).trans h1
      obtain ⟨T, hT⟩ : ∃ T, T = p z1 := ⟨_, rfl⟩
      have HT := Lib.hid hT
      clear hT
      cases T with
      | true =>
        have HH := Lib.hid (show findFrom p l 0 = (k : Int) by rw [← HQ.out, HD.out]; simp [findFrom, ← HT.out])
        go_wp2_with (go_at_fn F; refine (HF.out z1 _ HM.out hS).mono ?_; rintro e w' ⟨rfl, hb'⟩; rw [← HT.out])
        go_ret
        exact ⟨ret_int HH.out.symm, (hS.step hb').below⟩
      | false =>
        have HH := Lib.hid (show findFrom p (l.drop (k + 1)) (k + 1) = findFrom p l 0 by rw [← HQ.out, HD.out]; simp [findFrom, ← HT.out])
        go_wp2_with (go_at_fn F; refine (HF.out z1 _ HM.out hS).mono ?_; rintro e w' ⟨rfl, hb'⟩; rw [← HT.out])
        go_roundw
        case rel => exact ⟨k + 1, by omega, by go_num, hS.step hb', HH.out⟩
        case measure => simp [intOf]; omega
    · obtain rfl : l.length = k := by omega
      go_wp2_with fail
      go_ret
      refine ⟨ret_int ?_, hS.below⟩
      rw [← HQ.out]
      simp [findFrom]

set_option maxHeartbeats 1000000 in
theorem ContainsFuncInts_any (F : Nat) (eF : ∀ args w, (callFunc F args).run Try.prog w = .ok (.enter F args) w) (caps : Array Value) (p : Int → Bool) (v : Value) (l : List Int) (W : World) (hv : IsInts W v l)
    (hF : ∀ z w, z ∈ l → Since W.heap.size W w → Calls Try.prog F (#[.int .i64 z] ++ caps) w fun e w' => e = .returned (.bool (p z)) ∧ Below w.heap.size w w') :
    Calls Try.prog 49 #[v, .func (.func F) #[] caps] W fun e w' => e = .returned (.bool (l.any p)) ∧ Below W.heap.size W w' := by
  have hcall := Lib.hid (IndexFuncInts_any F eF caps p v l W hv hF)
  have hnn := findFrom_nonneg p l 0
  obtain ⟨a, c, rfl, _⟩ := hv.opened
  clear hv hF
  obtain ⟨H, hH⟩ : ∃ H, H = l.any p := ⟨_, rfl⟩
  rw [← hH] at hnn ⊢
  clear hH
  obtain ⟨r, hr⟩ : ∃ r, r = findFrom p l 0 := ⟨_, rfl⟩
  rw [← hr] at hcall hnn
  clear hr
  go_enter Try.func49, Try.ntmps49
  go_wp2_with fail
  refine hcall.out.mono ?_
  rintro e w' ⟨rfl, hb⟩
  cases H with
  | true => go_wp2_with fail
            go_ret
            exact ⟨rfl, hb⟩
  | false => go_wp2_with fail
             go_ret
             exact ⟨rfl, hb⟩

end Go.Proofs.Ytlaabmpadikkjaa
