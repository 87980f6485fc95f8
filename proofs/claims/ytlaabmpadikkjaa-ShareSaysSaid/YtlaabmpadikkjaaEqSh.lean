/-
  slices.EqualFunc at shares.
-/
import Derived.Test.YtlaabmpadikkjaaShare
import Derived.Test.YtlaabmpadikkjaaLib4
namespace Go.Proofs.Ytlaabmpadikkjaa
open Go.RowKit

theorem ret_boolQ {a b : Bool} (h : a = b) : Ending.returned (.bool a) = .returned (.bool b) := by rw [h]
/-- Are shares alike, one by one? -/
def eqSh : List Sh → List Sh → Bool
  | [], [] => true
  | a :: l, b :: r => sameV a.1 b.1 a.2 b.2 && eqSh l r
  | _, _ => false
theorem eqSh_len : ∀ {l r : List Sh}, l.length ≠ r.length → eqSh l r = false
  | [], [], h => absurd rfl h
  | [], _ :: _, _ => rfl
  | _ :: _, [], _ => rfl
  | a :: l, b :: r, h => by simp [eqSh, eqSh_len (l := l) (r := r) (by simpa using h)]

set_option maxHeartbeats 2000000 in
theorem EqualShares_any (v u : Value) (l r : List Sh) (W : World) (hv : IsShares W v l) (hu : IsShares W u r) :
    Calls Try.prog 16 #[v, u, .func (.func 17) #[] #[]] W fun e w' => e = .returned (.bool (eqSh l r)) ∧ Below W.heap.size W w' := by
  obtain ⟨a, c, rfl, hcap, ⟨hm, hcm, _⟩, hi⟩ := hv.opened
  obtain ⟨a', c', rfl, hcap', ⟨hm', hcm', _⟩, hi'⟩ := hu.opened
  by_cases hl : l.length = r.length
  · have hl2 : (((l.length : Nat) : Int) != ((r.length : Nat) : Int)) = false := by simp [hl]
    have HL := Lib.hid hl
    clear hl
    go_enter Try.func16, Try.ntmps16
    go_wp2_with fail
    go_loopw [17] (fun i wr => ∃ k : Nat, k ≤ l.length ∧ i = .int .i64 k ∧ Since W.heap.size W wr ∧ eqSh (l.drop k) (r.drop k) = eqSh l r) (fun i _ => l.length - (intOf i).toNat)
    case atStart => exact ⟨0, by omega, rfl, Since.refl W, rfl⟩
    case round =>
      obtain ⟨k, hk, rfl, hS, hq⟩ := hrel
      have HQ := Lib.hid hq
      clear hq
      by_cases hlt : k < l.length
      · have hlr : k < r.length := by have := HL.out; omega
        obtain ⟨b1, o1, v1, s1, rfl, h1, h2, h3, h4, h5⟩ := hi k hlt
        obtain ⟨b2, o2, v2, s2, rfl, g1, g2, g3, g4, g5⟩ := hi' k hlr
        have HD := Lib.hid (drop_get h4)
        have HE := Lib.hid (drop_get g4)
        clear h4 g4
        obtain ⟨a1, c1, rfl, _⟩ := h3.opened
        obtain ⟨a2, c2, rfl, _⟩ := g3.opened
        have B1 := below_alloc wr (.cells #[.int .i64 s1.1, .slice a1 s1.2.length c1] 32)
        have S1 := hS.alloc (.cells #[.int .i64 s1.1, .slice a1 s1.2.length c1] 32)
        have S2 := S1.alloc (.cells #[.int .i64 s2.1, .slice a2 s2.2.length c2] 32)
        have k1 := (hS.below.cell (p := ⟨b1, o1 + k * 2, none⟩) (cell_lt h1)).trans h1
        have k2 := (hS.below.cell (p := ⟨b1, o1 + k * 2 + 1, none⟩) (cell_lt h2)).trans h2
        have k3 := (S1.below.cell (p := ⟨b2, o2 + k * 2, none⟩) (cell_lt g1)).trans g1
        have k4 := (S1.below.cell (p := ⟨b2, o2 + k * 2 + 1, none⟩) (cell_lt g2)).trans g2
        have h32 := h3.stays S2.below
        have g32 := g3.stays S2.below
        obtain ⟨T, hT⟩ : ∃ T, T = sameV s1.1 s2.1 s1.2 s2.2 := ⟨_, rfl⟩
        have HT := Lib.hid hT
        clear hT
        go_wp2_with fail
        refine (Same_any _ _ _ _ _ _ _ h32 g32).mono ?_
        rintro e w5 ⟨rfl, hb5⟩
        rw [← HT.out]
        have S5 := S2.step hb5
        clear h1 h2 g1 g2 k1 k2 k3 k4
        cases T with
        | true =>
          go_wp2_with fail
          go_roundw
          case rel =>
            refine ⟨k + 1, by omega, by go_num, S5, ?_⟩
            rw [← HQ.out, HD.out, HE.out]
            simp [eqSh, ← HT.out]
          case measure => simp [intOf]; omega
        | false =>
          go_wp2_with fail
          go_ret
          refine ⟨ret_boolQ ?_, S5.below⟩
          rw [← HQ.out, HD.out, HE.out]
          simp [eqSh, ← HT.out]
      · obtain rfl : l.length = k := by omega
        go_wp2_with fail
        go_ret
        refine ⟨ret_boolQ ?_, hS.below⟩
        have hLL := HL.out
        rw [← HQ.out, List.drop_eq_nil_of_le (show l.length ≤ l.length by omega), List.drop_eq_nil_of_le (show r.length ≤ l.length by omega)]
        rfl
  · have hl2 : (((l.length : Nat) : Int) != ((r.length : Nat) : Int)) = true := by rw [bne_iff_ne]; omega
    have HN := Lib.hid (eqSh_len hl)
    clear hl
    go_enter Try.func16, Try.ntmps16
    go_wp2_with fail
    go_ret
    exact ⟨ret_boolQ HN.out.symm, Below.refl _ _⟩

set_option maxHeartbeats 2000000 in
theorem EqualSharesR_any (v u : Value) (l r : List Sh) (W : World) (hv : IsShares W v l) (hu : IsShares W u r) :
    Calls Try.prog 16 #[v, u, .func (.func 26) #[] #[]] W fun e w' => e = .returned (.bool (eqSh l r)) ∧ Below W.heap.size W w' := by
  obtain ⟨a, c, rfl, hcap, ⟨hm, hcm, _⟩, hi⟩ := hv.opened
  obtain ⟨a', c', rfl, hcap', ⟨hm', hcm', _⟩, hi'⟩ := hu.opened
  by_cases hl : l.length = r.length
  · have hl2 : (((l.length : Nat) : Int) != ((r.length : Nat) : Int)) = false := by simp [hl]
    have HL := Lib.hid hl
    clear hl
    go_enter Try.func16, Try.ntmps16
    go_wp2_with fail
    go_loopw [17] (fun i wr => ∃ k : Nat, k ≤ l.length ∧ i = .int .i64 k ∧ Since W.heap.size W wr ∧ eqSh (l.drop k) (r.drop k) = eqSh l r) (fun i _ => l.length - (intOf i).toNat)
    case atStart => exact ⟨0, by omega, rfl, Since.refl W, rfl⟩
    case round =>
      obtain ⟨k, hk, rfl, hS, hq⟩ := hrel
      have HQ := Lib.hid hq
      clear hq
      by_cases hlt : k < l.length
      · have hlr : k < r.length := by have := HL.out; omega
        obtain ⟨b1, o1, v1, s1, rfl, h1, h2, h3, h4, h5⟩ := hi k hlt
        obtain ⟨b2, o2, v2, s2, rfl, g1, g2, g3, g4, g5⟩ := hi' k hlr
        have HD := Lib.hid (drop_get h4)
        have HE := Lib.hid (drop_get g4)
        clear h4 g4
        obtain ⟨a1, c1, rfl, _⟩ := h3.opened
        obtain ⟨a2, c2, rfl, _⟩ := g3.opened
        have B1 := below_alloc wr (.cells #[.int .i64 s1.1, .slice a1 s1.2.length c1] 32)
        have S1 := hS.alloc (.cells #[.int .i64 s1.1, .slice a1 s1.2.length c1] 32)
        have S2 := S1.alloc (.cells #[.int .i64 s2.1, .slice a2 s2.2.length c2] 32)
        have k1 := (hS.below.cell (p := ⟨b1, o1 + k * 2, none⟩) (cell_lt h1)).trans h1
        have k2 := (hS.below.cell (p := ⟨b1, o1 + k * 2 + 1, none⟩) (cell_lt h2)).trans h2
        have k3 := (S1.below.cell (p := ⟨b2, o2 + k * 2, none⟩) (cell_lt g1)).trans g1
        have k4 := (S1.below.cell (p := ⟨b2, o2 + k * 2 + 1, none⟩) (cell_lt g2)).trans g2
        have h32 := h3.stays S2.below
        have g32 := g3.stays S2.below
        obtain ⟨T, hT⟩ : ∃ T, T = sameV s1.1 s2.1 s1.2 s2.2 := ⟨_, rfl⟩
        have HT := Lib.hid hT
        clear hT
        go_wp2_with fail
        refine (SameShare_any _ _ _ _ _ _ _ h32 g32).mono ?_
        rintro e w5 ⟨rfl, hb5⟩
        rw [← HT.out]
        have S5 := S2.step hb5
        clear h1 h2 g1 g2 k1 k2 k3 k4
        cases T with
        | true =>
          go_wp2_with fail
          go_roundw
          case rel =>
            refine ⟨k + 1, by omega, by go_num, S5, ?_⟩
            rw [← HQ.out, HD.out, HE.out]
            simp [eqSh, ← HT.out]
          case measure => simp [intOf]; omega
        | false =>
          go_wp2_with fail
          go_ret
          refine ⟨ret_boolQ ?_, S5.below⟩
          rw [← HQ.out, HD.out, HE.out]
          simp [eqSh, ← HT.out]
      · obtain rfl : l.length = k := by omega
        go_wp2_with fail
        go_ret
        refine ⟨ret_boolQ ?_, hS.below⟩
        have hLL := HL.out
        rw [← HQ.out, List.drop_eq_nil_of_le (show l.length ≤ l.length by omega), List.drop_eq_nil_of_le (show r.length ≤ l.length by omega)]
        rfl
  · have hl2 : (((l.length : Nat) : Int) != ((r.length : Nat) : Int)) = true := by rw [bne_iff_ne]; omega
    have HN := Lib.hid (eqSh_len hl)
    clear hl
    go_enter Try.func16, Try.ntmps16
    go_wp2_with fail
    go_ret
    exact ⟨ret_boolQ HN.out.symm, Below.refl _ _⟩

end Go.Proofs.Ytlaabmpadikkjaa
