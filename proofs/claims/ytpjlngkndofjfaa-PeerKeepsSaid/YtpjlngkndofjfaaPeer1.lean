/-
  Walks: what a peer keeps is found; slices.IndexFunc and slices.EqualFunc at what is kept, with whatever closure.
-/
import Derived.Test.YtpjlngkndofjfaaPeerMath
import Derived.Test.YtpjlngkndofjfaaShare
import Derived.Test.YtpjlngkndofjfaaFunc
import Derived.Test.YtpjlngkndofjfaaEqBy
namespace Go.Proofs.Ytpjlngkndofjfaa
open Go.RowKit

theorem findV_from (v : Int) : ∀ (l : List Kp) (k : Nat), findFrom (fun x : Kp => decide (x.1 = v)) l k = findV v l k
  | [], _ => rfl
  | x :: r, k => by
    unfold findFrom findV
    by_cases h : x.1 = v
    · rw [if_pos h, if_pos (by simpa using h)]
    · rw [if_neg h, if_neg (by simpa using h), findV_from v r (k + 1)]
theorem IsKept.stays {w w' : World} {v : Value} {x : Kp} (h : IsKept w v x) (hb : Below w.heap.size w w') : IsKept w' v x := by
  obtain ⟨u, rfl, hu, i⟩ := h
  exact ⟨u, rfl, hu.stays hb, i⟩

theorem FindOne_any (u : Value) (x : Kp) (M : Int) (b : Nat) (W : World) (hx : IsKept W u x) (hc : W.cell? ⟨b, 0, none⟩ = some (.int .i64 M)) :
    Calls Try.prog 34 #[u, .pointer (some ⟨b, 0, none⟩)] W fun e w' => e = .returned (.bool (decide (x.1 = M))) ∧ Below W.heap.size W w' := by
  obtain ⟨y, rfl, hy, _⟩ := hx
  obtain ⟨a, c, rfl, _⟩ := hy.opened
  obtain ⟨n, N, l⟩ := x
  have S0 := (Since.refl W).alloc (.cells #[.int .i64 n, .int .i64 N, .slice a l.length c] 44)
  have hc' := (S0.below.cell (p := ⟨b, 0, none⟩) (cell_lt hc)).trans hc
  clear hc hy
  go_enter Try.func34, Try.ntmps34
  go_wp2_with fail
  go_ret
  exact ⟨ret_bool rfl, S0.below⟩

set_option maxRecDepth 100000 in
set_option maxHeartbeats 2000000 in
theorem IndexKepts_any (F : Nat) (eF : ∀ args w, (callFunc F args).run Try.prog w = .ok (.enter F args) w) (caps : Array Value) (p : Kp → Bool) (v : Value) (l : List Kp) (W : World) (hv : IsKepts W v l)
    (hF : ∀ u z w, z ∈ l → Since W.heap.size W w → IsKept w u z → Calls Try.prog F (#[u] ++ caps) w fun e w' => e = .returned (.bool (p z)) ∧ Below w.heap.size w w') :
    Calls Try.prog 33 #[v, .func (.func F) #[] caps] W fun e w' => e = .returned (.int .i64 (findFrom p l 0)) ∧ Below W.heap.size W w' := by
  obtain ⟨a, c, rfl, hcap, ⟨hm, hcm, _⟩, _⟩ := hv.opened
  have HF := Lib.hid hF
  clear hF
  go_enter Try.func33, Try.ntmps33
  go_wp2_with fail
  go_loopw [8] (fun i wr => ∃ k : Nat, k ≤ l.length ∧ i = .int .i64 k ∧ Since W.heap.size W wr ∧ findFrom p (l.drop k) k = findFrom p l 0) (fun i _ => l.length - (intOf i).toNat)
  case atStart => exact ⟨0, by omega, rfl, Since.refl W, rfl⟩
  case round =>
    obtain ⟨k, hk, rfl, hS, hq⟩ := hrel
    have HQ := Lib.hid hq
    clear hq
    by_cases hlt : k < l.length
    · obtain ⟨g, off, u, cu, rfl, k0, k1, k2, hp, hi⟩ := kept_at (hv.later RKept.stays (Dirty.old hS.below _)) (List.getElem?_eq_getElem hlt)
      have HD := Lib.hid (List.drop_eq_getElem_cons hlt)
      have HM := Lib.hid (List.getElem_mem hlt)
      generalize l[k] = x at *
      have hver : IsKept wr (.agg #[.int .i64 x.1, .int .i64 x.2.1, .slice u x.2.2.length cu]) x := ⟨_, rfl, hp, hi⟩
      have HVER := Lib.hid hver
      obtain ⟨T, hT⟩ : ∃ T, T = p x := ⟨_, rfl⟩
      have HT := Lib.hid hT
      clear hT hver hp hi
      cases T with
      | true =>
        have HH := Lib.hid (show findFrom p l 0 = (k : Int) by rw [← HQ.out, HD.out]; simp [findFrom, ← HT.out])
        go_wp2_with (go_at_fn F; refine (HF.out _ x _ HM.out hS HVER.out).mono ?_; rintro e w' ⟨rfl, hb'⟩; rw [← HT.out])
        go_ret
        exact ⟨ret_int HH.out.symm, (hS.step hb').below⟩
      | false =>
        have HH := Lib.hid (show findFrom p (l.drop (k + 1)) (k + 1) = findFrom p l 0 by rw [← HQ.out, HD.out]; simp [findFrom, ← HT.out])
        go_wp2_with (go_at_fn F; refine (HF.out _ x _ HM.out hS HVER.out).mono ?_; rintro e w' ⟨rfl, hb'⟩; rw [← HT.out])
        clear k0 k1 k2
        go_roundw
        case rel => exact ⟨k + 1, by omega, by go_num, hS.step hb', HH.out⟩
        case measure => simp [intOf]; omega
    · obtain rfl : l.length = k := by omega
      go_wp2_with fail
      go_ret
      refine ⟨ret_int ?_, hS.below⟩
      rw [← HQ.out]
      simp [findFrom]

set_option maxRecDepth 100000 in
set_option maxHeartbeats 1000000 in
theorem Find_any (t : Bool) (r : Int) (v : Value) (l : List Kp) (M : Int) (W : World) (hv : IsKepts W v l) :
    Calls Try.prog 14 #[.agg #[.bool t, .int .i64 r, v], .int .i64 M] W fun e w' => e = .returned (.int .i64 (findV M l 0)) ∧ Below W.heap.size W w' := by
  obtain ⟨a, c, rfl, _⟩ := hv.opened
  have S0 := ((Since.refl W).alloc (.cells #[.bool t, .int .i64 r, .slice a l.length c] 37)).alloc (.cells #[.int .i64 M] 3)
  have HV := Lib.hid (hv.stays RKept.stays S0.below)
  have c1 : ((W.alloc (.cells #[.bool t, .int .i64 r, .slice a l.length c] 37)).alloc (.cells #[.int .i64 M] 3)).cell? ⟨W.heap.size + 1, 0, none⟩ = some (.int .i64 M) := by go_simp
  have HE := Lib.hid (findV_from M l 0)
  clear hv
  go_enter Try.func14, Try.ntmps14
  go_wp2_with fail
  generalize (W.alloc (.cells #[.bool t, .int .i64 r, .slice a l.length c] 37)).alloc (.cells #[.int .i64 M] 3) = w1 at *
  obtain ⟨B, hB⟩ : ∃ B, B = W.heap.size + 1 := ⟨_, rfl⟩
  rw [← hB] at c1 ⊢
  have l1 := cell_lt c1
  clear hB
  refine (IndexKepts_any 34 (fun _ _ => rfl) #[.pointer (some ⟨B, 0, none⟩)] (fun x => decide (x.1 = M)) _ l _ HV.out (fun u z w _ hSw hz => FindOne_any u z M B w hz ((hSw.below.cell (p := ⟨B, 0, none⟩) l1).trans c1))).mono ?_
  rintro e w2 ⟨rfl, hb2⟩
  rw [HE.out]
  have S2 := S0.step hb2
  clear c1 l1 hb2
  go_wp2_with fail
  go_ret
  exact ⟨rfl, S2.below⟩

set_option maxRecDepth 100000 in
set_option maxHeartbeats 2000000 in
theorem At_any (t : Bool) (r : Int) (v : Value) (l : List Kp) (M : Int) (W : World) (hv : IsKepts W v l) :
    Calls Try.prog 23 #[.agg #[.bool t, .int .i64 r, v], .int .i64 M] W fun e w' => e = .returned (.int .i64 (findV M l 0)) ∧ Below W.heap.size W w' := by
  obtain ⟨a, c, rfl, hcap, ⟨hm, hcm, _⟩, _⟩ := hv.opened
  have S0 := (Since.refl W).alloc (.cells #[.bool t, .int .i64 r, .slice a l.length c] 37)
  have hv0 := hv.stays RKept.stays S0.below
  clear hv
  go_enter Try.func23, Try.ntmps23
  go_wp2_with fail
  generalize W.alloc (.cells #[.bool t, .int .i64 r, .slice a l.length c] 37) = w0 at *
  go_loopw [10] (fun i wr => ∃ k : Nat, k ≤ l.length ∧ i = .int .i64 k ∧ Since w0.heap.size w0 wr ∧ findV M (l.drop k) k = findV M l 0) (fun i _ => l.length - (intOf i).toNat)
  case atStart => exact ⟨0, by omega, rfl, Since.refl w0, rfl⟩
  case round =>
    obtain ⟨k, hk, rfl, hS, hq⟩ := hrel
    have HQ := Lib.hid hq
    clear hq
    by_cases hlt : k < l.length
    · obtain ⟨g, off, u, cu, rfl, k0, k1, k2, hp, hi⟩ := kept_at (hv0.later RKept.stays (Dirty.old hS.below _)) (List.getElem?_eq_getElem hlt)
      have HD := Lib.hid (List.drop_eq_getElem_cons hlt)
      generalize l[k] = x at *
      have S1 := hS.alloc (.cells #[.int .i64 x.1, .int .i64 x.2.1, .slice u x.2.2.length cu] 44)
      clear hp hi
      by_cases hx : x.1 = M
      · have HH := Lib.hid (show findV M l 0 = (k : Int) by rw [← HQ.out, HD.out]; simp [findV, hx])
        have hd : (x.1 == M) = true := by simpa using hx
        clear hx
        go_wp2_with fail
        go_ret
        exact ⟨ret_int HH.out.symm, (S0.step S1.below).below⟩
      · have HH := Lib.hid (show findV M (l.drop (k + 1)) (k + 1) = findV M l 0 by rw [← HQ.out, HD.out]; simp [findV, hx])
        have hd : (x.1 == M) = false := by simpa using hx
        clear hx
        go_wp2_with fail
        clear k0 k1 k2
        go_roundw
        case rel => exact ⟨k + 1, by omega, by go_num, S1, HH.out⟩
        case measure => simp [intOf]; omega
    · obtain rfl : l.length = k := by omega
      go_wp2_with fail
      go_ret
      refine ⟨ret_int ?_, (S0.step hS.below).below⟩
      rw [← HQ.out]
      simp [findV]

end Go.Proofs.Ytpjlngkndofjfaa
