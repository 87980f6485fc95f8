/-
  The walks of what holds two peers against each other.
-/
import Derived.Test.YtpjlngkndofjfaaPlace1
import Derived.Test.YtpjlngkndofjfaaBase
namespace Go.Proofs.Ytpjlngkndofjfaa
open Go.RowKit

/-- Are kept shares, are peers alike? -/
def kpEq (x y : Kp) : Bool := decide (x.1 = y.1) && (decide (x.2.1 = y.2.1) && eqInts x.2.2 y.2.2)
def prEq (p q : Pr) : Bool := (p.1 == q.1) && (decide (p.2.1 = q.2.1) && eqBy kpEq p.2.2 q.2.2)
theorem kpEq_iff (x y : Kp) : kpEq x y = true ↔ x = y := by
  obtain ⟨x0, x1, xp⟩ := x
  obtain ⟨y0, y1, yp⟩ := y
  simp [kpEq, eqInts]
theorem prEq_iff (p q : Pr) : prEq p q = true ↔ p = q := by
  obtain ⟨t, r, l⟩ := p
  obtain ⟨t', r', l'⟩ := q
  simp [prEq, eqBy_iff kpEq_iff]
theorem prEq_self (p : Pr) : prEq p p = true := (prEq_iff p p).2 rfl

set_option maxRecDepth 100000 in
set_option maxHeartbeats 2000000 in
theorem EqualKepts_any (F : Nat) (eF : ∀ args w, (callFunc F args).run Try.prog w = .ok (.enter F args) w)
    (hF : ∀ u u' x y w, IsKept w u x → IsKept w u' y → Calls Try.prog F (#[u, u']) w fun e w' => e = .returned (.bool (kpEq x y)) ∧ Below w.heap.size w w')
    (v u : Value) (l r : List Kp) (W : World) (hv : IsKepts W v l) (hu : IsKepts W u r) :
    Calls Try.prog 41 #[v, u, .func (.func F) #[] #[]] W fun e w' => e = .returned (.bool (eqBy kpEq l r)) ∧ Below W.heap.size W w' := by
  obtain ⟨a, c, rfl, hcap, ⟨hm, hcm, _⟩, _⟩ := hv.opened
  obtain ⟨a', c', rfl, hcap', ⟨hm', hcm', _⟩, _⟩ := hu.opened
  have HF := Lib.hid hF
  clear hF
  by_cases hl : l.length = r.length
  · have hl2 : (((l.length : Nat) : Int) != ((r.length : Nat) : Int)) = false := by simp [hl]
    have HL := Lib.hid hl
    clear hl
    go_enter Try.func41, Try.ntmps41
    go_wp2_with fail
    go_loopw [17] (fun i wr => ∃ k : Nat, k ≤ l.length ∧ i = .int .i64 k ∧ Since W.heap.size W wr ∧ eqBy kpEq (l.drop k) (r.drop k) = eqBy kpEq l r) (fun i _ => l.length - (intOf i).toNat)
    case atStart => exact ⟨0, by omega, rfl, Since.refl W, rfl⟩
    case round =>
      obtain ⟨k, hk, rfl, hS, hq⟩ := hrel
      have HQ := Lib.hid hq
      clear hq
      by_cases hlt : k < l.length
      · have hlr : k < r.length := by have := HL.out; omega
        obtain ⟨g, off, u, cu, rfl, k0, k1, k2, hp, hi⟩ := kept_at (hv.later RKept.stays (Dirty.old hS.below _)) (List.getElem?_eq_getElem hlt)
        obtain ⟨g', off', u', cu', rfl, k0', k1', k2', hp', hi'⟩ := kept_at (hu.later RKept.stays (Dirty.old hS.below _)) (List.getElem?_eq_getElem hlr)
        have HD := Lib.hid (List.drop_eq_getElem_cons hlt)
        have HE := Lib.hid (List.drop_eq_getElem_cons hlr)
        generalize l[k] = x at *
        generalize r[k] = y at *
        have q0 := cell_lt k0'
        have S1 := hS.alloc (.cells #[.int .i64 x.1, .int .i64 x.2.1, .slice u x.2.2.length cu] 44)
        have S2 := S1.alloc (.cells #[.int .i64 y.1, .int .i64 y.2.1, .slice u' y.2.2.length cu'] 44)
        have U2 := ((Since.refl wr).alloc (.cells #[.int .i64 x.1, .int .i64 x.2.1, .slice u x.2.2.length cu] 44)).alloc (.cells #[.int .i64 y.1, .int .i64 y.2.1, .slice u' y.2.2.length cu'] 44)
        have hx2 : IsKept _ (.agg #[.int .i64 x.1, .int .i64 x.2.1, .slice u x.2.2.length cu]) x := ⟨_, rfl, hp.stays U2.below, hi⟩
        have hy2 : IsKept _ (.agg #[.int .i64 y.1, .int .i64 y.2.1, .slice u' y.2.2.length cu']) y := ⟨_, rfl, hp'.stays U2.below, hi'⟩
        have HX := Lib.hid hx2
        have HY := Lib.hid hy2
        obtain ⟨T, hT⟩ : ∃ T, T = kpEq x y := ⟨_, rfl⟩
        have HT := Lib.hid hT
        clear hT hx2 hy2 hp hp' hi hi' U2
        cases T with
        | true =>
          go_wp2_with (go_at_fn F; refine (HF.out _ _ x y _ HX.out HY.out).mono ?_; rintro e w5 ⟨rfl, hb5⟩; rw [← HT.out])
          have S5 := S2.step hb5
          clear k0 k1 k2 k0' k1' k2'
          go_roundw
          case rel =>
            refine ⟨k + 1, by omega, by go_num, S5, ?_⟩
            rw [← HQ.out, HD.out, HE.out]
            simp [eqBy, ← HT.out]
          case measure => simp [intOf]; omega
        | false =>
          go_wp2_with (go_at_fn F; refine (HF.out _ _ x y _ HX.out HY.out).mono ?_; rintro e w5 ⟨rfl, hb5⟩; rw [← HT.out])
          have S5 := S2.step hb5
          go_ret
          refine ⟨ret_bool ?_, S5.below⟩
          rw [← HQ.out, HD.out, HE.out]
          simp [eqBy, ← HT.out]
      · obtain rfl : l.length = k := by omega
        go_wp2_with fail
        go_ret
        refine ⟨ret_bool ?_, hS.below⟩
        have hLL := HL.out
        rw [← HQ.out, List.drop_eq_nil_of_le (show l.length ≤ l.length by omega), List.drop_eq_nil_of_le (show r.length ≤ l.length by omega)]
        rfl
  · have hl2 : (((l.length : Nat) : Int) != ((r.length : Nat) : Int)) = true := by rw [bne_iff_ne]; omega
    have HN := Lib.hid (eqBy_len kpEq hl)
    clear hl
    go_enter Try.func41, Try.ntmps41
    go_wp2_with fail
    go_ret
    exact ⟨ret_bool HN.out.symm, Below.refl _ _⟩

set_option maxRecDepth 100000 in
set_option maxHeartbeats 1000000 in
theorem SameKept_any (u u' : Value) (x y : Kp) (w : World) (hx : IsKept w u x) (hy : IsKept w u' y) :
    Calls Try.prog 42 #[u, u'] w fun e w' => e = .returned (.bool (kpEq x y)) ∧ Below w.heap.size w w' := by
  obtain ⟨up, rfl, hp, _⟩ := hx
  obtain ⟨a, c, rfl, _⟩ := hp.opened
  obtain ⟨up', rfl, hp', _⟩ := hy
  obtain ⟨a', c', rfl, _⟩ := hp'.opened
  obtain ⟨x0, x1, xp⟩ := x
  obtain ⟨y0, y1, yp⟩ := y
  have S0 := ((Since.refl w).alloc (.cells #[.int .i64 x0, .int .i64 x1, .slice a xp.length c] 44)).alloc (.cells #[.int .i64 y0, .int .i64 y1, .slice a' yp.length c'] 44)
  have hp0 := hp.stays S0.below
  have hp0' := hp'.stays S0.below
  clear hp hp'
  by_cases h : x0 = y0
  · subst h
    have HV := Lib.hid (show kpEq (x0, x1, xp) (x0, y1, yp) = sameV x1 y1 xp yp by simp [kpEq, sameV])
    go_enter Try.func42, Try.ntmps42
    go_wp2_with fail
    refine (Same_any _ _ _ _ xp yp _ hp0 hp0').mono ?_
    rintro e w1 ⟨rfl, hb1⟩
    go_wp2_with fail
    go_ret
    exact ⟨ret_bool HV.out.symm, (S0.step hb1).below⟩
  · have HV := Lib.hid (show kpEq (x0, x1, xp) (y0, y1, yp) = false by simp [kpEq, h])
    have h2 : (x0 == y0) = false := by simpa using h
    clear h
    go_enter Try.func42, Try.ntmps42
    go_wp2_with fail
    go_ret
    exact ⟨ret_bool HV.out.symm, S0.below⟩

set_option maxRecDepth 100000 in
set_option maxHeartbeats 1000000 in
theorem SameKeptR_any (u u' : Value) (x y : Kp) (w : World) (hx : IsKept w u x) (hy : IsKept w u' y) :
    Calls Try.prog 47 #[u, u'] w fun e w' => e = .returned (.bool (kpEq x y)) ∧ Below w.heap.size w w' := by
  obtain ⟨up, rfl, hp, _⟩ := hx
  obtain ⟨a, c, rfl, _⟩ := hp.opened
  obtain ⟨up', rfl, hp', _⟩ := hy
  obtain ⟨a', c', rfl, _⟩ := hp'.opened
  obtain ⟨x0, x1, xp⟩ := x
  obtain ⟨y0, y1, yp⟩ := y
  have S0 := ((Since.refl w).alloc (.cells #[.int .i64 x0, .int .i64 x1, .slice a xp.length c] 44)).alloc (.cells #[.int .i64 y0, .int .i64 y1, .slice a' yp.length c'] 44)
  have hp0 := hp.stays S0.below
  have hp0' := hp'.stays S0.below
  clear hp hp'
  by_cases h : x0 = y0
  · subst h
    have HV := Lib.hid (show kpEq (x0, x1, xp) (x0, y1, yp) = sameV x1 y1 xp yp by simp [kpEq, sameV])
    go_enter Try.func47, Try.ntmps47
    go_wp2_with fail
    refine (SameShare_any _ _ _ _ xp yp _ hp0 hp0').mono ?_
    rintro e w1 ⟨rfl, hb1⟩
    go_wp2_with fail
    go_ret
    exact ⟨ret_bool HV.out.symm, (S0.step hb1).below⟩
  · have HV := Lib.hid (show kpEq (x0, x1, xp) (y0, y1, yp) = false by simp [kpEq, h])
    have h2 : (x0 == y0) = false := by simpa using h
    clear h
    go_enter Try.func47, Try.ntmps47
    go_wp2_with fail
    go_ret
    exact ⟨ret_bool HV.out.symm, S0.below⟩

set_option maxRecDepth 100000 in
set_option maxHeartbeats 1000000 in
theorem SamePr_any (u u' : Value) (p q : Pr) (W : World) (hp : IsPeer W u p) (hq : IsPeer W u' q) :
    Calls Try.prog 20 #[u, u'] W fun e w' => e = .returned (.bool (prEq p q)) ∧ Below W.heap.size W w' := by
  obtain ⟨up, rfl, hp, _⟩ := hp
  obtain ⟨a, c, rfl, _⟩ := hp.opened
  obtain ⟨up', rfl, hp', _⟩ := hq
  obtain ⟨a', c', rfl, _⟩ := hp'.opened
  obtain ⟨t, r, l⟩ := p
  obtain ⟨t', r', l'⟩ := q
  have S0 := ((Since.refl W).alloc (.cells #[.bool t, .int .i64 r, .slice a l.length c] 37)).alloc (.cells #[.bool t', .int .i64 r', .slice a' l'.length c'] 37)
  have hp0 := hp.stays RKept.stays S0.below
  have hp0' := hp'.stays RKept.stays S0.below
  clear hp hp'
  by_cases ht : t = t'
  · subst ht
    by_cases hr : r = r'
    · subst hr
      have HV := Lib.hid (show prEq (t, r, l) (t, r, l') = eqBy kpEq l l' by simp [prEq])
      have htt : (t == t) = true := by simp
      go_enter Try.func20, Try.ntmps20
      go_wp2_with fail
      refine (EqualKepts_any 42 (fun _ _ => rfl) SameKept_any _ _ l l' _ hp0 hp0').mono ?_
      rintro e w1 ⟨rfl, hb1⟩
      go_wp2_with fail
      go_ret
      exact ⟨ret_bool HV.out.symm, (S0.step hb1).below⟩
    · have HV := Lib.hid (show prEq (t, r, l) (t, r', l') = false by simp [prEq, hr])
      have htt : (t == t) = true := by simp
      have h2 : (r == r') = false := by simpa using hr
      clear hr
      go_enter Try.func20, Try.ntmps20
      go_wp2_with fail
      go_ret
      exact ⟨ret_bool HV.out.symm, S0.below⟩
  · have HV := Lib.hid (show prEq (t, r, l) (t', r', l') = false by simp [prEq, ht])
    have h2 : (t == t') = false := by simpa using ht
    clear ht
    go_enter Try.func20, Try.ntmps20
    go_wp2_with fail
    go_ret
    exact ⟨ret_bool HV.out.symm, S0.below⟩

set_option maxRecDepth 100000 in
set_option maxHeartbeats 1000000 in
theorem SamePeerR_any (u u' : Value) (p q : Pr) (W : World) (hp : IsPeer W u p) (hq : IsPeer W u' q) :
    Calls Try.prog 24 #[u, u'] W fun e w' => e = .returned (.bool (prEq p q)) ∧ Below W.heap.size W w' := by
  obtain ⟨up, rfl, hp, _⟩ := hp
  obtain ⟨a, c, rfl, _⟩ := hp.opened
  obtain ⟨up', rfl, hp', _⟩ := hq
  obtain ⟨a', c', rfl, _⟩ := hp'.opened
  obtain ⟨t, r, l⟩ := p
  obtain ⟨t', r', l'⟩ := q
  have S0 := ((Since.refl W).alloc (.cells #[.bool t, .int .i64 r, .slice a l.length c] 37)).alloc (.cells #[.bool t', .int .i64 r', .slice a' l'.length c'] 37)
  have hp0 := hp.stays RKept.stays S0.below
  have hp0' := hp'.stays RKept.stays S0.below
  clear hp hp'
  by_cases ht : t = t'
  · subst ht
    by_cases hr : r = r'
    · subst hr
      have HV := Lib.hid (show prEq (t, r, l) (t, r, l') = eqBy kpEq l l' by simp [prEq])
      have htt : (t == t) = true := by simp
      go_enter Try.func24, Try.ntmps24
      go_wp2_with fail
      refine (EqualKepts_any 47 (fun _ _ => rfl) SameKeptR_any _ _ l l' _ hp0 hp0').mono ?_
      rintro e w1 ⟨rfl, hb1⟩
      go_wp2_with fail
      go_ret
      exact ⟨ret_bool HV.out.symm, (S0.step hb1).below⟩
    · have HV := Lib.hid (show prEq (t, r, l) (t, r', l') = false by simp [prEq, hr])
      have htt : (t == t) = true := by simp
      have h2 : (r == r') = false := by simpa using hr
      clear hr
      go_enter Try.func24, Try.ntmps24
      go_wp2_with fail
      go_ret
      exact ⟨ret_bool HV.out.symm, S0.below⟩
  · have HV := Lib.hid (show prEq (t, r, l) (t', r', l') = false by simp [prEq, ht])
    have h2 : (t == t') = false := by simpa using ht
    clear ht
    go_enter Try.func24, Try.ntmps24
    go_wp2_with fail
    go_ret
    exact ⟨ret_bool HV.out.symm, S0.below⟩

end Go.Proofs.Ytpjlngkndofjfaa
