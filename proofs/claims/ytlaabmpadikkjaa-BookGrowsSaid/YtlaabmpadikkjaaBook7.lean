/-
  The walks of the reference's HeadsOf, of slices.EqualFunc at versions, of book.Same and the reference's SameBook.
-/
import Derived.Test.YtlaabmpadikkjaaBook6
namespace Go.Proofs.Ytlaabmpadikkjaa
open Go.RowKit

set_option maxRecDepth 100000 in
set_option maxHeartbeats 1000000 in
theorem Heads_any (v : Value) (b : List Ver) (W : World) (hv : IsVers W v b) :
    Calls Try.prog 41 #[.agg #[v]] W fun e w' => (∃ v', e = .returned (.tuple #[v', .int .i64 (bookV b)]) ∧ OwnInts w' 3 W.heap.size v' (headsC b)) ∧ Below W.heap.size W w' := by
  by_cases h : bookV b = 0
  · rw [h, headsC_ok h]
    exact Heads_ok v b W hv h
  · have HC := Lib.hid (headsC_no h)
    have hne : (bookV b != 0) = true := by simpa using h
    clear h
    obtain ⟨a, c, rfl, _⟩ := hv.opened
    have S0 := (Since.refl W).alloc (.cells #[.slice a b.length c] 50)
    have hv0 := hv.stays RVer.stays (below_alloc _ (.cells #[.slice a b.length c] 50))
    clear hv
    go_enter Try.func41, Try.ntmps41
    go_wp2_with fail
    refine (bookCheck_any _ b _ hv0).mono ?_
    rintro e w1 ⟨rfl, hb1⟩
    go_wp2_with fail
    go_ret2
    exact ⟨⟨_, rfl, by rw [HC.out]; exact OwnInts.nil _ _ _⟩, (S0.step hb1).below⟩

set_option maxRecDepth 100000 in
set_option maxHeartbeats 1000000 in
theorem HeadsOne_any (u : Value) (x : Ver) (k : Int) (Bk : Nat) (w : World) (hx : IsVer w u x) (hc : w.cell? ⟨Bk, 0, none⟩ = some (.int .i64 k)) :
    Calls Try.prog 78 #[u, .pointer (some ⟨Bk, 0, none⟩)] w fun e w' => e = .returned (.bool (memB k x.1)) ∧ Below w.heap.size w w' := by
  obtain ⟨up, rfl, hp, _⟩ := hx
  obtain ⟨a, c, rfl, _⟩ := hp.opened
  have S0 := (Since.refl w).alloc (.cells #[.slice a x.1.length c, .int .i64 x.2.1, .int .i64 x.2.2.1, .int .i64 x.2.2.2] 63)
  have hp0 := hp.stays S0.below
  have lc := cell_lt hc
  clear hp
  go_enter Try.func78, Try.ntmps78
  go_wp2_with fail
  refine (Contains_ints _ x.1 k _ hp0).mono ?_
  rintro e w' ⟨rfl, rfl⟩
  go_wp2_with fail
  go_ret
  exact ⟨rfl, S0.below⟩

set_option maxRecDepth 100000 in
set_option maxHeartbeats 2000000 in
theorem IndexFuncVers_any (F : Nat) (eF : ∀ args w, (callFunc F args).run Try.prog w = .ok (.enter F args) w) (caps : Array Value) (p : Ver → Bool) (v : Value) (l : List Ver) (W : World) (hv : IsVers W v l)
    (hF : ∀ u z w, z ∈ l → Since W.heap.size W w → IsVer w u z → Calls Try.prog F (#[u] ++ caps) w fun e w' => e = .returned (.bool (p z)) ∧ Below w.heap.size w w') :
    Calls Try.prog 86 #[v, .func (.func F) #[] caps] W fun e w' => e = .returned (.int .i64 (findFrom p l 0)) ∧ Below W.heap.size W w' := by
  obtain ⟨a, c, rfl, hcap, ⟨hm, hcm, _⟩, _⟩ := hv.opened
  have HF := Lib.hid hF
  clear hF
  go_enter Try.func86, Try.ntmps86
  go_wp2_with fail
  go_loopw [8] (fun i wr => ∃ k : Nat, k ≤ l.length ∧ i = .int .i64 k ∧ Since W.heap.size W wr ∧ findFrom p (l.drop k) k = findFrom p l 0) (fun i _ => l.length - (intOf i).toNat)
  case atStart => exact ⟨0, by omega, rfl, Since.refl W, rfl⟩
  case round =>
    obtain ⟨k, hk, rfl, hS, hq⟩ := hrel
    have HQ := Lib.hid hq
    clear hq
    by_cases hlt : k < l.length
    · obtain ⟨g, off, u, cu, rfl, k0, k1, k2, k3, hp, hi⟩ := vers_at (hv.later RVer.stays (Dirty.old hS.below _)) (List.getElem?_eq_getElem hlt)
      have HD := Lib.hid (List.drop_eq_getElem_cons hlt)
      have HM := Lib.hid (List.getElem_mem hlt)
      generalize l[k] = x at *
      have hver : IsVer wr (.agg #[.slice u x.1.length cu, .int .i64 x.2.1, .int .i64 x.2.2.1, .int .i64 x.2.2.2]) x := ⟨_, rfl, hp, hi⟩
      have HVER := Lib.hid hver
      obtain ⟨T, hT⟩ : ∃ T, T = p x := ⟨_, rfl⟩
      have HT := Lib.hid hT
      clear hT hver hp hi
      cases T with
      | true =>
        have HH := Lib.hid (show findFrom p l 0 = (k : Int) by rw [← HQ.out, HD.out]; simp [findFrom, ← HT.out])
        go_wp2_with (go_at_fn F; refine (HF.out _ x _ HM.out hS HVER.out).mono ?_; rintro e w' ⟨rfl, hb'⟩; rw [← HT.out])
        go_ret
        exact ⟨ret_int HH.out.symm, (hS.step hb').below⟩
      | false =>
        have HH := Lib.hid (show findFrom p (l.drop (k + 1)) (k + 1) = findFrom p l 0 by rw [← HQ.out, HD.out]; simp [findFrom, ← HT.out])
        go_wp2_with (go_at_fn F; refine (HF.out _ x _ HM.out hS HVER.out).mono ?_; rintro e w' ⟨rfl, hb'⟩; rw [← HT.out])
        clear k0 k1 k2 k3
        go_roundw
        case rel => exact ⟨k + 1, by omega, by go_num, hS.step hb', HH.out⟩
        case measure => simp [intOf]; omega
    · obtain rfl : l.length = k := by omega
      go_wp2_with fail
      go_ret
      refine ⟨ret_int ?_, hS.below⟩
      rw [← HQ.out]
      simp [findFrom]

set_option maxRecDepth 100000 in
set_option maxHeartbeats 1000000 in
theorem ContainsFuncVers_any (F : Nat) (eF : ∀ args w, (callFunc F args).run Try.prog w = .ok (.enter F args) w) (caps : Array Value) (p : Ver → Bool) (v : Value) (l : List Ver) (W : World) (hv : IsVers W v l)
    (hF : ∀ u z w, z ∈ l → Since W.heap.size W w → IsVer w u z → Calls Try.prog F (#[u] ++ caps) w fun e w' => e = .returned (.bool (p z)) ∧ Below w.heap.size w w') :
    Calls Try.prog 77 #[v, .func (.func F) #[] caps] W fun e w' => e = .returned (.bool (l.any p)) ∧ Below W.heap.size W w' := by
  have hcall := Lib.hid (IndexFuncVers_any F eF caps p v l W hv hF)
  have hnn := findFrom_nonneg p l 0
  obtain ⟨a, c, rfl, _⟩ := hv.opened
  clear hv hF
  obtain ⟨H, hH⟩ : ∃ H, H = l.any p := ⟨_, rfl⟩
  rw [← hH] at hnn ⊢
  clear hH
  obtain ⟨r, hr⟩ : ∃ r, r = findFrom p l 0 := ⟨_, rfl⟩
  rw [← hr] at hcall hnn
  clear hr
  go_enter Try.func77, Try.ntmps77
  go_wp2_with fail
  refine hcall.out.mono ?_
  rintro e w' ⟨rfl, hb⟩
  cases H with
  | true => go_wp2_with fail
            go_ret
            exact ⟨rfl, hb⟩
  | false => go_wp2_with fail
             go_ret
             exact ⟨rfl, hb⟩

theorem heads_def (b : List Ver) : headsL b = ((List.range b.length).map fun (j : Nat) => (j : Int)).filter fun k => !(b.any fun v => memB k v.1) := rfl

set_option maxRecDepth 100000 in
set_option maxHeartbeats 2000000 in
theorem HeadsOf_any (v : Value) (b : List Ver) (W : World) (hv : IsVers W v b) (h0 : bookV b = 0) :
    Calls Try.prog 46 #[.agg #[v]] W fun e w' => (∃ v', e = .returned v' ∧ OwnInts w' 3 W.heap.size v' (headsL b)) ∧ Below W.heap.size W w' := by
  have ht := (bookV_ok.1 h0).top
  have HH := Lib.hid (heads_def b)
  clear h0
  obtain ⟨a, c, rfl, hc, ⟨hm, hcm, _⟩, _⟩ := hv.opened
  have S0 := (Since.refl W).alloc (.cells #[.slice a b.length c] 50)
  have hv0 := hv.stays RVer.stays (below_alloc _ (.cells #[.slice a b.length c] 50))
  have c0 : (W.alloc (.cells #[.slice a b.length c] 50)).cell? ⟨W.heap.size, 0, none⟩ = some (.slice a b.length c) := by go_simp
  have hmf := run_makeFuncR
  clear hv
  go_enter Try.func46, Try.ntmps46
  go_wp2_with fail
  generalize W.alloc (.cells #[.slice a b.length c] 50) = w0 at *
  obtain ⟨B, hB⟩ : ∃ B, B = W.heap.size := ⟨_, rfl⟩
  rw [← hB] at c0 ⊢
  have l0 := cell_lt c0
  clear hB
  go_loopw [8, 3] (fun i o wr => ∃ k : Nat, k ≤ b.length ∧ i = .int .i64 k ∧ Since w0.heap.size w0 wr ∧ OwnInts wr 3 w0.heap.size o (((List.range k).map fun (j : Nat) => (j : Int)).filter fun k => !(b.any fun v => memB k v.1))) (fun i _ _ => b.length - (intOf i).toNat)
  case atStart => exact ⟨0, by omega, rfl, Since.refl w0, by simpa using OwnInts.nil _ _ _⟩
  case round =>
    obtain ⟨k, hk, rfl, hS, ho⟩ := hrel
    have d0 := (hS.below.cell (p := ⟨B, 0, none⟩) l0).trans c0
    by_cases hlt : k < b.length
    · have HFS := Lib.hid (filter_range_step (fun k => !(b.any fun v => memB k v.1)) k)
      have hol : (((List.range k).map fun (j : Nat) => (j : Int)).filter fun k => !(b.any fun v => memB k v.1)).length ≤ 1000000 := Nat.le_trans (List.length_filter_le _ _) (by simp; omega)
      have ik : I64 (k : Int) := ⟨by omega, by omega⟩
      have S1 := hS.alloc (.cells #[.int .i64 (k : Int)] 3)
      have ho1 := ho.stays (below_alloc wr (.cells #[.int .i64 (k : Int)] 3))
      have ck : (wr.alloc (.cells #[.int .i64 (k : Int)] 3)).cell? ⟨wr.heap.size, 0, none⟩ = some (.int .i64 (k : Int)) := by go_simp
      have lB := cell_lt d0
      clear ho hS
      go_wp2_with fail
      generalize wr.alloc (.cells #[.int .i64 (k : Int)] 3) = w1 at *
      obtain ⟨Bk, hBk⟩ : ∃ Bk, Bk = wr.heap.size := ⟨_, rfl⟩
      rw [← hBk] at ck ⊢
      have lk := cell_lt ck
      clear hBk lB
      refine (ContainsFuncVers_any 78 (fun _ _ => rfl) #[.pointer (some ⟨Bk, 0, none⟩)] (fun v => memB k v.1) _ b _ (hv0.later RVer.stays (Dirty.old S1.below _)) (fun u z w _ hSw hz => HeadsOne_any u z k Bk w hz ((hSw.below.cell (p := ⟨Bk, 0, none⟩) lk).trans ck))).mono ?_
      rintro e w2 ⟨rfl, hb2⟩
      have S2 := S1.step hb2
      have ho2 := ho1.stays hb2
      have ck2 := (hb2.cell (p := ⟨Bk, 0, none⟩) lk).trans ck
      have hgs := S2.2
      obtain ⟨T, hT⟩ : ∃ T, T = b.any fun v => memB k v.1 := ⟨_, rfl⟩
      rw [← hT]
      have HT := Lib.hid hT
      clear hT S1 ho1 hb2 ck d0
      cases T with
      | true =>
        go_wp2_with fail
        go_roundw
        case rel => exact ⟨k + 1, by omega, by go_num, S2, by rw [HFS.out]; simpa [← HT.out] using ho2⟩
        case measure => simp [intOf]; omega
      | false =>
        go_wp2_with (at_builtin; refine wpList_append_int rfl _ _ 24 rfl 3 Try.underlying24 info_int w0.heap.size _ _ rfl (ho2.stays (below_alloc w2 _)) ⟨w2.heap.size, 0, none⟩ 1 (k : Int) rfl (by simp) ik (by omega) (by simp; omega) ?_; intro v' w3 ho3 hg3)
        have S3 := (S2.alloc (.cells #[.int .i64 (k : Int)] 3)).own (ho2.stays (below_alloc w2 _)) hg3
        have HO3 := Lib.hid ho3
        clear ho3 hg3 ho2 ck2
        go_roundw
        case rel => exact ⟨k + 1, by omega, by go_num, S3, by rw [HFS.out]; simpa [← HT.out] using HO3.out⟩
        case measure => simp [intOf]; omega
    · obtain rfl : b.length = k := by omega
      rw [← HH.out] at ho
      have HO := Lib.hid ho
      clear ho d0
      go_wp2_with fail
      go_ret
      exact ⟨⟨_, rfl, HO.out.mono S0.2⟩, (S0.step hS.below).below⟩

/-- Are lists alike, one by one? -/
def eqBy {α β : Type} (p : α → β → Bool) : List α → List β → Bool
  | [], [] => true
  | a :: l, b :: r => p a b && eqBy p l r
  | _, _ => false
theorem eqBy_len {α β : Type} (p : α → β → Bool) : ∀ {l : List α} {r : List β}, l.length ≠ r.length → eqBy p l r = false
  | [], [], h => absurd rfl h
  | [], _ :: _, _ => rfl
  | _ :: _, [], _ => rfl
  | a :: l, b :: r, h => by simp [eqBy, eqBy_len p (l := l) (r := r) (by simpa using h)]
/-- Are versions alike? -/
def verEq (x y : Ver) : Bool := eqInts x.1 y.1 && (decide (x.2.1 = y.2.1) && (decide (x.2.2.1 = y.2.2.1) && decide (x.2.2.2 = y.2.2.2)))

set_option maxRecDepth 100000 in
set_option maxHeartbeats 2000000 in
theorem EqualVers_any (F : Nat) (eF : ∀ args w, (callFunc F args).run Try.prog w = .ok (.enter F args) w)
    (hF : ∀ u u' x y w, IsVer w u x → IsVer w u' y → Calls Try.prog F (#[u, u']) w fun e w' => e = .returned (.bool (verEq x y)) ∧ Below w.heap.size w w')
    (v u : Value) (l r : List Ver) (W : World) (hv : IsVers W v l) (hu : IsVers W u r) :
    Calls Try.prog 74 #[v, u, .func (.func F) #[] #[]] W fun e w' => e = .returned (.bool (eqBy verEq l r)) ∧ Below W.heap.size W w' := by
  obtain ⟨a, c, rfl, hcap, ⟨hm, hcm, _⟩, _⟩ := hv.opened
  obtain ⟨a', c', rfl, hcap', ⟨hm', hcm', _⟩, _⟩ := hu.opened
  have HF := Lib.hid hF
  clear hF
  by_cases hl : l.length = r.length
  · have hl2 : (((l.length : Nat) : Int) != ((r.length : Nat) : Int)) = false := by simp [hl]
    have HL := Lib.hid hl
    clear hl
    go_enter Try.func74, Try.ntmps74
    go_wp2_with fail
    go_loopw [17] (fun i wr => ∃ k : Nat, k ≤ l.length ∧ i = .int .i64 k ∧ Since W.heap.size W wr ∧ eqBy verEq (l.drop k) (r.drop k) = eqBy verEq l r) (fun i _ => l.length - (intOf i).toNat)
    case atStart => exact ⟨0, by omega, rfl, Since.refl W, rfl⟩
    case round =>
      obtain ⟨k, hk, rfl, hS, hq⟩ := hrel
      have HQ := Lib.hid hq
      clear hq
      by_cases hlt : k < l.length
      · have hlr : k < r.length := by have := HL.out; omega
        obtain ⟨g, off, u, cu, rfl, k0, k1, k2, k3, hp, hi⟩ := vers_at (hv.later RVer.stays (Dirty.old hS.below _)) (List.getElem?_eq_getElem hlt)
        obtain ⟨g', off', u', cu', rfl, k0', k1', k2', k3', hp', hi'⟩ := vers_at (hu.later RVer.stays (Dirty.old hS.below _)) (List.getElem?_eq_getElem hlr)
        have HD := Lib.hid (List.drop_eq_getElem_cons hlt)
        have HE := Lib.hid (List.drop_eq_getElem_cons hlr)
        generalize l[k] = x at *
        generalize r[k] = y at *
        have q0 := cell_lt k0'
        have S1 := hS.alloc (.cells #[.slice u x.1.length cu, .int .i64 x.2.1, .int .i64 x.2.2.1, .int .i64 x.2.2.2] 63)
        have S2 := S1.alloc (.cells #[.slice u' y.1.length cu', .int .i64 y.2.1, .int .i64 y.2.2.1, .int .i64 y.2.2.2] 63)
        have U2 := ((Since.refl wr).alloc (.cells #[.slice u x.1.length cu, .int .i64 x.2.1, .int .i64 x.2.2.1, .int .i64 x.2.2.2] 63)).alloc (.cells #[.slice u' y.1.length cu', .int .i64 y.2.1, .int .i64 y.2.2.1, .int .i64 y.2.2.2] 63)
        have hx2 : IsVer _ (.agg #[.slice u x.1.length cu, .int .i64 x.2.1, .int .i64 x.2.2.1, .int .i64 x.2.2.2]) x := ⟨_, rfl, hp.stays U2.below, hi⟩
        have hy2 : IsVer _ (.agg #[.slice u' y.1.length cu', .int .i64 y.2.1, .int .i64 y.2.2.1, .int .i64 y.2.2.2]) y := ⟨_, rfl, hp'.stays U2.below, hi'⟩
        have HX := Lib.hid hx2
        have HY := Lib.hid hy2
        obtain ⟨T, hT⟩ : ∃ T, T = verEq x y := ⟨_, rfl⟩
        have HT := Lib.hid hT
        clear hT hx2 hy2 hp hp' hi hi' U2
        cases T with
        | true =>
          go_wp2_with (go_at_fn F; refine (HF.out _ _ x y _ HX.out HY.out).mono ?_; rintro e w5 ⟨rfl, hb5⟩; rw [← HT.out])
          have S5 := S2.step hb5
          clear k0 k1 k2 k3 k0' k1' k2' k3'
          go_roundw
          case rel =>
            refine ⟨k + 1, by omega, by go_num, S5, ?_⟩
            rw [← HQ.out, HD.out, HE.out]
            simp [eqBy, ← HT.out]
          case measure => simp [intOf]; omega
        | false =>
          go_wp2_with (go_at_fn F; refine (HF.out _ _ x y _ HX.out HY.out).mono ?_; rintro e w5 ⟨rfl, hb5⟩; rw [← HT.out])
          have S5 := S2.step hb5
          go_ret
          refine ⟨ret_bool ?_, S5.below⟩
          rw [← HQ.out, HD.out, HE.out]
          simp [eqBy, ← HT.out]
      · obtain rfl : l.length = k := by omega
        go_wp2_with fail
        go_ret
        refine ⟨ret_bool ?_, hS.below⟩
        have hLL := HL.out
        rw [← HQ.out, List.drop_eq_nil_of_le (show l.length ≤ l.length by omega), List.drop_eq_nil_of_le (show r.length ≤ l.length by omega)]
        rfl
  · have hl2 : (((l.length : Nat) : Int) != ((r.length : Nat) : Int)) = true := by rw [bne_iff_ne]; omega
    have HN := Lib.hid (eqBy_len verEq hl)
    clear hl
    go_enter Try.func74, Try.ntmps74
    go_wp2_with fail
    go_ret
    exact ⟨ret_bool HN.out.symm, Below.refl _ _⟩

set_option maxRecDepth 100000 in
set_option maxHeartbeats 2000000 in
theorem SameVer_any (u u' : Value) (x y : Ver) (w : World) (hx : IsVer w u x) (hy : IsVer w u' y) :
    Calls Try.prog 75 #[u, u'] w fun e w' => e = .returned (.bool (verEq x y)) ∧ Below w.heap.size w w' := by
  obtain ⟨up, rfl, hp, _⟩ := hx
  obtain ⟨a, c, rfl, _⟩ := hp.opened
  obtain ⟨up', rfl, hp', _⟩ := hy
  obtain ⟨a', c', rfl, _⟩ := hp'.opened
  obtain ⟨xp, x0, x1, x2⟩ := x
  obtain ⟨yp, y0, y1, y2⟩ := y
  have S0 := ((Since.refl w).alloc (.cells #[.slice a xp.length c, .int .i64 x0, .int .i64 x1, .int .i64 x2] 63)).alloc (.cells #[.slice a' yp.length c', .int .i64 y0, .int .i64 y1, .int .i64 y2] 63)
  have hp0 := hp.stays S0.below
  have hp0' := hp'.stays S0.below
  clear hp hp'
  by_cases h : x0 = y0 ∧ x1 = y1 ∧ x2 = y2
  · obtain ⟨rfl, rfl, rfl⟩ := h
    have HV := Lib.hid (show verEq (xp, x0, x1, x2) (yp, x0, x1, x2) = eqInts xp yp by simp [verEq])
    go_enter Try.func75, Try.ntmps75
    go_wp2_with fail
    refine (Equal_ints _ _ xp yp _ hp0 hp0').mono ?_
    rintro e w1 ⟨rfl, hb1⟩
    go_wp2_with fail
    go_ret
    exact ⟨ret_bool HV.out.symm, (S0.step hb1).below⟩
  · have HV := Lib.hid (show verEq (xp, x0, x1, x2) (yp, y0, y1, y2) = false by simp [verEq]; intro _ h0 h1 h2; exact h ⟨h0, h1, h2⟩)
    have h3 : (x0 == y0) = false ∨ x0 = y0 ∧ (x1 == y1) = false ∨ x0 = y0 ∧ x1 = y1 ∧ (x2 == y2) = false := by
      simp only [beq_eq_false_iff_ne]
      by_cases e0 : x0 = y0
      · by_cases e1 : x1 = y1
        · exact Or.inr (Or.inr ⟨e0, e1, fun e2 => h ⟨e0, e1, e2⟩⟩)
        · exact Or.inr (Or.inl ⟨e0, e1⟩)
      · exact Or.inl e0
    clear h
    rcases h3 with h | ⟨rfl, h⟩ | ⟨rfl, rfl, h⟩
    all_goals
      go_enter Try.func75, Try.ntmps75
      go_wp2_with fail
      go_ret
      exact ⟨ret_bool HV.out.symm, S0.below⟩

set_option maxRecDepth 100000 in
set_option maxHeartbeats 2000000 in
theorem SameVerR_any (u u' : Value) (x y : Ver) (w : World) (hx : IsVer w u x) (hy : IsVer w u' y) :
    Calls Try.prog 76 #[u, u'] w fun e w' => e = .returned (.bool (verEq x y)) ∧ Below w.heap.size w w' := by
  obtain ⟨up, rfl, hp, _⟩ := hx
  obtain ⟨a, c, rfl, _⟩ := hp.opened
  obtain ⟨up', rfl, hp', _⟩ := hy
  obtain ⟨a', c', rfl, _⟩ := hp'.opened
  obtain ⟨xp, x0, x1, x2⟩ := x
  obtain ⟨yp, y0, y1, y2⟩ := y
  have S0 := ((Since.refl w).alloc (.cells #[.slice a xp.length c, .int .i64 x0, .int .i64 x1, .int .i64 x2] 63)).alloc (.cells #[.slice a' yp.length c', .int .i64 y0, .int .i64 y1, .int .i64 y2] 63)
  have hp0 := hp.stays S0.below
  have hp0' := hp'.stays S0.below
  have k0 : ((w.alloc (.cells #[.slice a xp.length c, .int .i64 x0, .int .i64 x1, .int .i64 x2] 63)).alloc (.cells #[.slice a' yp.length c', .int .i64 y0, .int .i64 y1, .int .i64 y2] 63)).cell? ⟨w.heap.size, 1, none⟩ = some (.int .i64 x0) := by go_simp
  have k1 : ((w.alloc (.cells #[.slice a xp.length c, .int .i64 x0, .int .i64 x1, .int .i64 x2] 63)).alloc (.cells #[.slice a' yp.length c', .int .i64 y0, .int .i64 y1, .int .i64 y2] 63)).cell? ⟨w.heap.size, 2, none⟩ = some (.int .i64 x1) := by go_simp
  have k2 : ((w.alloc (.cells #[.slice a xp.length c, .int .i64 x0, .int .i64 x1, .int .i64 x2] 63)).alloc (.cells #[.slice a' yp.length c', .int .i64 y0, .int .i64 y1, .int .i64 y2] 63)).cell? ⟨w.heap.size, 3, none⟩ = some (.int .i64 x2) := by go_simp
  have q0 : ((w.alloc (.cells #[.slice a xp.length c, .int .i64 x0, .int .i64 x1, .int .i64 x2] 63)).alloc (.cells #[.slice a' yp.length c', .int .i64 y0, .int .i64 y1, .int .i64 y2] 63)).cell? ⟨w.heap.size + 1, 1, none⟩ = some (.int .i64 y0) := by go_simp
  have q1 : ((w.alloc (.cells #[.slice a xp.length c, .int .i64 x0, .int .i64 x1, .int .i64 x2] 63)).alloc (.cells #[.slice a' yp.length c', .int .i64 y0, .int .i64 y1, .int .i64 y2] 63)).cell? ⟨w.heap.size + 1, 2, none⟩ = some (.int .i64 y1) := by go_simp
  have q2 : ((w.alloc (.cells #[.slice a xp.length c, .int .i64 x0, .int .i64 x1, .int .i64 x2] 63)).alloc (.cells #[.slice a' yp.length c', .int .i64 y0, .int .i64 y1, .int .i64 y2] 63)).cell? ⟨w.heap.size + 1, 3, none⟩ = some (.int .i64 y2) := by go_simp
  clear hp hp'
  go_enter Try.func76, Try.ntmps76
  go_wp2_with fail
  generalize (w.alloc (.cells #[.slice a xp.length c, .int .i64 x0, .int .i64 x1, .int .i64 x2] 63)).alloc (.cells #[.slice a' yp.length c', .int .i64 y0, .int .i64 y1, .int .i64 y2] 63) = w0 at *
  obtain ⟨B1, hB1⟩ : ∃ B, B = w.heap.size + 1 := ⟨_, rfl⟩
  rw [← hB1] at q0 q1 q2 ⊢
  clear hB1
  obtain ⟨B0, hB0⟩ : ∃ B, B = w.heap.size := ⟨_, rfl⟩
  rw [← hB0] at k0 k1 k2
  have HB0 := Lib.hid hB0
  clear hB0
  rw [← HB0.out]
  refine (Equal_ints _ _ xp yp _ hp0 hp0').mono ?_
  rintro e w1 ⟨rfl, hb1⟩
  have j0 := (hb1.cell (p := ⟨B0, 1, none⟩) (cell_lt k0)).trans k0
  have j1 := (hb1.cell (p := ⟨B0, 2, none⟩) (cell_lt k1)).trans k1
  have j2 := (hb1.cell (p := ⟨B0, 3, none⟩) (cell_lt k2)).trans k2
  have r0 := (hb1.cell (p := ⟨B1, 1, none⟩) (cell_lt q0)).trans q0
  have r1 := (hb1.cell (p := ⟨B1, 2, none⟩) (cell_lt q1)).trans q1
  have r2 := (hb1.cell (p := ⟨B1, 3, none⟩) (cell_lt q2)).trans q2
  have S1 := S0.step hb1
  clear k0 k1 k2 q0 q1 q2
  cases hq : eqInts xp yp with
  | false =>
    have HV := Lib.hid (show verEq (xp, x0, x1, x2) (yp, y0, y1, y2) = false by simp [verEq, hq])
    clear hq
    go_wp2_with fail
    go_ret
    exact ⟨ret_bool HV.out.symm, S1.below⟩
  | true =>
    by_cases h : x0 = y0 ∧ x1 = y1 ∧ x2 = y2
    · obtain ⟨rfl, rfl, rfl⟩ := h
      have HV := Lib.hid (show verEq (xp, x0, x1, x2) (yp, x0, x1, x2) = true by simp [verEq, hq])
      clear hq
      go_wp2_with fail
      go_ret
      exact ⟨ret_bool HV.out.symm, S1.below⟩
    · have HV := Lib.hid (show verEq (xp, x0, x1, x2) (yp, y0, y1, y2) = false by simp [verEq]; intro _ h0 h1 h2; exact h ⟨h0, h1, h2⟩)
      have h3 : (x0 == y0) = false ∨ x0 = y0 ∧ (x1 == y1) = false ∨ x0 = y0 ∧ x1 = y1 ∧ (x2 == y2) = false := by
        simp only [beq_eq_false_iff_ne]
        by_cases e0 : x0 = y0
        · by_cases e1 : x1 = y1
          · exact Or.inr (Or.inr ⟨e0, e1, fun e2 => h ⟨e0, e1, e2⟩⟩)
          · exact Or.inr (Or.inl ⟨e0, e1⟩)
        · exact Or.inl e0
      clear h hq
      rcases h3 with h | ⟨rfl, h⟩ | ⟨rfl, rfl, h⟩
      all_goals
        go_wp2_with fail
        go_ret
        exact ⟨ret_bool HV.out.symm, S1.below⟩

set_option maxRecDepth 100000 in
set_option maxHeartbeats 2000000 in
theorem Same_book (v u : Value) (b c : List Ver) (W : World) (hv : IsVers W v b) (hu : IsVers W u c) :
    Calls Try.prog 44 #[.agg #[v], .agg #[u]] W fun e w' => e = .returned (.bool (eqBy verEq b c)) ∧ Below W.heap.size W w' := by
  obtain ⟨a, n, rfl, _⟩ := hv.opened
  obtain ⟨a', n', rfl, _⟩ := hu.opened
  have S0 := ((Since.refl W).alloc (.cells #[.slice a b.length n] 50)).alloc (.cells #[.slice a' c.length n'] 50)
  have hv0 := hv.later RVer.stays (Dirty.old S0.below _)
  have hu0 := hu.later RVer.stays (Dirty.old S0.below _)
  clear hv hu
  go_enter Try.func44, Try.ntmps44
  go_wp2_with fail
  refine (EqualVers_any 75 (fun _ _ => rfl) SameVer_any _ _ b c _ hv0 hu0).mono ?_
  rintro e w1 ⟨rfl, hb1⟩
  go_wp2_with fail
  go_ret
  exact ⟨rfl, (S0.step hb1).below⟩

set_option maxRecDepth 100000 in
set_option maxHeartbeats 2000000 in
theorem SameBook_any (v u : Value) (b c : List Ver) (W : World) (hv : IsVers W v b) (hu : IsVers W u c) :
    Calls Try.prog 45 #[.agg #[v], .agg #[u]] W fun e w' => e = .returned (.bool (eqBy verEq b c)) ∧ Below W.heap.size W w' := by
  obtain ⟨a, n, rfl, _⟩ := hv.opened
  obtain ⟨a', n', rfl, _⟩ := hu.opened
  have S0 := ((Since.refl W).alloc (.cells #[.slice a b.length n] 50)).alloc (.cells #[.slice a' c.length n'] 50)
  have hv0 := hv.later RVer.stays (Dirty.old S0.below _)
  have hu0 := hu.later RVer.stays (Dirty.old S0.below _)
  clear hv hu
  go_enter Try.func45, Try.ntmps45
  go_wp2_with fail
  refine (EqualVers_any 76 (fun _ _ => rfl) SameVerR_any _ _ b c _ hv0 hu0).mono ?_
  rintro e w1 ⟨rfl, hb1⟩
  go_wp2_with fail
  go_ret
  exact ⟨rfl, (S0.step hb1).below⟩

end Go.Proofs.Ytlaabmpadikkjaa
