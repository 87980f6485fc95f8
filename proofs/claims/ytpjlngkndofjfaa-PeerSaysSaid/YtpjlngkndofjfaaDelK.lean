/-
  The walk of slices.DeleteFunc at kept shares, of which one at most is deleted.
-/
import Derived.Test.YtpjlngkndofjfaaPeerRow
namespace Go.Proofs.Ytpjlngkndofjfaa
open Go.RowKit

theorem findFrom_bdK {α : Type} (p : α → Bool) : ∀ (l : List α) (k : Nat), findFrom p l k = -1 ∨ ∃ n x, findFrom p l k = ((k + n : Nat) : Int) ∧ l[n]? = some x ∧ p x = true
  | [], k => Or.inl rfl
  | x :: l, k => by
    unfold findFrom
    by_cases h : p x = true
    · rw [if_pos h]
      exact Or.inr ⟨0, x, by simp, rfl, h⟩
    · rw [if_neg h]
      rcases findFrom_bdK p l (k + 1) with h2 | ⟨n, y, h2, h3, h4⟩
      · exact Or.inl h2
      · exact Or.inr ⟨n + 1, y, by rw [h2]; congr 1; omega, by simpa using h3, h4⟩
theorem findFrom_allK {α : Type} {p : α → Bool} : ∀ {l : List α} {k : Nat}, findFrom p l k = -1 → l.filter (fun z => !p z) = l
  | [], _, _ => rfl
  | x :: l, k, h => by
    unfold findFrom at h
    by_cases hx : p x = true
    · rw [if_pos hx] at h
      omega
    · rw [if_neg hx] at h
      rw [List.filter_cons, if_pos (by simpa using hx), findFrom_allK h]
theorem filter_one {α : Type} {p : α → Bool} : ∀ {l : List α} {n : Nat} {x : α}, l[n]? = some x → p x = true → (∀ j y, l[j]? = some y → p y = true → j = n) → l.filter (fun z => !p z) = l.eraseIdx n
  | [], n, x, h, _, _ => by simp at h
  | y :: l, 0, x, h, hp, hu => by
    simp at h
    subst h
    rw [List.filter_cons, if_neg (by simp [hp]), List.eraseIdx_cons_zero, List.filter_eq_self]
    intro z hz
    obtain ⟨j, hj⟩ := List.getElem?_of_mem hz
    cases hpz : p z with
    | false => rfl
    | true => have := hu (j + 1) z (by simpa using hj) hpz; omega
  | y :: l, n + 1, x, h, hp, hu => by
    have hy : p y = false := by
      cases hpy : p y with
      | false => rfl
      | true => have := hu 0 y rfl hpy; omega
    rw [List.filter_cons, if_pos (by simp [hy]), List.eraseIdx_cons_succ, filter_one (n := n) (x := x) (by simpa using h) hp (fun j z hj hz => by have := hu (j + 1) z (by simpa using hj) hz; omega)]
theorem erase_step {α : Type} {l : List α} {n m : Nat} {z : α} (hn : n ≤ m) (hz : l[m + 1]? = some z) : ((l.eraseIdx n).take m ++ l.drop m).set m z = (l.eraseIdx n).take (m + 1) ++ l.drop (m + 1) := by
  have hm : m + 1 < l.length := (List.getElem?_eq_some_iff.1 hz).1
  have he : (l.eraseIdx n).length = l.length - 1 := by rw [List.length_eraseIdx, if_pos (by omega)]
  have ht : ((l.eraseIdx n).take m).length = m := by rw [List.length_take]; omega
  have hg : (l.eraseIdx n)[m]? = some z := by rw [List.getElem?_eraseIdx, if_neg (by omega), hz]
  rw [List.set_append_right _ _ (by omega), ht, Nat.sub_self, List.drop_eq_getElem_cons (by omega : m < l.length), List.set_cons_zero, take_get hg, List.append_assoc]
  rfl

theorem run_clear_triple {P : Program} (w : World) (t e ty : TypeId) (z x y u : Value) (ht : P.underlying t = some (.slice e)) (hv : ∀ w, (zeroValue e).run P w = .ok z w) (hz : z.cells = #[x, y, u]) (hx : x.oneCell' = true) (hy : y.oneCell' = true) (hu : u.oneCell' = true) (b o c : Nat)
    (hc : ∀ j, j < 3 → (w.cell? ⟨b, o + j, none⟩).isSome = true ∧ w.frozen? ⟨b, o + j, none⟩ = false) :
    (Builtin.clear_ #[t] ty #[.slice (some ⟨b, o, none⟩) 1 c]).run P w = .ok (.tuple #[]) (w.setCells b o [x, y, u]) := by
  have hzc : (Builtin.zeroCells z.cells 1).toList = [x, y, u] := by
    rw [hz]
    simp [Builtin.zeroCells]
    apply List.ext_getElem
    · simp
    · intro i h1 h2
      simp at h2
      rcases (by omega : i = 0 ∨ i = 1 ∨ i = 2) with rfl | rfl | rfl <;> simp
  have hst := run_storeCells_cells (P := P) b o [x, y, u] 0 w (by simpa using fun j hj => (hc j hj).1) (by simpa using fun j hj => (hc j hj).2) (by intro v hv'; simp at hv'; rcases hv' with rfl | rfl | rfl <;> assumption)
  simp only [Nat.add_zero] at hst
  simp [Builtin.clear_, run_underlying ht, hv, hzc, hst]
theorem zero_kept (w : World) : (zeroValue 44).run Try.prog w = .ok (.agg #[.int .i64 0, .int .i64 0, .slice none 0 0]) w := by kernel_rfl

set_option maxRecDepth 100000 in
set_option maxHeartbeats 2000000 in
theorem DeleteFuncKepts_any (F : Nat) (eF : ∀ args w, (callFunc F args).run Try.prog w = .ok (.enter F args) w) (caps : Array Value) (p : Kp → Bool) (E : Nat → Prop) (base : Nat) (v : Value) (l : List Kp) (W : World) (ho : OwnRow 3 RKept E W 44 base v l)
    (hu : ∀ (i j : Nat) (x y : Kp), l[i]? = some x → l[j]? = some y → p x = true → p y = true → i = j)
    (hI : Calls Try.prog 33 #[v, .func (.func F) #[] caps] W fun e w' => e = .returned (.int .i64 (findFrom p l 0)) ∧ Below W.heap.size W w')
    (hF : ∀ u z w, z ∈ l → W.grownBy w v.ownBlock → IsKept w u z → Calls Try.prog F (#[u] ++ caps) w fun e w' => e = .returned (.bool (p z)) ∧ Below w.heap.size w w') :
    Calls Try.prog 39 #[v, .func (.func F) #[] caps] W fun e w' => (∃ v', e = .returned v' ∧ OwnRow 3 RKept E w' 44 base v' (l.filter fun z => !p z) ∧ (∀ k, v'.ownBlock = some k → v.ownBlock = some k)) ∧ W.grownBy w' v.ownBlock := by
  have HI := Lib.hid hI
  have HF := Lib.hid hF
  have htop := ho.top
  obtain ⟨a, cap, rfl, hcap, ⟨hm, hcm, _⟩, _⟩ := ho.isRow.opened
  clear hF hI
  rcases findFrom_bdK p l 0 with hr | ⟨n, x, hr, hx, hpx⟩
  · have hfa := Lib.hid (findFrom_allK hr)
    rw [hr] at HI
    clear hr hu
    go_enter Try.func39, Try.ntmps39
    go_wp2_with fail
    refine HI.out.mono ?_
    rintro e w1 ⟨rfl, hb1⟩
    have HO := Lib.hid (ho.stays hb1)
    have HG := Lib.hid (World.grownBy.but (grown_of_below hb1) (Value.slice a l.length cap).ownBlock)
    clear hb1 ho
    go_wp2_with fail
    go_ret
    exact ⟨⟨_, rfl, by rw [hfa.out]; exact HO.out, fun k hk => hk⟩, HG.out⟩
  · rw [Nat.zero_add] at hr
    rw [hr] at HI
    have HFI := Lib.hid (filter_one hx hpx (fun j y hj hy => hu j n y x hj hx hy hpx))
    have HU := Lib.hid (fun (j : Nat) (y : Kp) (hj : l[j]? = some y) (hjn : n < j) => show p y = false from by
      cases hpy : p y with
      | false => rfl
      | true => have := hu j n y x hj hx hpy hpx; omega)
    have hnl : n < l.length := (List.getElem?_eq_some_iff.1 hx).1
    have HEL := Lib.hid (show (l.eraseIdx n).length = l.length - 1 by rw [List.length_eraseIdx, if_pos hnl])
    clear hu hr hx hpx
    rcases ho.shape with ⟨h5, h6⟩ | ⟨g, cap', cur, h5, hgb, hgl, hnc, _, _, _⟩
    · rw [h6] at hnl; simp at hnl
    · simp only [Value.slice.injEq, true_and] at h5
      obtain ⟨rfl, rfl⟩ := h5
      have hne : (((n : Nat) : Int) == -1) = false := by simp
      go_enter Try.func39, Try.ntmps39
      go_wp2_with fail
      refine HI.out.mono ?_
      rintro e w1 ⟨rfl, hb1⟩
      have ho1 := ho.stays hb1
      have hg1 := World.grownBy.but (grown_of_below hb1) (some g)
      clear hb1 ho
      go_wp2_with fail
      go_loopw [6, 5] (fun j i wr => ∃ m : Nat, j = .int .i64 ((m + 1 : Nat) : Int) ∧ i = .int .i64 m ∧ n ≤ m ∧ m < l.length ∧ W.grownBy wr (some g) ∧ OwnRow 3 RKept E wr 44 base (.slice (some ⟨g, 0, none⟩) l.length cap) ((l.eraseIdx n).take m ++ l.drop m)) (fun j _ _ => l.length - (intOf j).toNat)
      case atStart => exact ⟨n, by go_num, rfl, Nat.le_refl _, hnl, hg1, by
        rw [show (l.eraseIdx n).take n ++ l.drop n = l from by
          rw [List.eraseIdx_eq_take_drop_succ, List.take_append_of_le_length (by rw [List.length_take]; omega), List.take_take, Nat.min_self, List.take_append_drop]]
        exact ho1⟩
      case round =>
        obtain ⟨m, rfl, rfl, hnm, hml, hgw, hoc⟩ := hrel
        clear hg1 ho1
        by_cases hlt : m + 1 < l.length
        · have hz : l[m + 1]? = some l[m + 1] := List.getElem?_eq_getElem hlt
          have hpz := HU.out (m + 1) _ hz (by omega)
          generalize l[m + 1] = z at *
          have hcz : ((l.eraseIdx n).take m ++ l.drop m)[m + 1]? = some z := by
            rw [List.getElem?_append_right (by rw [List.length_take]; omega), List.length_take, HEL.out, Nat.min_eq_left (by omega), List.getElem?_drop, show m + (m + 1 - m) = m + 1 by omega, hz]
          obtain ⟨r, g', hg', hrl, hr1, hrc, hrf⟩ := hoc.get hcz
          simp only [Value.ownBlock, Option.some.injEq] at hg'
          subst hg'
          obtain ⟨uz, rfl, huz, iz1, iz2⟩ := hrf.now
          obtain ⟨az, cz, rfl, _⟩ := huz.opened
          have k0 : wr.cell? ⟨g, (m + 1) * 3, none⟩ = some (.int .i64 z.1) := hrc 0 _ rfl
          have k1 : wr.cell? ⟨g, (m + 1) * 3 + 1, none⟩ = some (.int .i64 z.2.1) := hrc 1 _ rfl
          have k2 : wr.cell? ⟨g, (m + 1) * 3 + 2, none⟩ = some (.slice az z.2.2.length cz) := hrc 2 _ rfl
          have hcl : ((l.eraseIdx n).take m ++ l.drop m).length = l.length := by rw [List.length_append, List.length_take, List.length_drop, HEL.out]; omega
          have sp : ∀ j, j < 3 → (wr.cell? ⟨g, m * 3 + j, none⟩).isSome = true ∧ wr.frozen? ⟨g, m * 3 + j, none⟩ = false := fun j hj => hoc.spare (by omega)
          have HRF := Lib.hid hrf
          have HST := Lib.hid (erase_step hnm hz)
          have HOC := Lib.hid hoc
          have HGW := Lib.hid hgw
          have hgb := grown_of_below (below_alloc wr (.cells #[.int .i64 z.1, .int .i64 z.2.1, .slice az z.2.2.length cz] 44))
          have BB := below_alloc wr (.cells #[.int .i64 z.1, .int .i64 z.2.1, .slice az z.2.2.length cz] 44)
          have HK : Hid (IsKept (wr.alloc (.cells #[.int .i64 z.1, .int .i64 z.2.1, .slice az z.2.2.length cz] 44)) (.agg #[.int .i64 z.1, .int .i64 z.2.1, .slice az z.2.2.length cz]) z) := Lib.hid ⟨_, rfl, huz.stays BB, iz1, iz2⟩
          have hg2 : W.grownBy (wr.alloc (.cells #[.int .i64 z.1, .int .i64 z.2.1, .slice az z.2.2.length cz] 44)) (some g) := hgw.trans (World.grownBy.but hgb _)
          have hmem : z ∈ l := List.mem_of_getElem? hz
          have s1 : (m : Int) + 1 < (l.length : Int) := by omega
          have s2 : (m : Int) < (l.length : Int) := by omega
          have s3 : (0 : Int) ≤ (m : Int) + 1 := by omega
          have s4 : ((m : Int) + 1).toNat = m + 1 := by omega
          have q0 : (wr.alloc (.cells #[.int .i64 z.1, .int .i64 z.2.1, .slice az z.2.2.length cz] 44)).cell? ⟨wr.heap.size, 0, none⟩ = some (.int .i64 z.1) := by go_simp
          have q1 : (wr.alloc (.cells #[.int .i64 z.1, .int .i64 z.2.1, .slice az z.2.2.length cz] 44)).cell? ⟨wr.heap.size, 1, none⟩ = some (.int .i64 z.2.1) := by go_simp
          have q2 : (wr.alloc (.cells #[.int .i64 z.1, .int .i64 z.2.1, .slice az z.2.2.length cz] 44)).cell? ⟨wr.heap.size, 2, none⟩ = some (.slice az z.2.2.length cz) := by go_simp
          have HP := Lib.hid hpz
          have HSP := Lib.hid sp
          clear hz hcz hrf hr1 hrc hrl hoc hgw hgb huz hpz sp hcl
          go_upto_region 8 with fail
          obtain ⟨B7, hB7⟩ : ∃ B7, B7 = wr.heap.size := ⟨_, rfl⟩
          rw [← hB7] at q0 q1 q2 ⊢
          have HSPA : Hid (∀ j, j < 3 → ((wr.alloc (.cells #[.int .i64 z.1, .int .i64 z.2.1, .slice az z.2.2.length cz] 44)).cell? ⟨g, m * 3 + j, none⟩).isSome = true ∧ (wr.alloc (.cells #[.int .i64 z.1, .int .i64 z.2.1, .slice az z.2.2.length cz] 44)).frozen? ⟨g, m * 3 + j, none⟩ = false) := Lib.hid (fun j hj => by
            obtain ⟨h1, h2⟩ := HSP.out j hj
            obtain ⟨c, hc⟩ := Option.isSome_iff_exists.1 h1
            exact ⟨by rw [below_cell BB hc]; rfl, below_free BB hc h2⟩)
          have HOA := Lib.hid (HOC.out.stays BB)
          have HRA := Lib.hid (HRF.out.step (Dirty.old BB _))
          clear k0 k1 k2 BB hB7
          generalize wr.alloc (.cells #[.int .i64 z.1, .int .i64 z.2.1, .slice az z.2.2.length cz] 44) = w2 at *
          have HCALL := Lib.hid (hg2)
          go_wp2_with (go_at_fn F; refine (HF.out _ z _ hmem hg2 HK.out).mono ?_; rintro e w3 ⟨rfl, hb3⟩; rw [HP.out]; have d0 := below_cell hb3 q0; have d1 := below_cell hb3 q1; have d2 := below_cell hb3 q2; obtain ⟨u0, hu0⟩ := Option.isSome_iff_exists.1 (HSPA.out 0 (by omega)).1; obtain ⟨u1, hu1⟩ := Option.isSome_iff_exists.1 (HSPA.out 1 (by omega)).1; obtain ⟨u2, hu2⟩ := Option.isSome_iff_exists.1 (HSPA.out 2 (by omega)).1; have x0 : w3.cell? ⟨g, m * 3, none⟩ = some u0 := below_cell hb3 hu0; have x1 := below_cell hb3 hu1; have x2 := below_cell hb3 hu2; have y0 : w3.frozen? ⟨g, m * 3, none⟩ = false := below_free hb3 hu0 (HSPA.out 0 (by omega)).2; have y1 := below_free hb3 hu1 (HSPA.out 1 (by omega)).2; have y2 := below_free hb3 hu2 (HSPA.out 2 (by omega)).2)
          have ho5 := (HOA.out.stays hb3).setElem (k := m) (r := [.int .i64 z.1, .int .i64 z.2.1, .slice az z.2.2.length cz]) (x := z) (by rw [List.length_append, List.length_take, List.length_drop, HEL.out]; omega) rfl (by intro c hc; simp at hc; rcases hc with rfl | rfl | rfl <;> rfl) (HRA.out.step (Dirty.old hb3 _))
          rw [HST.out] at ho5
          have hg5 : W.grownBy (w3.setCells g (m * 3) [.int .i64 z.1, .int .i64 z.2.1, .slice az z.2.2.length cz]) (some g) := (hg2.trans (World.grownBy.but (grown_of_below hb3) _)).trans (grown_setCellsR g _ (m * 3) w3)
          have HO5 := Lib.hid ho5
          have HG5 := Lib.hid hg5
          clear ho5 hg5 d0 d1 d2 hu0 hu1 hu2 x0 x1 x2 y0 y1 y2 hb3 q0 q1 q2
          go_roundw
          case rel => exact ⟨m + 1, by go_num, by go_num, by omega, by omega, HG5.out, HO5.out⟩
          case measure => simp [intOf]; omega
        · have hm1 : l.length - m = 1 := by omega
          have hcl : ∀ ty, (Builtin.clear_ #[35] ty #[.slice (some ⟨g, m * 3, none⟩) (l.length - m) (cap - m)]).run Try.prog wr = .ok (.tuple #[]) (wr.setCells g (m * 3) [.int .i64 0, .int .i64 0, .slice none 0 0]) := by
            intro ty
            rw [hm1]
            exact run_clear_triple wr _ _ ty _ _ _ _ Try.underlying35 zero_kept rfl rfl rfl rfl g (m * 3) _ (fun j hj => hoc.spare (by omega))
          have hel := HEL.out
          have hcln : ((l.eraseIdx n).take m ++ l.drop m).length = l.length := by rw [List.length_append, List.length_take, List.length_drop, hel]; omega
          have hz0 : Framed (fun j => some g = some j ∨ E j) RKept wr [.int .i64 0, .int .i64 0, .slice none 0 0] (0, 0, []) := fun w' _ => ⟨_, rfl, IsInts.nil w', (show I64 0 from ⟨by omega, by omega⟩), (show I64 0 from ⟨by omega, by omega⟩)⟩
          have ho6 := (hoc.setElem (k := m) (r := [.int .i64 0, .int .i64 0, .slice none 0 0]) (x := (0, 0, [])) (by omega) rfl (by intro c hc; simp at hc; rcases hc with rfl | rfl <;> rfl) hz0).take m (by rw [List.length_set]; omega) rfl
          have e6 : (((l.eraseIdx n).take m ++ l.drop m).set m ((0, 0, []) : Kp)).take m = l.eraseIdx n := by
            rw [List.take_set_of_le (Nat.le_refl _), List.take_append_of_le_length (by rw [List.length_take]; omega), List.take_take, Nat.min_self, List.take_of_length_le (by omega)]
          rw [e6] at ho6
          have HO6 := Lib.hid ho6
          have HG6 := Lib.hid (hgw.trans (grown_setCellsR g [.int .i64 0, .int .i64 0, .slice none 0 0] (m * 3) wr))
          have s1 : ¬ (m : Int) + 1 < (l.length : Int) := by omega
          have s2 : (m : Int) ≤ (l.length : Int) := by omega
          have s3 : ¬ cap = m := by omega
          have s4 : (m : Int) ≤ (cap : Int) := by omega
          clear hoc hgw ho6 e6 hz0 hcln hel hm1
          go_wp2_with fail
          go_ret
          exact ⟨⟨_, rfl, by rw [HFI.out]; exact HO6.out, fun k hk => hk⟩, HG6.out⟩

end Go.Proofs.Ytpjlngkndofjfaa
