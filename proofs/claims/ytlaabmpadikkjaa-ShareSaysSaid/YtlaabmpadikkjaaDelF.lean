/-
  slices.DeleteFunc at the call's own ints, with whatever closure that asks.
-/
import Derived.Test.YtlaabmpadikkjaaFunc
import Derived.Lib.SliceRun
namespace Go.Proofs.Ytlaabmpadikkjaa
open Go.RowKit

theorem OwnInts.take {w : World} {e : TypeId} {base : Nat} {a : Option Addr} {L cap : Nat} {l : List Int} (h : OwnInts w e base (.slice a L cap) l) (n : Nat) (hn : n ≤ l.length) : OwnInts w e base (.slice a n cap) (l.take n) := by
  obtain ⟨⟨h1, h2⟩, h3, h4⟩ := h
  have hl : (l.take n).length = n := by simp; omega
  refine ⟨⟨by simp, ?_⟩, fun x hx => h3 x (List.mem_of_mem_take hx), by omega⟩
  rcases h2 with ⟨e1, e2⟩ | ⟨g, cap', cur, e1, hb, hg, hnc, hcm, hcs, htk⟩
  · simp only [Value.slice.injEq] at e1
    obtain ⟨rfl, rfl, rfl⟩ := e1
    have : n = 0 := by omega
    subst this
    exact .inl ⟨rfl, by simp⟩
  · simp only [Value.slice.injEq] at e1
    obtain ⟨rfl, rfl, rfl⟩ := e1
    refine .inr ⟨g, cap, cur, by rw [hl], hb, hg, by omega, hcm, hcs, ?_⟩
    rw [hl, List.map_take, ← htk, List.take_take]
    congr 1
    omega
/-- A stretch of noughts is stored: what stands ahead of it stays. -/
theorem OwnInts.noughts {e : TypeId} {base g n cap : Nat} : ∀ (m i : Nat) {w : World} {c : List Int}, OwnInts w e base (.slice (some ⟨g, 0, none⟩) n cap) c → i + m ≤ c.length →
    ∃ c', OwnInts (w.setCells g i (List.replicate m (.int .i64 0))) e base (.slice (some ⟨g, 0, none⟩) n cap) c' ∧ c'.length = c.length ∧ c'.take i = c.take i
  | 0, i, w, c, h, _ => ⟨c, h, rfl, rfl⟩
  | m + 1, i, w, c, h, hl => by
    obtain ⟨c', h1, h2, h3⟩ := OwnInts.noughts m (i + 1) (h.stored i 0 ⟨by omega, by omega⟩) (by simp; omega)
    refine ⟨c', h1, by simpa using h2, ?_⟩
    have := congrArg (List.take i) h3
    rw [List.take_take, List.take_take, Nat.min_eq_left (by omega)] at this
    rw [this, List.take_set_of_le (by omega)]
theorem grown_setCells (g : Nat) : ∀ (vs : List Value) (o : Nat) (w : World), w.grownBy (w.setCells g o vs) (some g)
  | [], _, w => World.grownBy.refl w _
  | v :: vs, o, w => (grown_setCell w ⟨g, o, none⟩ v).trans (grown_setCells g vs (o + 1) (w.setCell ⟨g, o, none⟩ v))
theorem below_cellD {w w' : World} (hb : Below w.heap.size w w') {a : Addr} {v : Value} (hc : w.cell? a = some v) : w'.cell? a = some v := (hb.cell (p := a) (cell_lt hc)).trans hc
theorem below_freeD {w w' : World} (hb : Below w.heap.size w w') {a : Addr} {v : Value} (hc : w.cell? a = some v) (hf : w.frozen? a = false) : w'.frozen? a = false := (hb.frozen (p := a) (cell_lt hc)).trans hf
theorem zero_intD (w : World) : (zeroValue 3).run Try.prog w = .ok (.int .i64 0) w := by kernel_rfl

theorem filter_take_step {p : Int → Bool} {l : List Int} {k : Nat} {z : Int} (h : l[k]? = some z) : (l.take (k + 1)).filter p = (l.take k).filter p ++ (if p z = true then [z] else []) := by
  rw [take_get h, List.filter_append]
  congr 1
  by_cases hz : p z = true <;> simp [hz]
theorem filter_none : ∀ {p : Int → Bool} {l : List Int} {k n : Nat}, findFrom p l k = ((k + n : Nat) : Int) → (l.take n).filter (fun z => !p z) = l.take n ∧ n < l.length ∧ ∃ z, l[n]? = some z ∧ p z = true
  | p, [], k, n, h => by unfold findFrom at h; omega
  | p, y :: l, k, n, h => by
    unfold findFrom at h
    split at h
    · rename_i hy
      have : n = 0 := by omega
      subst this
      exact ⟨by simp, by simp, y, by simp, hy⟩
    · rename_i hy
      match n, h with
      | 0, h => have := findFrom_bd p l (k + 1); have h2 : findFrom p l (k + 1) = (k : Int) := by simpa using h
                exfalso
                clear this
                have : ∀ (l : List Int) (m : Nat), k < m → findFrom p l m ≠ (k : Int) := by
                  intro l
                  induction l with
                  | nil => intro m _; simp [findFrom]
                  | cons x l ih =>
                    intro m hm
                    unfold findFrom
                    split
                    · omega
                    · exact ih (m + 1) (by omega)
                exact this l (k + 1) (by omega) h2
      | n + 1, h =>
        obtain ⟨h1, h2, z, h3, h4⟩ := filter_none (p := p) (l := l) (k := k + 1) (n := n) (by rw [h]; congr 1; omega)
        refine ⟨?_, by simp; omega, z, by simpa using h3, h4⟩
        rw [List.take_succ_cons, List.filter_cons, if_pos (by simpa using hy), h1]
theorem filter_all {p : Int → Bool} : ∀ {l : List Int} {k : Nat}, findFrom p l k = -1 → l.filter (fun z => !p z) = l
  | [], _, _ => rfl
  | y :: l, k, h => by
    unfold findFrom at h
    split at h
    · omega
    · rename_i hy
      rw [List.filter_cons, if_pos (by simpa using hy), filter_all h]

set_option maxRecDepth 100000 in
set_option maxHeartbeats 4000000 in
theorem DeleteFuncInts_any (F : Nat) (eF : ∀ args w, (callFunc F args).run Try.prog w = .ok (.enter F args) w) (caps : Array Value) (p : Int → Bool) (base : Nat) (v : Value) (l : List Int) (W : World) (ho : OwnInts W 3 base v l)
    (hF : ∀ z w, z ∈ l → W.grownBy w v.ownBlock → Calls Try.prog F (#[.int .i64 z] ++ caps) w fun e w' => e = .returned (.bool (p z)) ∧ Below w.heap.size w w') :
    Calls Try.prog 63 #[v, .func (.func F) #[] caps] W fun e w' => (∃ v', e = .returned v' ∧ OwnInts w' 3 base v' (l.filter fun z => !p z)) ∧ W.grownBy w' v.ownBlock := by
  have HI := Lib.hid (IndexFuncInts_any F eF caps p v l W ho.isInts (fun z w hz hS => hF z w hz (World.grownBy.but (grown_of_below hS.below) _)))
  have hbd := findFrom_bd p l 0
  have HF := Lib.hid hF
  obtain ⟨a, cap, rfl, hcap, ⟨hm, hcm, _⟩, _⟩ := ho.isInts.opened
  clear hF
  obtain ⟨r, hr⟩ : ∃ r, r = findFrom p l 0 := ⟨_, rfl⟩
  rw [← hr] at hbd HI
  have HR := Lib.hid hr
  clear hr
  by_cases hr1 : r = -1
  · subst hr1
    have hfa := Lib.hid (filter_all HR.out.symm)
    go_enter Try.func63, Try.ntmps63
    go_wp2_with fail
    refine HI.out.mono ?_
    rintro e w1 ⟨rfl, hb1⟩
    have ho1 := ho.stays hb1
    have hg1 := World.grownBy.but (grown_of_below hb1) (Value.slice a l.length cap).ownBlock
    have HO := Lib.hid ho1
    have HG := Lib.hid hg1
    clear ho1 hg1 hb1 ho
    go_wp2_with fail
    go_ret
    exact ⟨⟨_, rfl, by rw [hfa.out]; exact HO.out⟩, HG.out⟩
  · obtain ⟨n, rfl⟩ := Int.eq_ofNat_of_zero_le (show 0 ≤ r by omega)
    obtain ⟨q1, q2, z0, q3, q4⟩ := filter_none (p := p) (l := l) (k := 0) (n := n) (by rw [← HR.out, Nat.zero_add])
    obtain ⟨g, cap', e1, hg0, hgl, _, _⟩ := ho.shape (by omega)
    simp only [Value.slice.injEq, true_and] at e1
    obtain ⟨rfl, rfl⟩ := e1
    have hne : (((n : Nat) : Int) == -1) = false := by simp
    have Q1 := Lib.hid q1
    have Q3 := Lib.hid q3
    have Q4 := Lib.hid q4
    clear hr1 q1 q3 q4
    go_enter Try.func63, Try.ntmps63
    go_wp2_with fail
    refine HI.out.mono ?_
    rintro e w1 ⟨rfl, hb1⟩
    have ho1 := ho.stays hb1
    have hg1 := World.grownBy.but (grown_of_below hb1) (some g)
    clear hb1 ho
    go_wp2_with fail
    go_loopw [6, 5] (fun j i wr => ∃ j' i' : Nat, ∃ c : List Int, j = .int .i64 j' ∧ i = .int .i64 i' ∧ i' < j' ∧ j' ≤ l.length ∧ W.grownBy wr (some g) ∧ OwnInts wr 3 base (.slice (some ⟨g, 0, none⟩) l.length cap) c ∧ c.length = l.length ∧ c.take i' = (l.take j').filter (fun z => !p z) ∧ c.drop j' = l.drop j') (fun j _ _ => l.length - (intOf j).toNat)
    case atStart => exact ⟨n + 1, n, l, by go_num, rfl, by omega, by omega, hg1, ho1, rfl, by rw [filter_take_step (p := fun z => !p z) Q3.out, Q1.out]; simp [Q4.out], rfl⟩
    case round =>
      obtain ⟨j, i, c, rfl, rfl, hij, hjl, hgw, hoc, hcl, hct, hcd⟩ := hrel
      have HCT := Lib.hid hct
      have HCD := Lib.hid hcd
      have HCL := Lib.hid hcl
      clear hct hcd hcl hg1 ho1
      by_cases hlt : j < l.length
      · have hz : l[j]? = some l[j] := List.getElem?_eq_getElem hlt
        generalize l[j] = z at *
        have hcz : c[j]? = some z := by
          have := congrArg (fun r => r[0]?) HCD.out
          simpa [List.getElem?_drop, hz] using this
        have hcd2 : c.drop (j + 1) = l.drop (j + 1) := by
          have := congrArg (List.drop 1) HCD.out
          simpa [List.drop_drop] using this
        have hlc : l.length ≤ c.length := by rw [HCL.out]; exact Nat.le_refl _
        have hcell := hoc.cell j (by omega)
        rw [List.getD_eq_getElem?_getD, hcz] at hcell
        have hcell2 : wr.cell? ⟨g, j, none⟩ = some (.int .i64 z) := hcell
        have hiz : I64 z := hoc.2.1 z (List.mem_of_getElem? hcz)
        have hmem : z ∈ l := List.mem_of_getElem? hz
        have hst := Lib.hid (filter_take_step (p := fun z => !p z) hz)
        have HC2 := Lib.hid hcd2
        have s1 : (j : Int) < (l.length : Int) := by omega
        clear hz hcz hcell hcd2
        cases hp : p z with
        | true =>
          have HP := Lib.hid hp
          clear hp
          go_wp2_with (go_at_fn F; refine (HF.out z _ hmem hgw).mono ?_; rintro e w' ⟨rfl, hb'⟩; rw [HP.out])
          have hg2 : W.grownBy w' (some g) := hgw.trans (World.grownBy.but (grown_of_below hb') _)
          have ho2 := hoc.stays hb'
          clear hcell2 hoc hgw hb'
          go_roundw
          case rel => exact ⟨j + 1, i, c, by go_num, rfl, by omega, by omega, hg2, ho2, HCL.out, by rw [hst.out, HCT.out]; simp [HP.out], HC2.out⟩
          case measure => simp [intOf]; omega
        | false =>
          have HP := Lib.hid hp
          clear hp
          have hcelli := hoc.cell i (by omega)
          have hfri := hoc.free i
          have s2 : (i : Int) < (l.length : Int) := by omega
          go_wp2_with (go_at_fn F; refine (HF.out z _ hmem hgw).mono ?_; rintro e w' ⟨rfl, hb'⟩; rw [HP.out]; have hcelli' := below_cellD hb' hcelli; have hfri' := below_freeD hb' hcelli hfri)
          have ho2 := (hoc.stays hb').stored i z hiz
          have hg2 : W.grownBy (w'.setCell ⟨g, i, none⟩ (.int .i64 z)) (some g) := (hgw.trans (World.grownBy.but (grown_of_below hb') _)).trans (grown_setCell w' ⟨g, i, none⟩ (.int .i64 z))
          clear hcell2 hoc hgw hb' hcelli hfri hcelli' hfri'
          generalize w'.setCell ⟨g, i, none⟩ (.int .i64 z) = w2 at *
          go_wp2_with fail
          go_roundw
          case rel =>
            refine ⟨j + 1, i + 1, c.set i z, by go_num, by go_num, by omega, by omega, hg2, ho2, by simpa using HCL.out, ?_, ?_⟩
            · rw [hst.out, ← HCT.out, List.take_add_one, List.take_set_of_le (by omega)]
              have : (c.set i z)[i]? = some z := by rw [List.getElem?_set, if_pos rfl, if_pos (by rw [HCL.out]; omega)]
              rw [this]
              simp [HP.out]
            · rw [List.drop_set_of_lt (by omega), HC2.out]
          case measure => simp [intOf]; omega
      · obtain rfl : l.length = j := by omega
        have hlc : l.length ≤ c.length := by rw [HCL.out]; exact Nat.le_refl _
        obtain ⟨c2, hoc2, hcl2, hct2⟩ := OwnInts.noughts (l.length - i) i hoc (by rw [HCL.out]; omega)
        have hclr : ∀ ty, (Builtin.clear_ #[24] ty #[.slice (some ⟨g, i, none⟩) (l.length - i) (cap - i)]).run Try.prog wr = .ok (.tuple #[]) (wr.setCells g i (List.replicate (l.length - i) (.int .i64 0))) :=
          fun ty => Lib.run_clear_slice wr _ _ ty _ Try.underlying24 zero_intD rfl rfl g i _ _ (by omega) (fun m hm => by rw [hoc.cell (i + m) (by rw [HCL.out]; omega)]; rfl) (fun m _ => hoc.free (i + m))
        have hgc := hgw.trans (grown_setCells g (List.replicate (l.length - i) (.int .i64 0)) i wr)
        have hoo := hoc2.take i (by rw [hcl2, HCL.out]; omega)
        rw [hct2, HCT.out, List.take_length] at hoo
        have HOO := Lib.hid hoo
        have hic : ¬ (i = cap) := by omega
        clear hoc2 hcl2 hct2 hoc hoo hgw
        go_wp2_with fail
        go_ret
        exact ⟨⟨_, rfl, HOO.out⟩, hgc⟩

end Go.Proofs.Ytlaabmpadikkjaa
