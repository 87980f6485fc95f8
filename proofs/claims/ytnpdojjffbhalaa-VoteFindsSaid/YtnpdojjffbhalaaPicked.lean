/-
  The walk of the law's picked.
-/
import Derived.Test.YtnpdojjffbhalaaFieldAt
import Derived.Test.YtnpdojjffbhalaaDel
namespace Go.Proofs.Ytnpdojjffbhalaa
open Go.RowKit

theorem ownShare_at {E : Nat → Prop} {w : World} {e : TypeId} {base : Nat} {v : Value} {ls : List Sh} (h : OwnRow 2 RShare E w e base v ls) {i : Nat} {s : Sh} (hs : ls[i]? = some s) :
    ∃ g cap u c, v = .slice (some ⟨g, 0, none⟩) ls.length cap ∧ w.cell? ⟨g, i * 2, none⟩ = some (.int .i64 s.1) ∧ w.cell? ⟨g, i * 2 + 1, none⟩ = some (.slice u s.2.length c) ∧ I64 s.1 ∧ Framed (fun k => v.ownBlock = some k ∨ E k) RShare w [.int .i64 s.1, .slice u s.2.length c] s := by
  obtain ⟨r, g, hg, hl, h1, hc, hf⟩ := h.get hs
  rcases h.shape with ⟨rfl, rfl⟩ | ⟨g', cap, cur, rfl, _⟩
  · simp at hs
  · simp only [Value.ownBlock, Option.some.injEq] at hg
    subst hg
    obtain ⟨u, rfl, hu, i1⟩ := hf.now
    obtain ⟨a, c, rfl, _⟩ := hu.opened
    exact ⟨g', cap, a, c, rfl, hc 0 _ rfl, hc 1 _ rfl, i1, hf⟩

/-- It stands while blocks of E are changed, and new ones made; it is framed by other blocks then, of which none was there but those of E. -/
theorem OwnRow.moved {α : Type} {R : Rd α} {sz : Nat} {E E' : Nat → Prop} {w w' : World} {e : TypeId} {base : Nat} {v : Value} {l : List α} (h : OwnRow sz R E w e base v l) (hw : Dirty E w w') (hv : ∀ k, v.ownBlock = some k → ¬ E k) (hE : ∀ k, k < w.heap.size → E' k → E k ∨ v.ownBlock = some k) : OwnRow sz R E' w' e base v l := by
  obtain ⟨rows, ⟨h1, h1'⟩, h2, h3, h4⟩ := h.row
  refine ⟨h.top, rows, ⟨h1, ?_⟩, h2, h3, fun i r x hr hx => (h4 i r x hr hx).move (hw.mono fun k _ hk => Or.inr hk) (fun k hk hh => ?_)⟩
  · rcases h1' with h1' | ⟨g, cap, cur, h5, h6, h7, h8⟩
    · exact .inl h1'
    · exact .inr ⟨g, cap, cur, h5, h6, (hw.2 g (Array.getElem?_eq_some_iff.1 h7).1 (hv g (by rw [h5]; rfl))).trans h7, h8⟩
  · rcases hh with hh | hh
    · exact Or.inl hh
    · rcases hE k hk hh with h5 | h5
      · exact Or.inr h5
      · exact Or.inl h5
theorem erase_perm {α : Type} {l : List α} {k : Nat} (h : k < l.length) : (l[k] :: l.eraseIdx k).Perm l := by
  rw [List.eraseIdx_eq_take_drop_succ]
  conv => rhs; rw [← List.take_append_drop k l, List.drop_eq_getElem_cons h]
  exact List.perm_middle.symm
theorem fresh_cellsQ (w : World) (l : List Value) (T : TypeId) (n : Nat) (hn : n = w.heap.size) : ∀ j u, l[j]? = some u → (w.alloc (.cells l.toArray T)).cell? ((⟨n, 0, none⟩ : Addr).add j) = some u := by
  intro j u h
  subst hn
  rw [add_none', Nat.zero_add]
  unfold World.cell? World.alloc
  simpa using h

set_option maxRecDepth 100000 in
set_option maxHeartbeats 2000000 in
theorem picked_any (v : Value) (l : List Sh) (vo : Value) (order : List Int) (many : Int) (W : World) (hv : IsShares W v l) (ho : IsInts W vo order) (hl : l.length ≤ 1000000) :
    Calls Try.prog 15 #[v, vo, .int .i64 many] W fun e w' => (∃ v', e = .returned v' ∧ ∃ ps rest : List Sh, OwnRow 2 RShare (fun k => W.heap.size ≤ k) w' 33 W.heap.size v' ps ∧ (ps ++ rest).Perm l ∧ (rest = [] ∨ many ≤ ps.length) ∧ ((ps.length : Int) ≤ many ∨ ps = [])) ∧ Below W.heap.size W w' := by
  have hr := row_of_isShares hv
  obtain ⟨ao, co, rfl, hco, ⟨hmo, hmo', _⟩, _⟩ := ho.opened
  have HO := Lib.hid ho
  obtain ⟨a, c, rfl, _⟩ := hv.opened
  clear hv ho
  go_enter Try.func15, Try.ntmps15
  go_wp2_with fail
  refine (CloneShares_any _ l W W (Dirty.refl _ _) hr hl).mono ?_
  rintro e w1 ⟨⟨v1, rfl, hw1⟩, hb1⟩
  have S1 := (Since.refl W).step hb1
  clear hb1 hr
  go_wp2_with fail
  go_loopw [9, 7, 8] (fun i vl vu wr => ∃ out left : List Sh, i = .int .i64 out.length ∧ Since W.heap.size W wr ∧ OwnRow 2 RShare (fun k => W.heap.size ≤ k) wr 33 W.heap.size vl left ∧ OwnRow 2 RShare (fun k => W.heap.size ≤ k) wr 33 W.heap.size vu out ∧ (∀ k, vl.ownBlock = some k → vu.ownBlock ≠ some k) ∧ (out ++ left).Perm l ∧ out.length + left.length = l.length ∧ ((out.length : Int) ≤ many ∨ out = [])) (fun i _ _ _ => l.length - (intOf i).toNat)
  case atStart => exact ⟨[], l, rfl, S1, hw1, OwnRow.nil _ _ _, by simp [Value.ownBlock], List.Perm.refl _, by simp, Or.inr rfl⟩
  case round =>
    obtain ⟨out, left, rfl, hS, hL, hU, hne, hperm, hlen, hmany⟩ := hrel
    have HP := Lib.hid hperm
    have HNE := Lib.hid hne
    have HM := Lib.hid hmany
    have htl := hL.top
    have htu := hU.top
    have x1 : out.length + left.length ≤ l.length := by omega
    have x2 : l.length ≤ out.length + left.length := by omega
    have HX1 := Lib.hid x1
    have HX2 := Lib.hid x2
    obtain ⟨al, cl, rfl, _⟩ := hL.isRow.opened
    obtain ⟨au, cu, rfl, _⟩ := hU.isRow.opened
    have HLL := Lib.hid hL
    have HUU := Lib.hid hU
    clear hperm hne hmany hlen x1 x2 hL hU
    by_cases hcond : (out.length : Int) < many ∧ 0 < left.length
    · obtain ⟨hc1, hc2⟩ := hcond
      have hc3 : (0 : Int) < (left.length : Int) := by omega
      have hol : out.length < 1000000 := by have := HX1.out; omega
      by_cases hio : out.length < order.length
      · have hz1 : order[out.length]? = some order[out.length] := List.getElem?_eq_getElem hio
        obtain ⟨b1, o1, e0, q1, hiz1, hiz2⟩ := ints_at (HO.out.stays hS.below) hz1
        subst e0
        generalize order[out.length] = z at *
        have hmb := modV_bd z (n := left.length) (by omega)
        clear hz1
        go_wp2_with fail
        refine (at_any _ _ _ (by omega) (by omega) (by omega) (by omega)).mono ?_
        rintro e w' ⟨rfl, rfl⟩
        obtain ⟨j, hj⟩ := Int.eq_ofNat_of_zero_le hmb.1
        rw [hj] at hmb ⊢
        have hj : j < left.length := by omega
        clear hmb q1
        have y1 : (j : Int) < (left.length : Int) := by omega
        have hs : left[j]? = some left[j] := List.getElem?_eq_getElem hj
        obtain ⟨g, cap, u, cq, e1, m1, m2, is1, hfr⟩ := ownShare_at HLL.out hs
        simp only [Value.slice.injEq, true_and] at e1
        obtain ⟨rfl, rfl⟩ := e1
        have hpe := Lib.hid (erase_perm hj)
        generalize left[j] = sh at *
        have HFR : Hid (Framed (fun k => (Value.slice au out.length cu).ownBlock = some k ∨ W.heap.size ≤ k) RShare (wr.alloc (.cells #[.int .i64 sh.1, .slice u sh.2.length cq] 33)) [.int .i64 sh.1, .slice u sh.2.length cq] sh) := Lib.hid ((hfr.mono (fun k _ hk => Or.inr (hk.elim (fun h => (HUU.out.lt k h).1) id))).step (Dirty.old (below_alloc _ _) _))
        have hgr := hS.2
        have hglt := cell_lt m1
        clear hs hfr
        go_wp2_with (at_builtin; refine wpList_append_row rfl _ _ 25 rfl 2 (fun k => W.heap.size ≤ k) 33 Try.underlying25 _ 32 info_shareD rfl (by omega) (by omega) W.heap.size _ out rfl (HUU.out.stays (below_alloc _ _)) ⟨wr.heap.size, 0, none⟩ 1 [.int .i64 sh.1, .slice u sh.2.length cq] sh rfl rfl (by intro w hw; simp at hw; rcases hw with rfl | rfl <;> rfl) (fresh_cellsQ wr [.int .i64 sh.1, .slice u sh.2.length cq] 33 _ rfl) HFR.out (by omega) (by simp; omega) ?_; intro v6 w6 ho6 hg6 hat6)
        have hL6 := (HLL.out.stays (below_alloc wr (.cells #[.int .i64 sh.1, .slice u sh.2.length cq] 33))).kept hg6 (fun k hk => (HUU.out.lt k hk).1) (Or.inr (fun e => HNE.out g rfl e.symm))
        have S6 := (hS.alloc (.cells #[.int .i64 sh.1, .slice u sh.2.length cq] 33)).row (HUU.out.stays (below_alloc wr (.cells #[.int .i64 sh.1, .slice u sh.2.length cq] 33))) hg6
        have hgW := (HLL.out.lt g rfl).1
        refine (DeleteShare_any _ W.heap.size _ left j w6 hL6 hj).mono ?_
        rintro e w7 ⟨⟨v7, rfl, ho7, hown7⟩, hg7⟩
        have hne6 : v6.ownBlock ≠ some g := by
          rcases hat6 with h | h
          · rw [h]; exact HNE.out g rfl
          · rw [h]; simp; omega
        have hU7 := ho6.kept hg7 (fun k hk => by cases hk; exact hgW) (Or.inr hne6)
        have S7 := S6.row hL6 hg7
        have hown7' : v7.ownBlock = some g := hown7
        clear m1 m2 ho6 hg6 hat6 hL6 S6 hS hg7 hown7
        go_wp2_with fail
        go_roundw
        case rel =>
          refine ⟨out ++ [sh], left.eraseIdx j, by simp, S7, ho7, hU7, fun k hk => ?_, ?_, ?_, ?_⟩
          · rw [hown7'] at hk
            cases hk
            exact hne6
          · rw [List.append_assoc]
            exact (List.Perm.append_left out hpe.out).trans HP.out
          · have h1 := HX1.out
            have h2 := HX2.out
            simp [List.length_eraseIdx, hj]
            omega
          · left; simp; omega
        case measure =>
          have h1 := HX1.out
          simp [intOf]
          omega
      · have hio2 : ¬ ((out.length : Int) < (order.length : Int)) := by omega
        have hj : 0 < left.length := hc2
        have hs : left[0]? = some left[0] := List.getElem?_eq_getElem hj
        obtain ⟨g, cap, u, cq, e1, m1, m2, is1, hfr⟩ := ownShare_at HLL.out hs
        simp only [Value.slice.injEq, true_and] at e1
        obtain ⟨rfl, rfl⟩ := e1
        have hpe := Lib.hid (erase_perm hj)
        generalize left[0] = sh at *
        simp only [Nat.zero_mul, Nat.zero_add] at m1 m2
        have HFR : Hid (Framed (fun k => (Value.slice au out.length cu).ownBlock = some k ∨ W.heap.size ≤ k) RShare (wr.alloc (.cells #[.int .i64 sh.1, .slice u sh.2.length cq] 33)) [.int .i64 sh.1, .slice u sh.2.length cq] sh) := Lib.hid ((hfr.mono (fun k _ hk => Or.inr (hk.elim (fun h => (HUU.out.lt k h).1) id))).step (Dirty.old (below_alloc _ _) _))
        have hgr := hS.2
        have hglt := cell_lt m1
        clear hs hfr
        go_wp2_with (at_builtin; refine wpList_append_row rfl _ _ 25 rfl 2 (fun k => W.heap.size ≤ k) 33 Try.underlying25 _ 32 info_shareD rfl (by omega) (by omega) W.heap.size _ out rfl (HUU.out.stays (below_alloc _ _)) ⟨wr.heap.size, 0, none⟩ 1 [.int .i64 sh.1, .slice u sh.2.length cq] sh rfl rfl (by intro w hw; simp at hw; rcases hw with rfl | rfl <;> rfl) (fresh_cellsQ wr [.int .i64 sh.1, .slice u sh.2.length cq] 33 _ rfl) HFR.out (by omega) (by simp; omega) ?_; intro v6 w6 ho6 hg6 hat6)
        have hL6 := (HLL.out.stays (below_alloc wr (.cells #[.int .i64 sh.1, .slice u sh.2.length cq] 33))).kept hg6 (fun k hk => (HUU.out.lt k hk).1) (Or.inr (fun e => HNE.out g rfl e.symm))
        have S6 := (hS.alloc (.cells #[.int .i64 sh.1, .slice u sh.2.length cq] 33)).row (HUU.out.stays (below_alloc wr (.cells #[.int .i64 sh.1, .slice u sh.2.length cq] 33))) hg6
        have hgW := (HLL.out.lt g rfl).1
        refine (DeleteShare_any _ W.heap.size _ left 0 w6 hL6 hj).mono ?_
        rintro e w7 ⟨⟨v7, rfl, ho7, hown7⟩, hg7⟩
        have hne6 : v6.ownBlock ≠ some g := by
          rcases hat6 with h | h
          · rw [h]; exact HNE.out g rfl
          · rw [h]; simp; omega
        have hU7 := ho6.kept hg7 (fun k hk => by cases hk; exact hgW) (Or.inr hne6)
        have S7 := S6.row hL6 hg7
        have hown7' : v7.ownBlock = some g := hown7
        clear m1 m2 ho6 hg6 hat6 hL6 S6 hS hg7 hown7
        go_wp2_with fail
        go_roundw
        case rel =>
          refine ⟨out ++ [sh], left.eraseIdx 0, by simp, S7, ho7, hU7, fun k hk => ?_, ?_, ?_, ?_⟩
          · rw [hown7'] at hk
            cases hk
            exact hne6
          · rw [List.append_assoc]
            exact (List.Perm.append_left out hpe.out).trans HP.out
          · have h1 := HX1.out
            have h2 := HX2.out
            simp
            omega
          · left; simp; omega
        case measure =>
          have h1 := HX1.out
          simp [intOf]
          omega
    · have hfin : (left = [] ∨ many ≤ out.length) := by
        by_cases h : 0 < left.length
        · exact Or.inr (by omega)
        · exact Or.inl (List.eq_nil_of_length_eq_zero (by omega))
      have HFIN := Lib.hid hfin
      by_cases h1 : (out.length : Int) < many
      · have h2 : left.length = 0 := by omega
        have h3 : ¬ ((0 : Int) < (left.length : Int)) := by omega
        clear hfin hcond h2
        go_wp2_with fail
        go_ret
        exact ⟨⟨_, rfl, _, HUU.out, _, HP.out, HFIN.out, HM.out⟩, hS.below⟩
      · clear hfin hcond
        go_wp2_with fail
        go_ret
        exact ⟨⟨_, rfl, _, HUU.out, _, HP.out, HFIN.out, HM.out⟩, hS.below⟩

end Go.Proofs.Ytnpdojjffbhalaa
