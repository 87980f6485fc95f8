/-
  The walk of the law's 'at'.
  The walk of the law's picked.
  The walks of the reference's places and ShareOf.
  The walk of the reference's Splits.
  The walk of the reference's CheckShares.
  The walk of the reference's made, of right shares.
  The plain law of the reference's Joins: what the first shares make is what Join makes, and all shares are of it exactly if no row is torn.
  The plain law of the vote: a content that has enough of the shares is the best one; what two contents have in common.
-/
import Derived.Test.YtnpdojjffbhalaaGreatBase
import Derived.Test.YtnpdojjffbhalaaGreatTries
import Derived.Test.YtnpdojjffbhalaaGreatCopies
import Derived.Test.YtnpdojjffbhalaaGreatShares
import Derived.Test.YtnpdojjffbhalaaGreatBooks
namespace Go.Proofs.YtnpdojjffbhalaaGreat
open Go.RowKit

set_option maxHeartbeats 400000 in
theorem at_any (k n : Int) (w : World) (h0 : -9223372036854775808 ≤ k) (h1 : k ≤ 9223372036854775807) (h2 : 1 ≤ n) (h3 : n ≤ 1000000) :
    Calls Tryz.prog 10 #[.int .i64 k, .int .i64 n] w fun e w' => e = .returned (.int .i64 (modV k n)) ∧ w = w' := by
  have hn : (n == 0) = false := by simp; omega
  by_cases hk : 0 ≤ k
  · have hb : 0 ≤ k % n := Int.emod_nonneg _ (by omega)
    go_enter Tryz.func10, Tryz.ntmps10
    go_wp2
    go_ret
    exact ⟨ret_int rfl, rfl⟩
  · have ht := tmod_lo k n (by omega) h2
    obtain ⟨t0, t1, t2, t3⟩ := ht
    have T2 := Lib.hid t2
    have T3 := Lib.hid t3
    clear t2 t3
    by_cases hlt : k.tmod n < 0
    · go_enter Tryz.func10, Tryz.ntmps10
      go_wp2
      go_ret
      exact ⟨ret_int (T2.out hlt), rfl⟩
    · go_enter Tryz.func10, Tryz.ntmps10
      go_wp2
      go_ret
      exact ⟨ret_int (T3.out (by omega)), rfl⟩

end Go.Proofs.YtnpdojjffbhalaaGreat

namespace Go.Proofs.YtnpdojjffbhalaaGreat
open Go.RowKit

theorem ownShare_at {E : Nat → Prop} {w : World} {e : TypeId} {base : Nat} {v : Value} {ls : List Sh} (h : OwnRow 2 RShare E w e base v ls) {i : Nat} {s : Sh} (hs : ls[i]? = some s) :
    ∃ g cap u c, v = .slice (some ⟨g, 0, none⟩) ls.length cap ∧ w.cell? ⟨g, i * 2, none⟩ = some (.int .i64 s.1) ∧ w.cell? ⟨g, i * 2 + 1, none⟩ = some (.slice u s.2.length c) ∧ I64 s.1 ∧ Framed (fun k => v.ownBlock = some k ∨ E k) RShare w [.int .i64 s.1, .slice u s.2.length c] s := by
  obtain ⟨r, g, hg, hl, h1, hc, hf⟩ := h.get hs
  rcases h.shape with ⟨rfl, rfl⟩ | ⟨g', cap, cur, rfl, _⟩
  · simp at hs
  · simp only [Value.ownBlock, Option.some.injEq] at hg
    subst hg
    obtain ⟨u, rfl, hu, i1⟩ := hf.now
    obtain ⟨a, c, rfl, _⟩ := hu.opened
    exact ⟨g', cap, a, c, rfl, hc 0 _ rfl, hc 1 _ rfl, i1, hf⟩

/-- It stands while blocks of E are changed, and new ones made; it is framed by other blocks then, of which none was there but those of E. -/
theorem OwnRow.moved {α : Type} {R : Rd α} {sz : Nat} {E E' : Nat → Prop} {w w' : World} {e : TypeId} {base : Nat} {v : Value} {l : List α} (h : OwnRow sz R E w e base v l) (hw : Dirty E w w') (hv : ∀ k, v.ownBlock = some k → ¬ E k) (hE : ∀ k, k < w.heap.size → E' k → E k ∨ v.ownBlock = some k) : OwnRow sz R E' w' e base v l := by
  obtain ⟨rows, ⟨h1, h1'⟩, h2, h3, h4⟩ := h.row
  refine ⟨h.top, rows, ⟨h1, ?_⟩, h2, h3, fun i r x hr hx => (h4 i r x hr hx).move (hw.mono fun k _ hk => Or.inr hk) (fun k hk hh => ?_)⟩
  · rcases h1' with h1' | ⟨g, cap, cur, h5, h6, h7, h8⟩
    · exact .inl h1'
    · exact .inr ⟨g, cap, cur, h5, h6, (hw.2 g (Array.getElem?_eq_some_iff.1 h7).1 (hv g (by rw [h5]; rfl))).trans h7, h8⟩
  · rcases hh with hh | hh
    · exact Or.inl hh
    · rcases hE k hk hh with h5 | h5
      · exact Or.inr h5
      · exact Or.inl h5
theorem erase_perm {α : Type} {l : List α} {k : Nat} (h : k < l.length) : (l[k] :: l.eraseIdx k).Perm l := by
  rw [List.eraseIdx_eq_take_drop_succ]
  conv => rhs; rw [← List.take_append_drop k l, List.drop_eq_getElem_cons h]
  exact List.perm_middle.symm
theorem fresh_cellsQ (w : World) (l : List Value) (T : TypeId) (n : Nat) (hn : n = w.heap.size) : ∀ j u, l[j]? = some u → (w.alloc (.cells l.toArray T)).cell? ((⟨n, 0, none⟩ : Addr).add j) = some u := by
  intro j u h
  subst hn
  rw [add_none', Nat.zero_add]
  unfold World.cell? World.alloc
  simpa using h

end Go.Proofs.YtnpdojjffbhalaaGreat

namespace Go.Proofs.YtnpdojjffbhalaaGreat
open Go.RowKit

theorem placesL_step (k : Nat) : placesL (k + 1) = placesL k ++ [(k : Int)] := by simp [placesL, List.range_succ]

theorem rowL_get_lt {n : Nat} {data : List Int} {r j : Nat} {z : Int} (h : data[r * n + j]? = some z) : data.getD (r * n + j) 0 = z := by simp [List.getD_eq_getElem?_getD, h]
/-- On the way: the first m of a row are filled. -/
def fillL (n : Nat) (data : List Int) (r m : Nat) : List Int := (List.range m).map (fun j => data.getD (r * n + j) 0) ++ List.replicate (n - m) 0
theorem fillL_zero (n : Nat) (data : List Int) (r : Nat) : fillL n data r 0 = List.replicate n 0 := by simp [fillL]
theorem fillL_all (n : Nat) (data : List Int) (r : Nat) : fillL n data r n = rowL n data r := by simp [fillL, rowL]
theorem fillL_len {n m : Nat} (data : List Int) (r : Nat) (h : m ≤ n) : (fillL n data r m).length = n := by simp [fillL]; omega
theorem fillL_step {n m : Nat} (data : List Int) (r : Nat) (h : m < n) {z : Int} (hz : data.getD (r * n + m) 0 = z) : (fillL n data r m).set m z = fillL n data r (m + 1) := by
  subst hz
  have hl : ((List.range m).map (fun j => data.getD (r * n + j) 0)).length = m := by simp
  unfold fillL
  rw [List.set_append_right _ _ (by rw [hl]; exact Nat.le_refl _), hl, Nat.sub_self, show n - m = (n - (m + 1)) + 1 by omega, List.replicate_succ, List.set_cons_zero, List.range_succ, List.map_append]
  simp
theorem fillL_skip {n m : Nat} (data : List Int) (r : Nat) (h : m < n) (hz : data.length ≤ r * n + m) : fillL n data r m = fillL n data r (m + 1) := by
  have h1 : data.getD (r * n + m) 0 = 0 := by simp [List.getD_eq_getElem?_getD, List.getElem?_eq_none hz]
  have h2 := fillL_step data r h h1
  rw [← h2]
  symm
  apply List.ext_getElem?
  intro j
  rw [List.getElem?_set]
  by_cases hj : m = j
  · subst hj
    have hl : ((List.range m).map (fun j => data.getD (r * n + j) 0)).length = m := by simp
    rw [if_pos rfl, if_pos (by rw [fillL_len data r (by omega)]; exact h)]
    unfold fillL
    rw [List.getElem?_append_right (by rw [hl]; exact Nat.le_refl _), hl, Nat.sub_self, List.getElem?_replicate, if_pos (by omega)]
  · rw [if_neg hj]

def ShS (B3 B6 B7 : Nat) (n k : Int) (vv : Value) (w : World) : Prop :=
  w.cell? ⟨B3, 0, none⟩ = some (.int .i64 n) ∧ w.cell? ⟨B6, 0, none⟩ = some (.int .i64 0) ∧ w.cell? ⟨B6, 1, none⟩ = some (.slice none 0 0) ∧ w.frozen? ⟨B6, 0, none⟩ = false ∧ w.frozen? ⟨B6, 1, none⟩ = false ∧
  w.cell? ⟨B7, 0, none⟩ = some (.int .i64 k) ∧ w.cell? ⟨B7, 1, none⟩ = some vv ∧ w.frozen? ⟨B7, 1, none⟩ = false ∧ w.frozen? ⟨B7, 0, none⟩ = false
section
variable {B3 B6 B7 : Nat} {n k : Int} {vv : Value} {w w' : World}
theorem ShS.grown {row : Option Nat} (h : ShS B3 B6 B7 n k vv w) (hg : w.grownBy w' row) (n3 : some B3 ≠ row) (n6 : some B6 ≠ row) (n7 : some B7 ≠ row) : ShS B3 B6 B7 n k vv w' := by
  obtain ⟨h0, h1, h2, h3, h4, h5, h6, h7, h8⟩ := h
  exact ⟨hg.cell h0 n3, hg.cell h1 n6, hg.cell h2 n6, grown_free hg h1 h3 n6, grown_free hg h2 h4 n6, hg.cell h5 n7, hg.cell h6 n7, grown_free hg h6 h7 n7, grown_free hg h5 h8 n7⟩
theorem ShS.below (h : ShS B3 B6 B7 n k vv w) (hb : Below w.heap.size w w') : ShS B3 B6 B7 n k vv w' := h.grown (grown_of_below hb) (by simp) (by simp) (by simp)
theorem ShS.set7 (h : ShS B3 B6 B7 n k vv w) (n3 : B3 ≠ B7) (n6 : B6 ≠ B7) (v : Value) : ShS B3 B6 B7 n k v (w.setCell ⟨B7, 1, none⟩ v) := by
  obtain ⟨h0, h1, h2, h3, h4, h5, h6, h7, h8⟩ := h
  exact ⟨(cell_set_other w B7 1 v n3).trans h0, (cell_set_other w B7 1 v n6).trans h1, (cell_set_other w B7 1 v n6).trans h2, (free_set_other w B7 1 v n6).trans h3, (free_set_other w B7 1 v n6).trans h4, by go_simp, by go_simp, by go_simp, by go_simp⟩
end

end Go.Proofs.YtnpdojjffbhalaaGreat

namespace Go.Proofs.YtnpdojjffbhalaaGreat
open Go.RowKit

theorem sharesL_step (n : Nat) (data : List Int) (k r : Nat) : sharesL n data (k + 1) r = sharesL n data k r ++ [shareL n data r k] := by simp [sharesL, List.range_succ]

end Go.Proofs.YtnpdojjffbhalaaGreat

namespace Go.Proofs.YtnpdojjffbhalaaGreat
open Go.RowKit

theorem hasN_take {ls : List Sh} {k : Nat} {t : Sh} (h : ls[k]? = some t) (M : Int) : hasN (ls.take (k + 1)) M = (hasN (ls.take k) M || decide (t.1 = M)) := by
  rw [take_get h]
  simp [hasN]
/-- The table of the places seen. -/
def SeenAt (B : Nat) (l : List Sh) (w : World) : Prop := ∀ j : Nat, j < 8 → w.cell? ⟨B, j, none⟩ = some (.bool (hasN l (j : Int))) ∧ w.frozen? ⟨B, j, none⟩ = false
theorem SeenAt.below {B : Nat} {l : List Sh} {w w' : World} (h : SeenAt B l w) (hb : Below w.heap.size w w') : SeenAt B l w' := fun j hj => ⟨below_cell hb (h j hj).1, below_free hb (h j hj).1 (h j hj).2⟩
theorem SeenAt.set {B : Nat} {l l' : List Sh} {w : World} {N : Nat} (h : SeenAt B l w) (hN : N < 8) (hl : ∀ M : Int, hasN l' M = (hasN l M || decide ((N : Int) = M))) : SeenAt B l' (w.setCell ⟨B, N, none⟩ (.bool true)) := by
  intro j hj
  obtain ⟨h1, h2⟩ := h j hj
  obtain ⟨g1, g2⟩ := h N hN
  by_cases hjN : N = j
  · subst hjN
    refine ⟨?_, ?_⟩
    · rw [hl]
      simpa using World.cell?_setCell_same _ _ _ g1
    · go_simp
  · refine ⟨?_, ?_⟩
    · rw [hl, (World.cell?_setCell_other (a := ⟨B, N, none⟩) (b := ⟨B, j, none⟩) _ _ (by intro e; have : N = j := congrArg Addr.off e; exact hjN this)), h1]
      have : decide ((N : Int) = (j : Int)) = false := by simp; omega
      rw [this, Bool.or_false]
    · rw [World.frozen?_setCell]
      exact h2

end Go.Proofs.YtnpdojjffbhalaaGreat

namespace Go.Proofs.YtnpdojjffbhalaaGreat
open Go.RowKit

/-- What the first shares make: behind it only noughts? -/
def madeB (n s : Nat) (ls : List Sh) : Bool := !hasNot ((dataL n ls (rowsN n s)).drop s)
def madeC (n s : Nat) (ls : List Sh) : List Int := if madeB n s ls = true then (dataL n ls (rowsN n s)).take s else []
theorem madeC_ok {n s : Nat} {ls : List Sh} (h : madeB n s ls = true) : madeC n s ls = (dataL n ls (rowsN n s)).take s := by unfold madeC; rw [if_pos h]
theorem ret_ib {v : Value} {a b : Bool} (h : a = b) : Ending.returned (.tuple #[v, .bool a]) = .returned (.tuple #[v, .bool b]) := by rw [h]

end Go.Proofs.YtnpdojjffbhalaaGreat

namespace Go.Proofs.YtnpdojjffbhalaaGreat

section
variable {n o s : Nat} {ls : List Sh}
theorem made_row (_h : Right n o s ls) (hm : madeB n s ls = true) {i j : Nat} (hi : i < rowsN n s) (hj : j < n) : (madeC n s ls).getD (i * n + j) 0 = atV (xsL n ls) (ysL n ls i) (j : Int) := by
  have hg := dataL_get n ls hj (rowsN n s) hi
  rw [madeC_ok hm, List.getD_eq_getElem?_getD]
  by_cases hlt : i * n + j < s
  · rw [List.getElem?_take, if_pos hlt, hg]
    rfl
  · rw [List.getElem?_take, if_neg hlt]
    have h3 : ((dataL n ls (rowsN n s)).drop s)[i * n + j - s]? = some (atV (xsL n ls) (ysL n ls i) (j : Int)) := by
      rw [List.getElem?_drop, show s + (i * n + j - s) = i * n + j by omega]
      exact hg
    have h4 := List.mem_of_getElem? h3
    unfold madeB at hm
    simp [hasNot] at hm
    exact (hm _ h4).symm
theorem made_part (h : Right n o s ls) (hm : madeB n s ls = true) {i : Nat} (hi : i < rowsN n s) (k : Nat) : partV n (madeC n s ls) k i = atV (xsL n ls) (ysL n ls i) (k : Int) := by
  obtain ⟨p1, p2, p3, p4, p5, p6⟩ := planV_bd h.plan
  have hrow : rowL n (madeC n s ls) i = (placesL n).map (atV (xsL n ls) (ysL n ls i)) := by
    apply List.ext_getElem?
    intro j
    by_cases hj : j < n
    · rw [rowL_get _ _ hj, made_row h hm hi hj, List.getElem?_map, placesL_get hj]
      rfl
    · rw [List.getElem?_eq_none (by rw [rowL_len]; omega), List.getElem?_eq_none (by rw [List.length_map, placesL_len]; omega)]
  unfold partV
  rw [hrow]
  refine (atV_same (h.pts i) ?_ (numsL_places (by omega)) ?_).2 _
  · unfold placesL
    refine List.pairwise_map.2 (List.Pairwise.imp ?_ List.pairwise_lt_range)
    intro a b hab e
    omega
  · have := h.few
    rw [placesL_len]
    simp [xsL]; omega
/-- Is a share of what the first ones make? -/
def ofMade (n s : Nat) (ls : List Sh) (t : Sh) : Bool := sameV t.1 t.1 t.2 (shareL n (madeC n s ls) (rowsN n s) t.1.toNat).2
theorem ofMade_iff (h : Right n o s ls) (hm : madeB n s ls = true) {t : Sh} (ht : t ∈ ls) : ofMade n s ls t = true ↔ ∀ i, i < rowsN n s → atV (xsL n ls) (ysL n ls i) t.1 = t.2.getD i 0 := by
  have hn := h.num t ht
  have hl := h.len t ht
  have hk : ((t.1.toNat : Nat) : Int) = t.1 := by omega
  have e : ofMade n s ls t = true ↔ t.2 = (shareL n (madeC n s ls) (rowsN n s) t.1.toNat).2 := by
    unfold ofMade sameV eqInts
    simp
  rw [e]
  constructor
  · intro he i hi
    have h1 := made_part h hm hi t.1.toNat
    rw [hk] at h1
    rw [← h1, List.getD_eq_getElem?_getD]
    conv => rhs; rw [he]
    rw [shareL_get _ _ _ hi]
    rfl
  · intro hh
    apply List.ext_getElem?
    intro i
    by_cases hi : i < rowsN n s
    · have h1 := made_part h hm hi t.1.toNat
      rw [hk] at h1
      rw [shareL_get _ _ _ hi, h1, hh i hi, List.getD_eq_getElem?_getD, List.getElem?_eq_getElem (by omega)]
      rfl
    · rw [List.getElem?_eq_none (by omega), List.getElem?_eq_none (by rw [shareL_len]; omega)]
theorem all_ofMade (h : Right n o s ls) (hm : madeB n s ls = true) : ls.all (ofMade n s ls) = !tornsL n ls (rowsN n s) := by
  rw [Bool.eq_iff_iff, List.all_eq_true, Bool.not_eq_true', tornsL, List.any_eq_false]
  constructor
  · intro hall i hi
    have hi := List.mem_range.1 hi
    unfold tornL
    rw [Bool.not_eq_true, List.any_eq_false]
    intro t ht
    have h1 := (ofMade_iff h hm (List.mem_of_mem_drop ht)).1 (hall t (List.mem_of_mem_drop ht)) i hi
    simp [h1]
  · intro hall t ht
    refine (ofMade_iff h hm ht).2 fun i hi => ?_
    obtain ⟨m, hmt⟩ := List.getElem?_of_mem ht
    by_cases hmn : m < n
    · have hl := h.len t ht
      have hti : t.2[i]? = some t.2[i] := List.getElem?_eq_getElem (by omega)
      rw [List.getD_eq_getElem?_getD, hti]
      refine atV_through (h.pts i) (m := m) ?_ ?_
      · unfold xsL
        rw [List.getElem?_map, List.getElem?_take, if_pos hmn, hmt]
        rfl
      · unfold ysL
        rw [List.getElem?_map, List.getElem?_take, if_pos hmn, hmt]
        simp [List.getD_eq_getElem?_getD, hti]
    · have hd : t ∈ ls.drop n := by
        refine List.mem_of_getElem? (i := m - n) ?_
        rw [List.getElem?_drop, show n + (m - n) = m by omega]
        exact hmt
      have h1 := hall i (List.mem_range.2 hi)
      unfold tornL at h1
      rw [Bool.not_eq_true, List.any_eq_false] at h1
      have h2 := h1 t hd
      simpa using h2
theorem joins_E (h : Right n o s ls) (hc : checksL n o s ls = 0) : joinE n o s ls = if madeB n s ls = true ∧ ls.all (ofMade n s ls) = true then 0 else 9 := by
  unfold joinE
  rw [if_neg (by simpa using hc)]
  by_cases hm : madeB n s ls = true
  · rw [all_ofMade h hm]
    have hn : hasNot ((dataL n ls (rowsN n s)).drop s) = false := by unfold madeB at hm; simpa using hm
    cases tornsL n ls (rowsN n s) <;> simp [hm, hn]
  · have hn : hasNot ((dataL n ls (rowsN n s)).drop s) = true := by unfold madeB at hm; simpa using hm
    cases tornsL n ls (rowsN n s) <;> simp [hm, hn]
theorem joins_C (h : Right n o s ls) (hc : checksL n o s ls = 0) (hm : madeB n s ls = true) (ha : ls.all (ofMade n s ls) = true) : joinE n o s ls = 0 ∧ joinC n o s ls = madeC n s ls := by
  have hE : joinE n o s ls = 0 := by rw [joins_E h hc, if_pos ⟨hm, ha⟩]
  exact ⟨hE, by rw [joinC_ok hE, madeC_ok hm]; rfl⟩
theorem joins_9 (h : Right n o s ls) (hc : checksL n o s ls = 0) (hn : ¬ (madeB n s ls = true ∧ ls.all (ofMade n s ls) = true)) : joinE n o s ls = 9 ∧ joinC n o s ls = [] := by
  have hE : joinE n o s ls = 9 := by rw [joins_E h hc, if_neg hn]
  exact ⟨hE, joinC_err (by rw [hE]; omega)⟩
theorem made_nums (_h : Right n o s ls) (hm : madeB n s ls = true) : ∀ z ∈ madeC n s ls, 0 ≤ z ∧ z < 31 := by
  intro z hz
  rw [madeC_ok hm] at hz
  have hz := List.mem_of_mem_take hz
  unfold dataL at hz
  rw [List.mem_flatten] at hz
  obtain ⟨r, hr, hz⟩ := hz
  obtain ⟨i, _, rfl⟩ := List.mem_map.1 hr
  unfold outL outK at hz
  obtain ⟨j, _, rfl⟩ := List.mem_map.1 hz
  exact atV_bd _ _ _
end
end Go.Proofs.YtnpdojjffbhalaaGreat

namespace Go.Proofs.YtnpdojjffbhalaaGreat

theorem ofD_iff {n r : Nat} {data : List Int} {t : Sh} (h : 0 ≤ t.1) : ofD n r data t = true ↔ t = shareL n data r t.1.toNat := by
  obtain ⟨a, l⟩ := t
  have e : ((a.toNat : Nat) : Int) = a := by simp only at h; omega
  unfold ofD sameV eqInts shareL
  simp only [decide_true, Bool.true_and, decide_eq_true_eq, Prod.mk.injEq, e, true_and]
theorem count_both {α : Type} (p q : α → Bool) : ∀ l : List α, l.countP q + l.countP p ≤ l.countP (fun x => p x && q x) + l.length
  | [] => by simp
  | x :: l => by
    have := count_both p q l
    simp only [List.countP_cons, List.length_cons]
    cases p x <;> cases q x <;> simp <;> omega

section
variable {n o s : Nat} {ls : List Sh}
theorem someOf_ofD (hR : Right n o s ls) {data : List Int} {pk : List Sh} (hs : pk.Sublist ls) (h : ∀ t ∈ pk, ofD n (rowsN n s) data t = true) : SomeOf n data o (rowsN n s) pk :=
  ⟨fun t ht => by
    have hn := hR.num t (hs.subset ht)
    exact ⟨t.1.toNat, by omega, (ofD_iff hn.1).1 (h t ht)⟩, hR.nodup.sublist (hs.map _)⟩
theorem join_all (hR : Right n o s ls) (hj : joinE n o s ls = 0) : ∀ t ∈ ls, ofD n (rowsN n s) (joinC n o s ls) t = true := by
  have h1 := joins_E hR hR.checks
  rw [hj] at h1
  split at h1
  · rename_i h2
    rw [(joins_C hR hR.checks h2.1 h2.2).2]
    intro t ht
    exact List.all_eq_true.1 h2.2 t ht
  · cases h1
theorem join_data (hR : Right n o s ls) (hj : joinE n o s ls = 0) : (joinC n o s ls).length = s ∧ ∀ z ∈ joinC n o s ls, 0 ≤ z ∧ z < 31 := by
  obtain ⟨_, h2, h3⟩ := splitE_ok (join_split hR hj)
  exact ⟨by omega, h3⟩
/-- Of n shares there is one content at most. -/
theorem two_alike (hR : Right n o s ls) {D E : List Int} (hD : D.length = s) (hd : ∀ z ∈ D, 0 ≤ z ∧ z < 31) (hE : E.length = s) (he : ∀ z ∈ E, 0 ≤ z ∧ z < 31)
    (h : n ≤ ls.countP (fun t => ofD n (rowsN n s) D t && ofD n (rowsN n s) E t)) : D = E := by
  rw [List.countP_eq_length_filter] at h
  have hs : (ls.filter (fun t => ofD n (rowsN n s) D t && ofD n (rowsN n s) E t)).Sublist ls := List.filter_sublist
  have hm : ∀ t ∈ ls.filter (fun t => ofD n (rowsN n s) D t && ofD n (rowsN n s) E t), ofD n (rowsN n s) D t = true ∧ ofD n (rowsN n s) E t = true := fun t ht => by
    have := (List.mem_filter.1 ht).2
    simpa using this
  have h1 := (someOf_ofD hR hs fun t ht => (hm t ht).1).joins hR.plan hD hd h
  have h2 := (someOf_ofD hR hs fun t ht => (hm t ht).2).joins hR.plan hE he h
  rw [← h1.2, h2.2]

theorem fold_best {D : List Int} : ∀ (cs : List (List Sh)) (st : Vs), (∀ c ∈ cs, joinE n o s c = 0 → joinC n o s c = D ∨ (idxF (ofD n (rowsN n s) (joinC n o s c)) 0 ls).length < (idxF (ofD n (rowsN n s) D) 0 ls).length) →
    (st = (D, idxF (ofD n (rowsN n s) D) 0 ls) ∨ (st.2.length < (idxF (ofD n (rowsN n s) D) 0 ls).length ∧ ∃ c ∈ cs, joinE n o s c = 0 ∧ joinC n o s c = D)) → cs.foldl (fun st c => castV n o s ls c st) st = (D, idxF (ofD n (rowsN n s) D) 0 ls)
  | [], st, _, h => by
    rcases h with h | ⟨_, c, hc, _⟩
    · exact h
    · simp at hc
  | c :: cs, st, hc, h => by
    rw [List.foldl_cons]
    refine fold_best cs _ (fun d hd => hc d (by simp [hd])) ?_
    have h0 := hc c (by simp)
    unfold castV
    by_cases hj : joinE n o s c = 0
    · rw [if_neg (by simpa using hj)]
      rcases h with h | ⟨h1, d, hd, h2, h3⟩
      · left
        subst h
        rcases h0 hj with e | e
        · rw [e, if_neg (by simp)]
        · rw [if_neg (by simp only; omega)]
      · rcases h0 hj with e | e
        · left
          rw [e, if_pos h1]
        · right
          have hd' : d ∈ cs := by
            rcases List.mem_cons.1 hd with rfl | hd
            · rw [h3] at e; omega
            · exact hd
          refine ⟨?_, d, hd', h2, h3⟩
          split
          · exact e
          · exact h1
    · rw [if_pos hj]
      rcases h with h | ⟨h1, d, hd, h2, h3⟩
      · exact Or.inl h
      · right
        refine ⟨h1, d, ?_, h2, h3⟩
        rcases List.mem_cons.1 hd with rfl | hd
        · exact absurd h2 hj
        · exact hd
theorem fold_max : ∀ (cs : List (List Sh)) (st : Vs), st.2.length ≤ (cs.foldl (fun st c => castV n o s ls c st) st).2.length ∧ ∀ c ∈ cs, joinE n o s c = 0 → (idxF (ofD n (rowsN n s) (joinC n o s c)) 0 ls).length ≤ (cs.foldl (fun st c => castV n o s ls c st) st).2.length
  | [], st => ⟨Nat.le_refl _, by simp⟩
  | c :: cs, st => by
    rw [List.foldl_cons]
    obtain ⟨h1, h2⟩ := fold_max cs (castV n o s ls c st)
    have h3 : st.2.length ≤ (castV n o s ls c st).2.length ∧ (joinE n o s c = 0 → (idxF (ofD n (rowsN n s) (joinC n o s c)) 0 ls).length ≤ (castV n o s ls c st).2.length) := by
      unfold castV
      by_cases hj : joinE n o s c = 0
      · rw [if_neg (by simpa using hj)]
        split
        · rename_i h9
          exact ⟨Nat.le_of_lt h9, fun _ => Nat.le_refl _⟩
        · exact ⟨Nat.le_refl _, fun _ => by omega⟩
      · rw [if_pos hj]
        exact ⟨Nat.le_refl _, fun h => absurd h hj⟩
    refine ⟨Nat.le_trans h3.1 h1, fun d hd hj => ?_⟩
    rcases List.mem_cons.1 hd with rfl | hd
    · exact Nat.le_trans (h3.2 hj) h1
    · exact h2 d hd hj
theorem fold_from : ∀ (cs : List (List Sh)) (st : Vs), cs.foldl (fun st c => castV n o s ls c st) st = st ∨ ∃ c ∈ cs, joinE n o s c = 0 ∧ cs.foldl (fun st c => castV n o s ls c st) st = (joinC n o s c, idxF (ofD n (rowsN n s) (joinC n o s c)) 0 ls)
  | [], st => Or.inl rfl
  | c :: cs, st => by
    rw [List.foldl_cons]
    rcases fold_from cs (castV n o s ls c st) with h | ⟨d, hd, h1, h2⟩
    · rw [h]
      unfold castV
      by_cases hj : joinE n o s c = 0
      · rw [if_neg (by simpa using hj)]
        split
        · exact Or.inr ⟨c, by simp, hj, rfl⟩
        · exact Or.inl rfl
      · rw [if_pos hj]
        exact Or.inl rfl
    · exact Or.inr ⟨d, by simp [hd], h1, h2⟩
theorem finV_fold : finV n o s ls = (combL n [] ls).foldl (fun st c => castV n o s ls c st) ([], []) := tryL_fold _ _ _ _ _
theorem comb_right (hR : Right n o s ls) {c : List Sh} (hc : c ∈ combL n [] ls) : Right n o s c ∧ c.Sublist ls ∧ c.length = n := by
  have hn := (planV_bd hR.plan).1
  obtain ⟨q, rfl, h1, h2⟩ := (mem_combL (by simp; omega)).1 hc
  simp at h2
  exact ⟨hR.sub h1 (by omega), h1, by simpa using h2⟩
theorem mem_comb (hR : Right n o s ls) {c : List Sh} (hs : c.Sublist ls) (hl : c.length = n) : c ∈ combL n [] ls := by
  have hn := (planV_bd hR.plan).1
  exact (mem_combL (by simp; omega)).2 ⟨c, rfl, hs, by simpa using hl⟩
/-- WHERE FEWER THAN HALF OF WHAT IS MORE THAN ENOUGH IS BENT IT IS FOUND. -/
theorem decode (hR : Right n o s ls) {D : List Int} (hl : D.length = s) (hd : ∀ z ∈ D, 0 ≤ z ∧ z < 31) (hg : 2 * (ls.length - ls.countP (ofD n (rowsN n s) D)) ≤ ls.length - n) : finV n o s ls = (D, idxF (ofD n (rowsN n s) D) 0 ls) := by
  have hn := (planV_bd hR.plan).1
  have hfew := hR.few
  have hle := List.countP_le_length (p := ofD n (rowsN n s) D) (l := ls)
  have hgn : n ≤ ls.countP (ofD n (rowsN n s) D) := by omega
  rw [finV_fold]
  refine fold_best _ _ (fun c hc hj => ?_) (Or.inr ⟨by rw [idxF_len]; simp only [List.length_nil]; omega, (ls.filter (ofD n (rowsN n s) D)).take n, ?_, ?_⟩)
  · obtain ⟨h1, h2, h3⟩ := comb_right hR hc
    obtain ⟨h4, h5⟩ := join_data h1 hj
    by_cases he : n ≤ ls.countP (fun t => ofD n (rowsN n s) D t && ofD n (rowsN n s) (joinC n o s c) t)
    · exact Or.inl (two_alike hR hl hd h4 h5 he).symm
    · right
      have h6 := count_both (ofD n (rowsN n s) D) (ofD n (rowsN n s) (joinC n o s c)) ls
      rw [idxF_len, idxF_len]
      omega
  · have hf : (ls.filter (ofD n (rowsN n s) D)).length = ls.countP (ofD n (rowsN n s) D) := by rw [List.countP_eq_length_filter]
    exact mem_comb hR ((List.take_sublist _ _).trans List.filter_sublist) (by rw [List.length_take]; omega)
  · have hf : (ls.filter (ofD n (rowsN n s) D)).length = ls.countP (ofD n (rowsN n s) D) := by rw [List.countP_eq_length_filter]
    refine (someOf_ofD hR ((List.take_sublist _ _).trans List.filter_sublist) fun t ht => (List.mem_filter.1 (List.mem_of_mem_take ht)).2).joins hR.plan hl hd ?_
    rw [List.length_take]
    omega
/-- What Most tells where a content has so many of the shares. -/
theorem most_of (hR : Right n o s ls) {D : List Int} (hf : finV n o s ls = (D, idxF (ofD n (rowsN n s) D) 0 ls)) (hp : 0 < ls.countP (ofD n (rowsN n s) D)) :
    mostE n o s ls = 0 ∧ mostB n o s ls = D ∧ mostW n o s ls = ((ls.filter fun t => !ofD n (rowsN n s) D t).map (·.1)).mergeSort (fun x y => decide (x ≤ y)) := by
  have hE : mostE n o s ls = 0 := by
    rw [mostE_nat hR.checks, hf, if_neg]
    intro h
    have := congrArg List.length h
    rw [idxF_len] at this
    simp only [List.length_nil] at this
    omega
  refine ⟨hE, by rw [mostB_nat hE, hf], ?_⟩
  rw [mostW_nat hE, hf, badF_idx]
/-- With none bent. -/
theorem most_whole {D : List Int} (hp : planV n o s = 0) (hl : D.length = s) (hd : ∀ z ∈ D, 0 ≤ z ∧ z < 31) (h : SomeOf n D o (rowsN n s) ls) (hn : n ≤ ls.length) : mostE n o s ls = 0 ∧ mostB n o s ls = D ∧ mostW n o s ls = [] := by
  have hR := h.right hp hn
  have h1 := (planV_bd hp).1
  have hall : ∀ t ∈ ls, ofD n (rowsN n s) D t = true := fun t ht => by
    obtain ⟨k, _, rfl⟩ := h.of t ht
    exact (ofD_iff (by simp [shareL])).2 (by simp [shareL])
  have hc : ls.countP (ofD n (rowsN n s) D) = ls.length := List.countP_eq_length.2 hall
  obtain ⟨h2, h3, h4⟩ := most_of hR (decode hR hl hd (by omega)) (by omega)
  refine ⟨h2, h3, ?_⟩
  have : (ls.filter fun t => !ofD n (rowsN n s) D t) = [] := by
    rw [List.filter_eq_nil_iff]
    intro t ht
    simp [hall t ht]
  rw [h4, this]
  simp
/-- Where there is an answer: whose it is. -/
theorem most_some (hR : Right n o s ls) (hE : mostE n o s ls = 0) : ∃ c ∈ combL n [] ls, joinE n o s c = 0 ∧ mostB n o s ls = joinC n o s c ∧ finV n o s ls = (joinC n o s c, idxF (ofD n (rowsN n s) (joinC n o s c)) 0 ls) := by
  have h1 := mostE_nat (n := n) (o := o) (s := s) hR.checks
  rw [hE] at h1
  have hne : (finV n o s ls).2 ≠ [] := by
    intro h
    rw [if_pos h] at h1
    cases h1
  rcases fold_from (n := n) (o := o) (s := s) (ls := ls) (combL n [] ls) ([], []) with h | ⟨c, hc, hj, h⟩
  · rw [← finV_fold] at h
    rw [h] at hne
    exact absurd rfl hne
  · rw [← finV_fold] at h
    exact ⟨c, hc, hj, by rw [mostB_nat hE, h], h⟩
theorem comb_count (hR : Right n o s ls) {c : List Sh} (hc : c ∈ combL n [] ls) (hj : joinE n o s c = 0) : n ≤ ls.countP (ofD n (rowsN n s) (joinC n o s c)) := by
  obtain ⟨h1, h2, h3⟩ := comb_right hR hc
  have := List.Sublist.countP_le (p := ofD n (rowsN n s) (joinC n o s c)) h2
  rw [List.countP_eq_length.2 (join_all h1 hj), h3] at this
  exact this
end
end Go.Proofs.YtnpdojjffbhalaaGreat
