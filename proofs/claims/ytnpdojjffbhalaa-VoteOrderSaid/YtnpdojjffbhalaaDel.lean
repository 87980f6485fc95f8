/-
  slices.Delete of one share out of an own row, slices.Clone of a slice of shares.
-/
import Derived.Test.YtnpdojjffbhalaaSplit2
import Derived.Test.YtnpdojjffbhalaaDelF
import Derived.Deep.RegionLaw
namespace Go.Proofs.Ytnpdojjffbhalaa
open Go.RowKit

theorem info_shareD : (Try.prog.info? 33).map (fun i => (i.zero, i.size, i.bytes)) = some (some (.agg #[.int .i64 0, .slice none 0 0]), 2, 32) := by kernel_rfl
theorem zero_share (w : World) : (zeroValue 33).run Try.prog w = .ok (.agg #[.int .i64 0, .slice none 0 0]) w := by kernel_rfl
theorem RShare.one : RShare.One := by
  rintro w cs x ⟨v, rfl, h, _⟩ c hc
  obtain ⟨a, cp, rfl, _⟩ := h.opened
  simp at hc
  rcases hc with rfl | rfl <;> rfl

theorem flatten_drop {sz : Nat} : ∀ {rows : List (List Value)} (n : Nat), (∀ r ∈ rows, r.length = sz) → (rows.drop n).flatten = rows.flatten.drop (n * sz)
  | [], n, _ => by simp
  | q :: rows, 0, _ => by simp
  | q :: rows, n + 1, hs => by
    have hq := hs q (by simp)
    rw [List.drop_succ_cons, List.flatten_cons, flatten_drop n (fun r hr => hs r (by simp [hr])), List.drop_append, hq, List.drop_of_length_le (l := q) (by rw [hq, Nat.add_mul]; omega), List.nil_append]
    rw [show (n + 1) * sz - sz = n * sz by rw [Nat.add_mul]; omega]

section
variable {α : Type} {R : Rd α} {sz : Nat} {E : Nat → Prop} {w : World} {e : TypeId} {base : Nat} {l : List α}
/-- An own row out of which one element is taken: those behind it moved down, cells of another one written at the end. -/
theorem OwnRow.deleted {g L cap : Nat} (h : OwnRow sz R E w e base (.slice (some ⟨g, 0, none⟩) L cap) l) {k : Nat} (hk : k < l.length) (hL : L = l.length) {news zs : List Value} (hzs : zs.length = sz)
    (hn : ∀ rows : List (List Value), w.ownsRow base e sz (.slice (some ⟨g, 0, none⟩) L cap) l.length rows.flatten → rows.length = l.length → (∀ r ∈ rows, r.length = sz) → news = (rows.drop (k + 1)).flatten) :
    OwnRow sz R E ((w.setCells g (k * sz) news).setCells g ((L - 1) * sz) zs) e base (.slice (some ⟨g, 0, none⟩) (L - 1) cap) (l.eraseIdx k) := by
  subst hL
  obtain ⟨rows, h1, h2, h3, h4⟩ := h.row
  have hsz : ∀ r ∈ rows, r.length = sz := fun r hr => (h3 r hr).1
  have hnews := hn rows h1 h2 hsz
  have ht := h.top
  have hle : (l.eraseIdx k).length = l.length - 1 := by rw [List.length_eraseIdx, if_pos hk]
  have hnl : news.length = (l.length - (k + 1)) * sz := by rw [hnews, flatten_len (fun r hr => hsz r (List.mem_of_mem_drop hr)), List.length_drop, h2]
  have hdirty : Dirty (fun k => (Value.slice (some ⟨g, 0, none⟩) l.length cap).ownBlock = some k ∨ E k) w ((w.setCells g (k * sz) news).setCells g ((l.length - 1) * sz) zs) :=
    (Dirty.of_grown ((grown_setCells g news (k * sz) w).trans (grown_setCells g zs ((l.length - 1) * sz) _))).mono fun j _ hj => by cases hj; exact Or.inl rfl
  refine ⟨by omega, rows.eraseIdx k, ?_, ?_, fun r hr => h3 r (List.mem_of_mem_eraseIdx hr), ?_⟩
  · have her : rows.eraseIdx k = rows.take k ++ rows.drop (k + 1) := List.eraseIdx_eq_take_drop_succ ..
    have hfl : (rows.eraseIdx k).flatten = rows.flatten.take (k * sz) ++ news := by rw [her, List.flatten_append, flatten_take k hsz, ← hnews]
    have hfll : rows.flatten.length = l.length * sz := by rw [flatten_len hsz, h2]
    rw [hfl, hle]
    have hk1 : k * sz + (l.length - (k + 1)) * sz = (l.length - 1) * sz := by rw [← Nat.add_mul]; congr 1; omega
    have hk2 : (l.length - 1) * sz + sz = l.length * sz := by
      have : (l.length - 1) * sz + 1 * sz = (l.length - 1 + 1) * sz := (Nat.add_mul _ _ _).symm
      rw [Nat.one_mul] at this
      rw [this]; congr 1; omega
    refine ⟨?_, ?_⟩
    · rw [List.length_append, List.length_take, hfll, hnl, Nat.min_eq_left (Nat.mul_le_mul_right _ (by omega))]
      exact hk1
    · rcases h1.2 with ⟨h5, _⟩ | ⟨g', cap', cur, h5, h6, h7, h8, h9, h10, h11⟩
      · cases h5
      · simp only [Value.slice.injEq, Option.some.injEq, Addr.mk.injEq] at h5
        obtain ⟨⟨rfl, _, _⟩, _, rfl⟩ := h5
        have hcap : l.length * sz ≤ cur.size := by rw [h10]; exact Nat.mul_le_mul_right _ h8
        obtain ⟨cur1, c1, c2, c3⟩ := row_setCells g e news (k * sz) w cur h7 (by rw [hnl]; omega)
        obtain ⟨cur2, d1, d2, d3⟩ := row_setCells g e zs ((l.length - 1) * sz) _ cur1 c1 (by rw [c2, hzs]; omega)
        refine .inr ⟨g, cap, cur2, rfl, h6, d1, by omega, h9, by rw [d2, c2, h10], ?_⟩
        apply List.ext_getElem?
        intro j
        rw [List.getElem?_take]
        by_cases hj : j < (l.length - 1) * sz
        · rw [if_pos hj, Array.getElem?_toList, d3, if_neg (by omega), c3]
          have hcj : j < rows.flatten.length := by omega
          have hcur : cur[j]? = rows.flatten[j]? := by
            rw [← h11, List.getElem?_take, if_pos (by omega), Array.getElem?_toList]
          have htl : (rows.flatten.take (k * sz)).length = k * sz := by rw [List.length_take, hfll, Nat.min_eq_left (Nat.mul_le_mul_right _ (by omega))]
          by_cases hjk : j < k * sz
          · rw [if_neg (by omega), List.getElem?_append_left (by omega), List.getElem?_take, if_pos hjk, hcur]
          · rw [if_pos (by omega), List.getElem?_append_right (by omega), htl]
        · rw [if_neg hj, List.getElem?_eq_none (by
            rw [List.length_append, List.length_take, hfll, hnl, Nat.min_eq_left (Nat.mul_le_mul_right _ (by omega))]
            omega)]
  · rw [List.length_eraseIdx, List.length_eraseIdx, h2]
  · intro m q x hq hx
    have hmv : ∀ j, j < w.heap.size → ((Value.slice (some ⟨g, 0, none⟩) (l.length - 1) cap).ownBlock = some j ∨ E j) → ((Value.slice (some ⟨g, 0, none⟩) l.length cap).ownBlock = some j ∨ E j) := fun j _ hj => hj
    rw [List.getElem?_eraseIdx] at hq hx
    split at hq
    · rename_i hmk
      rw [if_pos hmk] at hx
      exact (h4 m q x hq hx).move hdirty hmv
    · rename_i hmk
      rw [if_neg hmk] at hx
      exact (h4 (m + 1) q x hq hx).move hdirty hmv
end

set_option maxRecDepth 100000 in
set_option maxHeartbeats 1000000 in
theorem CloneSharesR_any {R : Rd Sh} (hRS : R.Stays) (hR1 : R.One) (v : Value) (b : List Sh) (w0 w : World) (hw0 : Dirty (fun _ => False) w0 w) (hv : IsRow 2 R w0 v b) (hb : b.length ≤ 1000000) :
    Calls Try.prog 23 #[v] w fun e w' => (∃ v', e = .returned v' ∧ OwnRow 2 R (fun k => w0.heap.size ≤ k) w' 33 w.heap.size v' b) ∧ Below w.heap.size w w' := by
  have hq : ∀ (w : World) (a : Option Addr) (n c n' c' : Nat), (binOp .eql 25 (.slice a n c) (.slice none n' c')).run Try.prog w = .ok (.bool a.isNone) w := fun w a n c n' c' => Lib.run_eql_slice_nil w _ _ a n c n' c' Try.underlying25
  have hv0 := hv
  obtain ⟨ax, cx, rfl, hcx, hmx, hx⟩ := hv.opened
  obtain ⟨hm1, hm2, hm3⟩ := hmx
  cases ax with
  | none =>
    have hc0 := hm3 rfl
    have hl0 : b = [] := by
      cases b with
      | nil => rfl
      | cons y r => obtain ⟨b, off, e1, _⟩ := hx 0 y rfl; cases e1
    subst hc0 hl0
    clear hx
    go_enter Try.func23, Try.ntmps23
    go_wp2
    go_ret
    exact ⟨⟨_, rfl, OwnRow.nil _ _ _⟩, Below.refl _ _⟩
  | some ad =>
    clear hm3 hx hv
    have hown := OwnRow.made (R := R) (sz := 2) (E := fun k => w0.heap.size ≤ k) w 33
    have HV := Lib.hid hv0
    have HD : Hid (Dirty (fun _ => False) w0 (w.alloc (.cells #[] 33))) := Lib.hid (hw0.trans (Dirty.old (below_alloc _ _) _))
    have hsz := hw0.1
    clear hv0 hw0
    go_enter Try.func23, Try.ntmps23
    go_wp2_with (at_builtin; refine wpList_append_rows rfl _ _ 25 rfl 2 _ 33 Try.underlying25 _ 32 info_shareD rfl (by omega) (by omega) w.heap.size _ [] rfl hown w0 HD.out b _ rfl HV.out hRS hR1 (by intro k hk; rcases hk with hk | hk; (cases hk; exact hsz); exact hk) (by simpa using hb) (by simp) ?_; intro v' w1 hown1 hg1 _)
    go_ret
    exact ⟨⟨_, rfl, hown1⟩, below_row (below_alloc _ _) hown hg1 (by simp)⟩
theorem CloneShares_any (v : Value) (b : List Sh) (w0 w : World) (hw0 : Dirty (fun _ => False) w0 w) (hv : IsRow 2 RShare w0 v b) (hb : b.length ≤ 1000000) :
    Calls Try.prog 23 #[v] w fun e w' => (∃ v', e = .returned v' ∧ OwnRow 2 RShare (fun k => w0.heap.size ≤ k) w' 33 w.heap.size v' b) ∧ Below w.heap.size w w' :=
  CloneSharesR_any RShare.stays RShare.one v b w0 w hw0 hv hb

set_option maxRecDepth 100000 in
set_option maxHeartbeats 2000000 in
theorem DeleteShare_any (E : Nat → Prop) (base : Nat) (v : Value) (l : List Sh) (k : Nat) (W : World) (ho : OwnRow 2 RShare E W 33 base v l) (hk : k < l.length) :
    Calls Try.prog 46 #[v, .int .i64 k, .int .i64 ((k : Int) + 1)] W fun e w' => (∃ v', e = .returned v' ∧ OwnRow 2 RShare E w' 33 base v' (l.eraseIdx k) ∧ v'.ownBlock = v.ownBlock) ∧ W.grownBy w' v.ownBlock := by
  have htop := ho.top
  rcases ho.shape with ⟨_, rfl⟩ | ⟨g, cap, cur, rfl, hb, hg, hnc, hcm, hheap, hcs⟩
  · simp at hk
  obtain ⟨L, hL⟩ : ∃ L, L = l.length := ⟨_, rfl⟩
  obtain ⟨rows, h1, h2, h3, h4⟩ := ho.row
  obtain ⟨news, hnews⟩ : ∃ news, news = (rows.drop (k + 1)).flatten := ⟨_, rfl⟩
  have hsz : ∀ r ∈ rows, r.length = 2 := fun r hr => (h3 r hr).1
  have hlen : news.length = (L - (k + 1)) * 2 := by rw [hnews, flatten_len (fun r hr => hsz r (List.mem_of_mem_drop hr)), List.length_drop, h2, hL]
  have hfl : rows.flatten.length = L * 2 := by rw [flatten_len hsz, h2, hL]
  have hget : ∀ t u, news[t]? = some u → W.cell? ⟨g, (k + 1) * 2 + t, none⟩ = some u := by
    intro t u hu
    rw [hnews, flatten_drop _ hsz, List.getElem?_drop] at hu
    have := h1.cells (g := g) rfl _ _ hu
    rwa [add_zero'] at this
  have hcell : ∀ t, t < L * 2 → (W.cell? ⟨g, t, none⟩).isSome = true := by
    intro t ht
    have := h1.cells (g := g) rfl t _ (List.getElem?_eq_getElem (show t < rows.flatten.length by omega))
    rw [add_zero'] at this
    rw [this]; rfl
  obtain ⟨A, hA, hsrc⟩ : ∃ A : Addr, (if cap = k + 1 then some (⟨g, 0, none⟩ : Addr) else some ⟨g, (k + 1) * 2, none⟩) = some A ∧ Hid (∀ t u, news[t]? = some u → W.drew.cell? (A.add t) = some u) := by
    by_cases h : cap = k + 1
    · refine ⟨⟨g, 0, none⟩, by simp [h], Lib.hid fun t u hu => ?_⟩
      have h0 : news.length = 0 := by rw [hlen]; omega
      rw [List.length_eq_zero_iff.1 h0] at hu
      simp at hu
    · refine ⟨⟨g, (k + 1) * 2, none⟩, by simp [h], Lib.hid fun t u hu => ?_⟩
      rw [add_none']
      exact hget t u hu
  have s1 : Hid (news.length = (L - (k + 1)) * 2) := Lib.hid hlen
  have s2 : Hid (∀ u ∈ news, u.oneCell' = true) := Lib.hid (fun u hu => by
    rw [hnews] at hu
    obtain ⟨q, hq, hu⟩ := List.mem_flatten.1 hu
    exact (h3 q (List.mem_of_mem_drop hq)).2 u hu)
  have s3 : Hid (∀ t, t < news.length → (W.drew.cell? ⟨g, 0 + k * 2 + t, none⟩).isSome = true ∧ W.drew.frozen? ⟨g, 0 + k * 2 + t, none⟩ = false) := Lib.hid (fun t ht => by
    rw [hlen] at ht
    exact ⟨hcell _ (by omega), ho.free rfl _⟩)
  have hdel := Lib.hid (ho.drew.deleted hk (L := l.length) rfl (news := news) (zs := [.int .i64 0, .slice none 0 0]) rfl (fun rows' r1 r2 r3 => by
    have he : rows'.flatten = rows.flatten := by
      rcases r1.2 with ⟨h5, _⟩ | ⟨g', cap', cur', h5, _, h7, _, _, _, h11⟩
      · cases h5
      rcases h1.2 with ⟨q5, _⟩ | ⟨g2, cap2, cur2, q5, _, q7, _, _, _, q11⟩
      · cases q5
      simp only [Value.slice.injEq, Option.some.injEq, Addr.mk.injEq] at h5 q5
      obtain ⟨⟨rfl, _, _⟩, _, rfl⟩ := h5
      obtain ⟨⟨rfl, _, _⟩, _, rfl⟩ := q5
      have : W.heap[g]? = some (.cells cur' 33 (0, 0)) := h7
      rw [q7] at this
      cases this
      rw [← h11, ← q11]
    rw [hnews, flatten_drop _ hsz, flatten_drop _ r3, he]))
  have hgr := Lib.hid (show W.grownBy ((W.drew.setCells g (k * 2) news).setCells g ((L - 1) * 2) [.int .i64 0, .slice none 0 0]) (some g) from (show W.grownBy W.drew (some g) from ⟨rfl, rfl, rfl, Nat.le_refl _, fun _ _ _ => rfl⟩).trans ((grown_setCells g news (k * 2) _).trans (grown_setCells g _ ((L - 1) * 2) _)))
  rw [← hL] at hdel hnc hk
  obtain ⟨W1, hW1⟩ : ∃ W1, W1 = W.drew.setCells g (0 + k * 2) news := ⟨_, rfl⟩
  obtain ⟨cur1, hheap1, hsz1, _⟩ := row_setCells g 33 news (0 + k * 2) W.drew cur hheap (by rw [hlen, hcs]; omega)
  rw [← hW1] at hheap1
  have hsz2 : L * 2 ≤ cur1.size := by rw [hsz1, hcs]; omega
  have hcl : ∀ ty, (Builtin.clear_ #[25] ty #[.slice (some ⟨g, (k + (L - (k + 1))) * 2, none⟩) (L - (k + (L - (k + 1)))) (cap - (k + (L - (k + 1))))]).run Try.prog W1 = .ok (.tuple #[]) (W1.setCells g ((L - 1) * 2) [.int .i64 0, .slice none 0 0]) := by
    intro ty
    have e1 : k + (L - (k + 1)) = L - 1 := by omega
    rw [e1, show L - (L - 1) = 1 by omega]
    refine run_clear_pair W1 _ _ ty _ _ _ Try.underlying25 zero_share rfl rfl rfl g ((L - 1) * 2) _ (fun j hj => ?_) (fun j hj => ?_)
    · rw [World.cell?, hheap1]
      simp
      omega
    · simp [World.frozen?, hheap1]
  have HW1 := Lib.hid hW1
  obtain ⟨i0, hi0, _, hz0, _⟩ := info_parts info_shareD
  have hkc : k ≤ cap := by omega
  have hkc1 : k + 1 ≤ cap := by omega
  have hkl : k + 1 ≤ L := by omega
  have hkl0 : k ≤ L := by omega
  have hne : ((k : Int) == (k : Int) + 1) = false := beq_eq_false_iff_ne.2 (by omega)
  have hz : 0 + k * 2 = k * 2 := by omega
  rw [hz] at hW1
  have HH := Lib.hid hW1
  have e5 : L - 1 = k + (L - (k + 1)) := by omega
  have b1 : (0 : Int) ≤ (k : Int) + 1 := by omega
  have b2 : (k : Int) + 1 ≤ (L : Int) := by omega
  have b3 : ((k : Int) + 1).toNat = k + 1 := by omega
  have b4 : (L : Int) ≤ (cap : Int) := by omega
  have b5 : (k : Int) ≤ (cap : Int) := by omega
  rw [show W.drew.setCells g (k * 2) news = W1 from hW1.symm] at hdel hgr
  rw [← hL]
  clear hz hW1 hget hcell hnews hlen hfl hsz h1 h2 h3 h4 ho hheap hheap1 hsz1 hcs hg hb htop hL
  go_enter Try.func46, Try.ntmps46
  go_wp2_with fail
  go_region_law (refine step_append_room rfl (.tmp 22) (.tmp 25) 25 rfl 33 i0 2 Try.underlying25 hi0 hz0 g 0 k cap (by simp [Act.eval, Act.put]) A (L - (k + 1)) (cap - (k + 1)) news (by simp [Act.eval, Act.put]) s1.out hsrc.out s2.out (by omega) s3.out ?_; rw [← HW1.out])
  all_goals
    obtain ⟨m, hm⟩ : ∃ m, m = k + (L - (k + 1)) := ⟨_, rfl⟩
    rw [← hm] at hcl e5 ⊢
    have hm1 : m + 1 = L := by omega
    have hm2 : ¬ (cap = m) := by omega
    have hm3 : (m : Int) ≤ (L : Int) := by omega
    have hm4 : (0 : Int) ≤ (m : Int) := by omega
    rw [e5] at hcl
    have HDEL := hdel.out
    have HGR := hgr.out
    rw [e5] at HDEL HGR
    have HD := Lib.hid HDEL
    have HG := Lib.hid HGR
    clear hm hm1 HDEL HGR hdel hgr e5 b1 b2 b3
    go_wp2_with fail
    go_ret
    exact ⟨⟨_, rfl, HD.out, rfl⟩, HG.out⟩

end Go.Proofs.Ytnpdojjffbhalaa
