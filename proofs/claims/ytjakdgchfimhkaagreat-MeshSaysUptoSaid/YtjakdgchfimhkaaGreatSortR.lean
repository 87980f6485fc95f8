/-
  slices.SortFunc at rows of ints with slices.Compare, by what the library proves of it.
-/
import Derived.Shelf.SlSortCmp.Whole1
import Derived.Test.YtjakdgchfimhkaaGreatElectA
import Derived.Test.YtjakdgchfimhkaaGreatSortRows
namespace Go.Proofs.YtjakdgchfimhkaaGreat
open Go.Shelf Go.RowKit Go.Sort

theorem cmpL_trans : ∀ (x y z : List Int), cmpL x y ≤ 0 → cmpL y z ≤ 0 → cmpL x z ≤ 0 ∧ (cmpL x y < 0 ∨ cmpL y z < 0 → cmpL x z < 0)
  | [], [], [], _, _ => by simp [cmpL]
  | [], [], _ :: _, _, _ => by simp [cmpL]
  | [], _ :: _, [], _, h => by simp [cmpL] at h
  | [], _ :: _, _ :: _, _, _ => by simp [cmpL]
  | _ :: _, [], _, h, _ => by simp [cmpL] at h
  | _ :: _, _ :: _, [], _, h => by simp [cmpL] at h
  | a :: x, b :: y, c :: z, h1, h2 => by
    have ih := cmpL_trans x y z
    simp only [cmpL] at h1 h2 ⊢
    by_cases e1 : a < b
    · rw [if_pos e1] at h1 ⊢
      by_cases e2 : b < c
      · rw [if_pos (show a < c by omega)]; omega
      · by_cases e3 : c < b
        · rw [if_neg e2, if_pos e3] at h2; omega
        · rw [if_pos (show a < c by omega)]; omega
    · by_cases e1' : b < a
      · rw [if_neg e1, if_pos e1'] at h1; omega
      · have hab : a = b := by omega
        subst hab
        rw [if_neg e1, if_neg e1] at h1 ⊢
        by_cases e2 : a < c
        · rw [if_pos e2]; omega
        · by_cases e3 : c < a
          · rw [if_neg e2, if_pos e3] at h2; omega
          · simp only [if_neg e2, if_neg e3] at h2 ⊢
            exact ih h1 h2

/-- A row of ints, and where it lies, whatever becomes of one block. -/
abbrev ER (W : World) (g : Nat) := { p : List Int × Value // ∀ w', Dirty (fun k => some g = some k) W w' → IsInts w' p.2 p.1 }
instance (W : World) (g : Nat) : Inhabited (ER W g) := ⟨⟨([], .slice none 0 0), fun _ _ => IsInts.nil _⟩⟩
def encR {W : World} {g : Nat} (p : ER W g) : Value := p.1.2
def cfR {W : World} {g : Nat} (p q : ER W g) : Int := cmpL p.1.1 q.1.1
theorem ltR {W : World} {g : Nat} (p q : ER W g) : ltOf cfR p q = decide (cmpL p.1.1 q.1.1 < 0) := by
  unfold ltOf cfR
  rfl
theorem swoR {W : World} {g : Nat} : SWO (ltOf (cfR (W := W) (g := g))) where
  irrefl x := by
    rw [ltR]
    have := cmpL_swap x.1.1 x.1.1
    simp
    omega
  trans x y z h1 h2 := by
    rw [ltR] at *
    simp only [decide_eq_true_eq] at *
    exact (cmpL_trans x.1.1 y.1.1 z.1.1 (by omega) (by omega)).2 (Or.inl h1)
  ntrans x y z h1 h2 := by
    rw [ltR] at *
    simp only [decide_eq_false_iff_not] at *
    have a1 := cmpL_swap x.1.1 y.1.1
    have a2 := cmpL_swap y.1.1 z.1.1
    have a3 := cmpL_swap x.1.1 z.1.1
    have := (cmpL_trans z.1.1 y.1.1 x.1.1 (by omega) (by omega)).1
    omega
theorem grownBy_sorted1 {α : Type} [Inhabited α] {enc : α → Value} {w : World} {g n : Nat} {os : Array Obj} (d : Array α) : w.grownBy (sortWorld enc w g 0 n d os) (some g) := by
  unfold sortWorld
  refine ⟨rfl, rfl, rfl, by simp, fun k hk hne => ?_⟩
  rw [heap_grow_old _ _ (by simpa using hk)]
  have : g ≠ k := fun e => hne (by rw [e])
  simp [putRow, mapBlock, Sort.ahead, Array.getElem?_modify, this]
theorem er_list {W : World} {g : Nat} : ∀ (rows : List (List Value)) (l : List (List Int)), rows.length = l.length → (∀ (i : Nat) (r : List Value) (x : List Int), rows[i]? = some r → l[i]? = some x → ∃ q : ER W g, r = [encR q] ∧ q.1.1 = x) → ∃ es : List (ER W g), es.map (·.1.1) = l ∧ es.map (fun q => [encR q]) = rows
  | [], [], _, _ => ⟨[], rfl, rfl⟩
  | [], _ :: _, h, _ => by simp at h
  | _ :: _, [], h, _ => by simp at h
  | r :: rows, x :: l, h, hq => by
    obtain ⟨q, hr, hx⟩ := hq 0 r x rfl rfl
    obtain ⟨es, h1, h2⟩ := er_list rows l (by simpa using h) (fun i r x hr hx => hq (i + 1) r x (by simpa using hr) (by simpa using hx))
    exact ⟨q :: es, by simp [h1, hx], by simp [h2, hr]⟩

set_option maxRecDepth 100000 in
theorem SortRows_own (base g cap : Nat) (l : List (List Int)) (W : World) (ho : OwnRow 1 RInts (fun _ => False) W 28 base (.slice (some ⟨g, 0, none⟩) l.length cap) l) :
    Calls Tryz.prog 67 #[.slice (some ⟨g, 0, none⟩) l.length cap, .func (.func 68) #[] #[]] W fun e w' => e = .returned (.tuple #[]) ∧
      ∃ l', IsRow 1 RInts w' (.slice (some ⟨g, 0, none⟩) l.length cap) l' ∧ l'.Perm l ∧ l'.Pairwise (fun x y => cmpL x y ≤ 0) ∧ W.grownBy w' (some g) := by
  have htop := ho.top
  obtain ⟨_, _, ev, hcap, ⟨_, hcm, _⟩, _⟩ := ho.isRow.opened
  simp only [Value.slice.injEq, true_and] at ev
  obtain ⟨rfl, rfl⟩ := ev
  have hgl : g < W.heap.size := (ho.lt g rfl).2
  obtain ⟨rows, r1, r2, r3, r4⟩ := ho.row
  obtain ⟨es, he1, he2⟩ := er_list (W := W) (g := g) rows l r2 (fun i r x hr hx => by
    have hf := r4 i r x hr hx
    obtain ⟨u, rfl, hu⟩ := hf.now
    refine ⟨⟨(x, u), fun w' hw' => ?_⟩, rfl, rfl⟩
    obtain ⟨u', e, hu'⟩ := hf w' (hw'.mono fun k _ hk => Or.inl hk)
    simp only [List.cons.injEq, and_true] at e
    rw [e]
    exact hu')
  have hel : es.length = l.length := by rw [← he1, List.length_map]
  have hH : Holds encR W g 0 es.toArray := by
    intro t ht
    have ht' : t < es.length := by simpa using ht
    have hg : es[t]? = some es[t] := List.getElem?_eq_getElem ht'
    have hrow : rows[t]? = some [encR es[t]] := by rw [← he2, List.getElem?_map, hg]; rfl
    have hcell := r1.cells (g := g) rfl _ _ (flatten_get (j := 0) (fun r hr => (r3 r hr).1) hrow rfl)
    rw [add_zero', Nat.mul_one, Nat.add_zero] at hcell
    refine ⟨?_, by rw [Nat.zero_add]; exact ho.free rfl t⟩
    rw [Nat.zero_add, hcell]
    simp [ht']
  have hone : OneCell (encR (W := W) (g := g)) := fun q => by
    obtain ⟨a, c, e, _⟩ := (q.2 W (Dirty.refl _ _)).opened
    unfold encR
    rw [e]
    rfl
  have hcmp : CmpLays1 Tryz.prog 68 #[] (encR (W := W) (g := g)) cfR g 0 es.toArray.size W := fun m os dk _ x y => by
    have hd : Dirty (fun k => some g = some k) W (sortWorld encR W g 0 m dk os) := Dirty.of_grown (grownBy_sorted1 dk)
    refine (Compare_ints (encR x) (encR y) x.1.1 y.1.1 _ (x.2 _ hd) (y.2 _ hd)).mono ?_
    rintro e w' ⟨rfl, rfl⟩
    exact ⟨rfl, 0, #[], by rw [grow_empty]; rfl⟩
  have hcon := Any.slices_SortFunc sortRows encR hone cfR swoR 68 #[] g 0 cap es.toArray W (fun _ _ => rfl) hcmp hH hgl (by simp; omega)
  simp only [List.size_toArray, hel] at hcon
  refine hcon.mono ?_
  rintro e w' ⟨rfl, d', n, os, ⟨p1, _, p3⟩, hs, rfl⟩
  have hsz' : d'.size = es.length := by simpa using p1
  have hperm : d'.toList.Perm es := by
    have e1 : d'.extract 0 l.length = d' := by rw [← hel, ← hsz']; simp
    have e2 : es.toArray.extract 0 l.length = es.toArray := by rw [← hel]; simp
    rw [e1, e2] at p3
    simpa using p3
  have hl : (d'.toList.map (·.1.1)).Perm l := by rw [← he1]; exact hperm.map _
  have hH' := holds_sortWorld encR W g 0 n es.toArray d' os hgl hH (by simpa using hsz')
  have hdirty : Dirty (fun k => some g = some k) W (sortWorld encR W g 0 n d' os) := Dirty.of_grown (grownBy_sorted1 d')
  have hlen : (d'.toList.map (·.1.1)).length = l.length := hl.length_eq
  refine ⟨rfl, d'.toList.map (·.1.1), ?_, hl, ?_, grownBy_sorted1 d'⟩
  · refine ⟨some ⟨g, 0, none⟩, cap, by rw [hlen], by omega, ⟨by omega, by omega, fun e => by cases e⟩, fun i x hx => ⟨g, 0, rfl, ?_⟩⟩
    have hi : i < d'.size := by
      have := (List.getElem?_eq_some_iff.1 hx).1
      simpa using this
    have hx' : x = d'[i].1.1 := by
      rw [List.getElem?_map, Array.getElem?_toList, Array.getElem?_eq_getElem hi] at hx
      simpa using hx.symm
    subst hx'
    refine ⟨[encR d'[i]], rfl, fun j c hj => ?_, _, rfl, d'[i].2 _ hdirty⟩
    cases j with
    | zero =>
      have hc := (hH' i hi).1
      have : d'[i]! = d'[i] := by simp [hi]
      rw [this] at hc
      simp at hj
      subst hj
      simpa using hc
    | succ j => simp at hj
  · rw [List.pairwise_iff_getElem]
    intro i j hi hj hij
    have hi' : i < d'.size := by simpa using hi
    have hj' : j < d'.size := by simpa using hj
    have h2 := hs i j (Nat.zero_le _) hij (by omega)
    rw [ltR] at h2
    have h3 := cmpL_swap d'[i].1.1 d'[j].1.1
    simp [hi', hj'] at h2 ⊢
    omega

set_option maxRecDepth 100000 in
theorem SortRows_any (base : Nat) (v : Value) (l : List (List Int)) (W : World) (ho : OwnRow 1 RInts (fun _ => False) W 28 base v l) (hl : l ≠ []) :
    Calls Tryz.prog 67 #[v, .func (.func 68) #[] #[]] W fun e w' => e = .returned (.tuple #[]) ∧
      ∃ l', IsRow 1 RInts w' v l' ∧ l'.Perm l ∧ l'.Pairwise (fun x y => cmpL x y ≤ 0) ∧ W.grownBy w' v.ownBlock := by
  rcases ho.shape with ⟨_, e⟩ | ⟨g, cap, cur, rfl, _⟩
  · exact absurd e hl
  · exact SortRows_own base g cap l W ho
end Go.Proofs.YtjakdgchfimhkaaGreat
