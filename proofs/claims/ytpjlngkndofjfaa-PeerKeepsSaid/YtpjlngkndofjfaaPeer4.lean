/-
  The walks of a peer's copy, and of a share's.
-/
import Derived.Test.YtpjlngkndofjfaaPlace1
import Derived.Test.YtpjlngkndofjfaaRow3
import Derived.Deep.RegionHeld3
namespace Go.Proofs.Ytpjlngkndofjfaa
open Go.RowKit

theorem RKept.one : RKept.One := by
  rintro w cs x ⟨v, rfl, h, _⟩ c hc
  obtain ⟨a, cp, rfl, _⟩ := h.opened
  simp at hc
  rcases hc with rfl | rfl | rfl <;> rfl
theorem info_kept : (Try.prog.info? 44).map (fun i => (i.zero, i.size, i.bytes)) = some (some (.agg #[.int .i64 0, .int .i64 0, .slice none 0 0]), 3, 40) := by kernel_rfl

set_option maxHeartbeats 400000 in
theorem CloneKepts_any (v : Value) (b : List Kp) (w0 w : World) (hw0 : Dirty (fun _ => False) w0 w) (hv : IsKepts w0 v b) (hb : b.length ≤ 1000000) :
    Calls Try.prog 43 #[v] w fun e w' => (∃ v', e = .returned v' ∧ OwnRow 3 RKept (fun k => w0.heap.size ≤ k) w' 44 w.heap.size v' b) ∧ Below w.heap.size w w' := by
  have hq : ∀ (w : World) (a : Option Addr) (n c n' c' : Nat), (binOp .eql 35 (.slice a n c) (.slice none n' c')).run Try.prog w = .ok (.bool a.isNone) w := fun w a n c n' c' => Lib.run_eql_slice_nil w _ _ a n c n' c' Try.underlying35
  have hv0 := hv
  obtain ⟨ax, cx, rfl, hcx, hmx, hx⟩ := hv.opened
  obtain ⟨hm1, hm2, hm3⟩ := hmx
  cases ax with
  | none =>
    have hc0 := hm3 rfl
    have hl0 : b = [] := by
      cases b with
      | nil => rfl
      | cons y r => obtain ⟨b, off, e1, _⟩ := hx 0 y rfl; cases e1
    subst hc0 hl0
    clear hx
    go_enter Try.func43, Try.ntmps43
    go_wp2
    go_ret
    exact ⟨⟨_, rfl, OwnRow.nil _ _ _⟩, Below.refl _ _⟩
  | some ad =>
    clear hm3 hx hv
    have hown := OwnRow.made (R := RKept) (sz := 3) (E := fun k => w0.heap.size ≤ k) w 44
    have HV := Lib.hid hv0
    have HD : Hid (Dirty (fun _ => False) w0 (w.alloc (.cells #[] 44))) := Lib.hid (hw0.trans (Dirty.old (below_alloc _ _) _))
    have hsz := hw0.1
    clear hv0 hw0
    go_enter Try.func43, Try.ntmps43
    go_wp2_with (at_builtin; refine wpList_append_rows rfl _ _ 35 rfl 3 _ 44 Try.underlying35 _ 40 info_kept rfl (by omega) (by omega) w.heap.size _ [] rfl hown w0 HD.out b _ rfl HV.out RKept.stays RKept.one (by intro k hk; rcases hk with hk | hk; (cases hk; exact hsz); exact hk) (by simpa using hb) (by simp) ?_; intro v' w1 hown1 hg1 _)
    go_ret
    exact ⟨⟨_, rfl, hown1⟩, below_row (below_alloc _ _) hown hg1 (by simp)⟩


set_option maxRecDepth 100000 in
set_option maxHeartbeats 1000000 in
theorem shareCopy_any (N : Int) (v : Value) (l : List Int) (W : World) (hv : IsInts W v l) :
    Calls Try.prog 37 #[.agg #[.int .i64 N, v]] W fun e w' => (∃ v', e = .returned (.agg #[.int .i64 N, v']) ∧ OwnInts w' 3 W.heap.size v' l) ∧ Below W.heap.size W w' := by
  obtain ⟨a, c, rfl, hc, ⟨hm, hcm, _⟩, _⟩ := hv.opened
  have S0 := ((Since.refl W).alloc (.cells #[.int .i64 N, .slice a l.length c] 42)).alloc (.cells #[.int .i64 0, .slice none 0 0] 42)
  have hv0 := hv.stays S0.below
  have c0 : ((W.alloc (.cells #[.int .i64 N, .slice a l.length c] 42)).alloc (.cells #[.int .i64 0, .slice none 0 0] 42)).cell? ⟨W.heap.size, 0, none⟩ = some (.int .i64 N) := by go_simp
  have c1 : ((W.alloc (.cells #[.int .i64 N, .slice a l.length c] 42)).alloc (.cells #[.int .i64 0, .slice none 0 0] 42)).cell? ⟨W.heap.size, 1, none⟩ = some (.slice a l.length c) := by go_simp
  have f1 : ((W.alloc (.cells #[.int .i64 N, .slice a l.length c] 42)).alloc (.cells #[.int .i64 0, .slice none 0 0] 42)).frozen? ⟨W.heap.size, 1, none⟩ = false := by go_simp
  have d0 : ((W.alloc (.cells #[.int .i64 N, .slice a l.length c] 42)).alloc (.cells #[.int .i64 0, .slice none 0 0] 42)).cell? ⟨W.heap.size + 1, 0, none⟩ = some (.int .i64 0) := by go_simp
  have d1 : ((W.alloc (.cells #[.int .i64 N, .slice a l.length c] 42)).alloc (.cells #[.int .i64 0, .slice none 0 0] 42)).cell? ⟨W.heap.size + 1, 1, none⟩ = some (.slice none 0 0) := by go_simp
  have g0 : ((W.alloc (.cells #[.int .i64 N, .slice a l.length c] 42)).alloc (.cells #[.int .i64 0, .slice none 0 0] 42)).frozen? ⟨W.heap.size + 1, 0, none⟩ = false := by go_simp
  have g1 : ((W.alloc (.cells #[.int .i64 N, .slice a l.length c] 42)).alloc (.cells #[.int .i64 0, .slice none 0 0] 42)).frozen? ⟨W.heap.size + 1, 1, none⟩ = false := by go_simp
  clear hv
  go_enter Try.func37, Try.ntmps37
  go_upto_region 1 with fail
  generalize (W.alloc (.cells #[.int .i64 N, .slice a l.length c] 42)).alloc (.cells #[.int .i64 0, .slice none 0 0] 42) = w0 at *
  obtain ⟨B, hB⟩ : ∃ B, B = W.heap.size := ⟨_, rfl⟩
  obtain ⟨B1, hB1⟩ : ∃ B1, B1 = W.heap.size + 1 := ⟨_, rfl⟩
  rw [← hB1] at d0 d1 g0 g1 ⊢
  rw [← hB] at c0 c1 f1 ⊢
  have hWB : W.heap.size ≤ B := by omega
  have hWB1 : W.heap.size ≤ B1 := by omega
  have hBB : ¬ B = B1 := by omega
  have hBB' : ¬ B1 = B := by omega
  clear hB hB1
  go_wp2_with (go_at_call 55; refine (Clone_ints _ l _ hv0).mono ?_; rintro e w1 ⟨⟨v1, rfl, ho1⟩, hb1⟩; obtain ⟨a1, k1, rfl, _⟩ := ho1.isInts.opened; have e0 := below_cell hb1 c0; have e1 := below_cell hb1 c1; have e2 := below_free hb1 c1 f1; have e3 := below_cell hb1 d0; have e4 := below_cell hb1 d1; have e5 := below_free hb1 d0 g0; have e6 := below_free hb1 d1 g1)
  have hB0 := cell_lt c0
  have hB1 := cell_lt d0
  have hlt := ho1.1.lt
  have hn : ∀ k, k < w0.heap.size → (Value.slice a1 l.length k1).ownBlock = none ∨ (Value.slice a1 l.length k1).ownBlock ≠ some k := fun k hk => by
    cases hq : (Value.slice a1 l.length k1).ownBlock with
    | none => exact Or.inl rfl
    | some j => right; intro e; cases e; have := (hlt _ hq).1; omega
  have HO := Lib.hid ((((ho1.kept (grown_setCell w1 ⟨B, 1, none⟩ (.slice a1 l.length k1)) (hn B hB0)).kept (grown_setCell _ ⟨B1, 0, none⟩ (.int .i64 N)) (hn B1 hB1)).kept (grown_setCell _ ⟨B1, 1, none⟩ (.slice a1 l.length k1)) (hn B1 hB1)).mono S0.2)
  have S3 := (((S0.step hb1).setCell (a := ⟨B, 1, none⟩) hWB (.slice a1 l.length k1)).setCell (a := ⟨B1, 0, none⟩) hWB1 (.int .i64 N)).setCell (a := ⟨B1, 1, none⟩) hWB1 (.slice a1 l.length k1)
  have m0 : (((w1.setCell ⟨B, 1, none⟩ (.slice a1 l.length k1)).setCell ⟨B1, 0, none⟩ (.int .i64 N)).setCell ⟨B1, 1, none⟩ (.slice a1 l.length k1)).cell? ⟨B1, 0, none⟩ = some (.int .i64 N) := by go_simp
  have m1 : (((w1.setCell ⟨B, 1, none⟩ (.slice a1 l.length k1)).setCell ⟨B1, 0, none⟩ (.int .i64 N)).setCell ⟨B1, 1, none⟩ (.slice a1 l.length k1)).cell? ⟨B1, 1, none⟩ = some (.slice a1 l.length k1) := by go_simp
  clear ho1 e0 e1 e2 e3 e4 e5 e6 hb1 hn hlt
  generalize ((w1.setCell ⟨B, 1, none⟩ (.slice a1 l.length k1)).setCell ⟨B1, 0, none⟩ (.int .i64 N)).setCell ⟨B1, 1, none⟩ (.slice a1 l.length k1) = w3 at *
  exact bodyPost_ret (v := .agg #[.int .i64 N, .slice a1 l.length k1]) (by simp [results, Try.results37, go_sem, m0, m1]) rfl ⟨⟨_, rfl, HO.out⟩, S3.below⟩

/-- An own row's kept share at a place. -/
theorem ownKept_at {E : Nat → Prop} {w : World} {e : TypeId} {base : Nat} {v : Value} {b : List Kp} (h : OwnRow 3 RKept E w e base v b) {i : Nat} {x : Kp} (hx : b[i]? = some x) :
    ∃ g cap u c, v = .slice (some ⟨g, 0, none⟩) b.length cap ∧ base ≤ g ∧ g < w.heap.size ∧ b.length ≤ cap ∧ w.cell? ⟨g, i * 3, none⟩ = some (.int .i64 x.1) ∧ w.cell? ⟨g, i * 3 + 1, none⟩ = some (.int .i64 x.2.1) ∧ w.cell? ⟨g, i * 3 + 2, none⟩ = some (.slice u x.2.2.length c) ∧ IsInts w (.slice u x.2.2.length c) x.2.2 ∧ I64 x.1 ∧ I64 x.2.1 ∧ (∀ j, w.frozen? ⟨g, j, none⟩ = false) := by
  obtain ⟨r, g, hg, hl, h1, hc, hf⟩ := h.get hx
  rcases h.shape with ⟨rfl, rfl⟩ | ⟨g', cap, cur, rfl, hb, hlt, hnc, _⟩
  · simp at hx
  · simp only [Value.ownBlock, Option.some.injEq] at hg
    subst hg
    obtain ⟨u, rfl, hu, i1, i2⟩ := hf.now
    obtain ⟨a, c, rfl, _⟩ := hu.opened
    exact ⟨g', cap, a, c, rfl, hb, hlt, hnc, hc 0 _ rfl, hc 1 _ rfl, hc 2 _ rfl, hu, i1, i2, fun j => h.free rfl j⟩
theorem set_sameK {α : Type} {l : List α} {i : Nat} {x : α} (h : l[i]? = some x) : l.set i x = l := by
  apply List.ext_getElem?
  intro j
  rw [List.getElem?_set]
  by_cases hij : i = j
  · subst hij
    rw [if_pos rfl, if_pos (List.getElem?_eq_some_iff.1 h).1, h]
  · rw [if_neg hij]
/-- The numbers of what is kept lie in such a block. -/
def numsIn (N : Nat → Prop) (cs : List Value) : Prop := ∀ u, cs[2]? = some u → ∀ k, Value.lies u k → N k
theorem OwnRow.copyShare {E N : Nat → Prop} {w : World} {e : TypeId} {base : Nat} {b : List Kp} {g cap L k : Nat} (h : OwnRow 3 (RFlag RKept (numsIn N)) E w e base (.slice (some ⟨g, 0, none⟩) L cap) (flagL b k)) {x : Kp} (hx : b[k]? = some x) {u : Value} (hu : IsInts w u x.2.2) (hg : ∀ k, Value.lies u k → k ≠ g ∧ ¬ E k) (hN : ∀ k, Value.lies u k → N k) :
    OwnRow 3 (RFlag RKept (numsIn N)) E ((w.setCell ⟨g, k * 3 + 1, none⟩ (.int .i64 x.2.1)).setCell ⟨g, k * 3 + 2, none⟩ u) e base (.slice (some ⟨g, 0, none⟩) L cap) (flagL b (k + 1)) := by
  have hx' := flagL_get hx
  have hone : u.oneCell' = true := by obtain ⟨a, c, rfl, _⟩ := hu.opened; rfl
  have h2 : OwnRow 3 (RFlag RKept (numsIn N)) E (w.setCell ⟨g, k * 3 + 1, none⟩ (.int .i64 x.2.1)) e base (.slice (some ⟨g, 0, none⟩) L cap) (flagL b k) := by
    obtain ⟨r, g', hg', hl, h1, hc, hf⟩ := h.get hx'
    simp only [Value.ownBlock, Option.some.injEq] at hg'
    subst hg'
    have hr : r.set 1 (.int .i64 x.2.1) = r := by
      obtain ⟨⟨u0, rfl, _, _⟩, _⟩ := hf.now
      rfl
    have := h.set (j := 1) (c := .int .i64 x.2.1) (x' := (x, false)) hx' rfl hl hc (by omega) rfl (by rw [hr]; exact hf)
    rwa [set_sameK hx'] at this
  have hu2 : IsInts (w.setCell ⟨g, k * 3 + 1, none⟩ (.int .i64 x.2.1)) u x.2.2 := hu.framed (D := fun j => j = g) (fun j hj _ => (hg j hj).1) ((Dirty.of_grown (grown_setCell w ⟨g, k * 3 + 1, none⟩ (.int .i64 x.2.1))).mono fun j _ hj => by cases hj; rfl)
  clear hu h
  generalize w.setCell ⟨g, k * 3 + 1, none⟩ (.int .i64 x.2.1) = w1 at *
  obtain ⟨r, g', hg', hl, h1, hc, hf⟩ := h2.get hx'
  simp only [Value.ownBlock, Option.some.injEq] at hg'
  subst hg'
  obtain ⟨⟨u0, rfl, _, i1, i2⟩, _⟩ := hf.now
  rw [← flagL_step hx]
  refine h2.set (j := 2) hx' rfl hl hc (by omega) hone ?_
  intro w' hw'
  refine ⟨⟨u, rfl, hu2.framed (fun k hk _ hd => ?_) hw', i1, i2⟩, fun _ u' hu' k hk => ?_⟩
  · simp only [Value.ownBlock, Option.some.injEq] at hd
    rcases hd with hd | hd
    · exact (hg k hk).1 hd.symm
    · exact (hg k hk).2 hd
  · simp at hu'
    subst hu'
    exact hN k hk
theorem OwnRow.copiedK {E E' N : Nat → Prop} {w : World} {e : TypeId} {base : Nat} {b : List Kp} {v : Value} (h : OwnRow 3 (RFlag RKept (numsIn N)) E w e base v (flagL b b.length)) (hN : ∀ k, N k → v.ownBlock ≠ some k ∧ ¬ E' k) : OwnRow 3 RKept E' w e base v b := by
  rw [flagL_all] at h
  have := h.conv (R' := RKept) (E' := E') Prod.fst (fun cs x hx hf => by
    obtain ⟨y, hy, rfl⟩ := List.mem_map.1 hx
    obtain ⟨⟨u, rfl, hu, i⟩, hC⟩ := hf.now
    intro w' hw'
    refine ⟨u, rfl, hu.framed (fun k hk _ hd => ?_) hw', i⟩
    have := hN k (hC rfl u rfl k hk)
    rcases hd with hd | hd
    · exact this.1 hd
    · exact this.2 hd)
  simpa [Function.comp_def] using this

end Go.Proofs.Ytpjlngkndofjfaa
