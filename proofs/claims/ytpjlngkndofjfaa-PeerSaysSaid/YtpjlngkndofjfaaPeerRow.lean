/-
  The walks of a peer's copy, and of a share's.
  The walk of a peer's copy.
-/
import Derived.Test.YtpjlngkndofjfaaPlace1
import Derived.Test.YtpjlngkndofjfaaRowAll
import Derived.Deep.RegionHeld3
namespace Go.Proofs.Ytpjlngkndofjfaa
open Go.RowKit

theorem RKept.one : RKept.One := by
  rintro w cs x ⟨v, rfl, h, _⟩ c hc
  obtain ⟨a, cp, rfl, _⟩ := h.opened
  simp at hc
  rcases hc with rfl | rfl | rfl <;> rfl
theorem info_kept : (Try.prog.info? 44).map (fun i => (i.zero, i.size, i.bytes)) = some (some (.agg #[.int .i64 0, .int .i64 0, .slice none 0 0]), 3, 40) := by kernel_rfl

set_option maxHeartbeats 400000 in
theorem CloneKepts_any (v : Value) (b : List Kp) (w0 w : World) (hw0 : Dirty (fun _ => False) w0 w) (hv : IsKepts w0 v b) (hb : b.length ≤ 1000000) :
    Calls Try.prog 43 #[v] w fun e w' => (∃ v', e = .returned v' ∧ OwnRow 3 RKept (fun k => w0.heap.size ≤ k) w' 44 w.heap.size v' b) ∧ Below w.heap.size w w' := by
  have hq : ∀ (w : World) (a : Option Addr) (n c n' c' : Nat), (binOp .eql 35 (.slice a n c) (.slice none n' c')).run Try.prog w = .ok (.bool a.isNone) w := fun w a n c n' c' => Lib.run_eql_slice_nil w _ _ a n c n' c' Try.underlying35
  have hv0 := hv
  obtain ⟨ax, cx, rfl, hcx, hmx, hx⟩ := hv.opened
  obtain ⟨hm1, hm2, hm3⟩ := hmx
  cases ax with
  | none =>
    have hc0 := hm3 rfl
    have hl0 : b = [] := by
      cases b with
      | nil => rfl
      | cons y r => obtain ⟨b, off, e1, _⟩ := hx 0 y rfl; cases e1
    subst hc0 hl0
    clear hx
    go_enter Try.func43, Try.ntmps43
    go_wp2
    go_ret
    exact ⟨⟨_, rfl, OwnRow.nil _ _ _⟩, Below.refl _ _⟩
  | some ad =>
    clear hm3 hx hv
    have hown := OwnRow.made (R := RKept) (sz := 3) (E := fun k => w0.heap.size ≤ k) w 44
    have HV := Lib.hid hv0
    have HD : Hid (Dirty (fun _ => False) w0 (w.alloc (.cells #[] 44))) := Lib.hid (hw0.trans (Dirty.old (below_alloc _ _) _))
    have hsz := hw0.1
    clear hv0 hw0
    go_enter Try.func43, Try.ntmps43
    go_wp2_with (at_builtin; refine wpList_append_rows rfl _ _ 35 rfl 3 _ 44 Try.underlying35 _ 40 info_kept rfl (by omega) (by omega) w.heap.size _ [] rfl hown w0 HD.out b _ rfl HV.out RKept.stays RKept.one (by intro k hk; rcases hk with hk | hk; (cases hk; exact hsz); exact hk) (by simpa using hb) (by simp) ?_; intro v' w1 hown1 hg1 _)
    go_ret
    exact ⟨⟨_, rfl, hown1⟩, below_row (below_alloc _ _) hown hg1 (by simp)⟩


set_option maxRecDepth 100000 in
set_option maxHeartbeats 1000000 in
theorem shareCopy_any (N : Int) (v : Value) (l : List Int) (W : World) (hv : IsInts W v l) :
    Calls Try.prog 37 #[.agg #[.int .i64 N, v]] W fun e w' => (∃ v', e = .returned (.agg #[.int .i64 N, v']) ∧ OwnInts w' 3 W.heap.size v' l) ∧ Below W.heap.size W w' := by
  obtain ⟨a, c, rfl, hc, ⟨hm, hcm, _⟩, _⟩ := hv.opened
  have S0 := ((Since.refl W).alloc (.cells #[.int .i64 N, .slice a l.length c] 42)).alloc (.cells #[.int .i64 0, .slice none 0 0] 42)
  have hv0 := hv.stays S0.below
  have c0 : ((W.alloc (.cells #[.int .i64 N, .slice a l.length c] 42)).alloc (.cells #[.int .i64 0, .slice none 0 0] 42)).cell? ⟨W.heap.size, 0, none⟩ = some (.int .i64 N) := by go_simp
  have c1 : ((W.alloc (.cells #[.int .i64 N, .slice a l.length c] 42)).alloc (.cells #[.int .i64 0, .slice none 0 0] 42)).cell? ⟨W.heap.size, 1, none⟩ = some (.slice a l.length c) := by go_simp
  have f1 : ((W.alloc (.cells #[.int .i64 N, .slice a l.length c] 42)).alloc (.cells #[.int .i64 0, .slice none 0 0] 42)).frozen? ⟨W.heap.size, 1, none⟩ = false := by go_simp
  have d0 : ((W.alloc (.cells #[.int .i64 N, .slice a l.length c] 42)).alloc (.cells #[.int .i64 0, .slice none 0 0] 42)).cell? ⟨W.heap.size + 1, 0, none⟩ = some (.int .i64 0) := by go_simp
  have d1 : ((W.alloc (.cells #[.int .i64 N, .slice a l.length c] 42)).alloc (.cells #[.int .i64 0, .slice none 0 0] 42)).cell? ⟨W.heap.size + 1, 1, none⟩ = some (.slice none 0 0) := by go_simp
  have g0 : ((W.alloc (.cells #[.int .i64 N, .slice a l.length c] 42)).alloc (.cells #[.int .i64 0, .slice none 0 0] 42)).frozen? ⟨W.heap.size + 1, 0, none⟩ = false := by go_simp
  have g1 : ((W.alloc (.cells #[.int .i64 N, .slice a l.length c] 42)).alloc (.cells #[.int .i64 0, .slice none 0 0] 42)).frozen? ⟨W.heap.size + 1, 1, none⟩ = false := by go_simp
  clear hv
  go_enter Try.func37, Try.ntmps37
  go_upto_region 1 with fail
  generalize (W.alloc (.cells #[.int .i64 N, .slice a l.length c] 42)).alloc (.cells #[.int .i64 0, .slice none 0 0] 42) = w0 at *
  obtain ⟨B, hB⟩ : ∃ B, B = W.heap.size := ⟨_, rfl⟩
  obtain ⟨B1, hB1⟩ : ∃ B1, B1 = W.heap.size + 1 := ⟨_, rfl⟩
  rw [← hB1] at d0 d1 g0 g1 ⊢
  rw [← hB] at c0 c1 f1 ⊢
  have hWB : W.heap.size ≤ B := by omega
  have hWB1 : W.heap.size ≤ B1 := by omega
  have hBB : ¬ B = B1 := by omega
  have hBB' : ¬ B1 = B := by omega
  clear hB hB1
  go_wp2_with (go_at_call 55; refine (Clone_ints _ l _ hv0).mono ?_; rintro e w1 ⟨⟨v1, rfl, ho1⟩, hb1⟩; obtain ⟨a1, k1, rfl, _⟩ := ho1.isInts.opened; have e0 := below_cell hb1 c0; have e1 := below_cell hb1 c1; have e2 := below_free hb1 c1 f1; have e3 := below_cell hb1 d0; have e4 := below_cell hb1 d1; have e5 := below_free hb1 d0 g0; have e6 := below_free hb1 d1 g1)
  have hB0 := cell_lt c0
  have hB1 := cell_lt d0
  have hlt := ho1.1.lt
  have hn : ∀ k, k < w0.heap.size → (Value.slice a1 l.length k1).ownBlock = none ∨ (Value.slice a1 l.length k1).ownBlock ≠ some k := fun k hk => by
    cases hq : (Value.slice a1 l.length k1).ownBlock with
    | none => exact Or.inl rfl
    | some j => right; intro e; cases e; have := (hlt _ hq).1; omega
  have HO := Lib.hid ((((ho1.kept (grown_setCell w1 ⟨B, 1, none⟩ (.slice a1 l.length k1)) (hn B hB0)).kept (grown_setCell _ ⟨B1, 0, none⟩ (.int .i64 N)) (hn B1 hB1)).kept (grown_setCell _ ⟨B1, 1, none⟩ (.slice a1 l.length k1)) (hn B1 hB1)).mono S0.2)
  have S3 := (((S0.step hb1).setCell (a := ⟨B, 1, none⟩) hWB (.slice a1 l.length k1)).setCell (a := ⟨B1, 0, none⟩) hWB1 (.int .i64 N)).setCell (a := ⟨B1, 1, none⟩) hWB1 (.slice a1 l.length k1)
  have m0 : (((w1.setCell ⟨B, 1, none⟩ (.slice a1 l.length k1)).setCell ⟨B1, 0, none⟩ (.int .i64 N)).setCell ⟨B1, 1, none⟩ (.slice a1 l.length k1)).cell? ⟨B1, 0, none⟩ = some (.int .i64 N) := by go_simp
  have m1 : (((w1.setCell ⟨B, 1, none⟩ (.slice a1 l.length k1)).setCell ⟨B1, 0, none⟩ (.int .i64 N)).setCell ⟨B1, 1, none⟩ (.slice a1 l.length k1)).cell? ⟨B1, 1, none⟩ = some (.slice a1 l.length k1) := by go_simp
  clear ho1 e0 e1 e2 e3 e4 e5 e6 hb1 hn hlt
  generalize ((w1.setCell ⟨B, 1, none⟩ (.slice a1 l.length k1)).setCell ⟨B1, 0, none⟩ (.int .i64 N)).setCell ⟨B1, 1, none⟩ (.slice a1 l.length k1) = w3 at *
  exact bodyPost_ret (v := .agg #[.int .i64 N, .slice a1 l.length k1]) (by simp [results, Try.results37, go_sem, m0, m1]) rfl ⟨⟨_, rfl, HO.out⟩, S3.below⟩

/-- An own row's kept share at a place. -/
theorem ownKept_at {E : Nat → Prop} {w : World} {e : TypeId} {base : Nat} {v : Value} {b : List Kp} (h : OwnRow 3 RKept E w e base v b) {i : Nat} {x : Kp} (hx : b[i]? = some x) :
    ∃ g cap u c, v = .slice (some ⟨g, 0, none⟩) b.length cap ∧ base ≤ g ∧ g < w.heap.size ∧ b.length ≤ cap ∧ w.cell? ⟨g, i * 3, none⟩ = some (.int .i64 x.1) ∧ w.cell? ⟨g, i * 3 + 1, none⟩ = some (.int .i64 x.2.1) ∧ w.cell? ⟨g, i * 3 + 2, none⟩ = some (.slice u x.2.2.length c) ∧ IsInts w (.slice u x.2.2.length c) x.2.2 ∧ I64 x.1 ∧ I64 x.2.1 ∧ (∀ j, w.frozen? ⟨g, j, none⟩ = false) := by
  obtain ⟨r, g, hg, hl, h1, hc, hf⟩ := h.get hx
  rcases h.shape with ⟨rfl, rfl⟩ | ⟨g', cap, cur, rfl, hb, hlt, hnc, _⟩
  · simp at hx
  · simp only [Value.ownBlock, Option.some.injEq] at hg
    subst hg
    obtain ⟨u, rfl, hu, i1, i2⟩ := hf.now
    obtain ⟨a, c, rfl, _⟩ := hu.opened
    exact ⟨g', cap, a, c, rfl, hb, hlt, hnc, hc 0 _ rfl, hc 1 _ rfl, hc 2 _ rfl, hu, i1, i2, fun j => h.free rfl j⟩
theorem set_sameK {α : Type} {l : List α} {i : Nat} {x : α} (h : l[i]? = some x) : l.set i x = l := by
  apply List.ext_getElem?
  intro j
  rw [List.getElem?_set]
  by_cases hij : i = j
  · subst hij
    rw [if_pos rfl, if_pos (List.getElem?_eq_some_iff.1 h).1, h]
  · rw [if_neg hij]
/-- The numbers of what is kept lie in such a block. -/
def numsIn (N : Nat → Prop) (cs : List Value) : Prop := ∀ u, cs[2]? = some u → ∀ k, Value.lies u k → N k
theorem OwnRow.copyShare {E N : Nat → Prop} {w : World} {e : TypeId} {base : Nat} {b : List Kp} {g cap L k : Nat} (h : OwnRow 3 (RFlag RKept (numsIn N)) E w e base (.slice (some ⟨g, 0, none⟩) L cap) (flagL b k)) {x : Kp} (hx : b[k]? = some x) {u : Value} (hu : IsInts w u x.2.2) (hg : ∀ k, Value.lies u k → k ≠ g ∧ ¬ E k) (hN : ∀ k, Value.lies u k → N k) :
    OwnRow 3 (RFlag RKept (numsIn N)) E ((w.setCell ⟨g, k * 3 + 1, none⟩ (.int .i64 x.2.1)).setCell ⟨g, k * 3 + 2, none⟩ u) e base (.slice (some ⟨g, 0, none⟩) L cap) (flagL b (k + 1)) := by
  have hx' := flagL_get hx
  have hone : u.oneCell' = true := by obtain ⟨a, c, rfl, _⟩ := hu.opened; rfl
  have h2 : OwnRow 3 (RFlag RKept (numsIn N)) E (w.setCell ⟨g, k * 3 + 1, none⟩ (.int .i64 x.2.1)) e base (.slice (some ⟨g, 0, none⟩) L cap) (flagL b k) := by
    obtain ⟨r, g', hg', hl, h1, hc, hf⟩ := h.get hx'
    simp only [Value.ownBlock, Option.some.injEq] at hg'
    subst hg'
    have hr : r.set 1 (.int .i64 x.2.1) = r := by
      obtain ⟨⟨u0, rfl, _, _⟩, _⟩ := hf.now
      rfl
    have := h.set (j := 1) (c := .int .i64 x.2.1) (x' := (x, false)) hx' rfl hl hc (by omega) rfl (by rw [hr]; exact hf)
    rwa [set_sameK hx'] at this
  have hu2 : IsInts (w.setCell ⟨g, k * 3 + 1, none⟩ (.int .i64 x.2.1)) u x.2.2 := hu.framed (D := fun j => j = g) (fun j hj _ => (hg j hj).1) ((Dirty.of_grown (grown_setCell w ⟨g, k * 3 + 1, none⟩ (.int .i64 x.2.1))).mono fun j _ hj => by cases hj; rfl)
  clear hu h
  generalize w.setCell ⟨g, k * 3 + 1, none⟩ (.int .i64 x.2.1) = w1 at *
  obtain ⟨r, g', hg', hl, h1, hc, hf⟩ := h2.get hx'
  simp only [Value.ownBlock, Option.some.injEq] at hg'
  subst hg'
  obtain ⟨⟨u0, rfl, _, i1, i2⟩, _⟩ := hf.now
  rw [← flagL_step hx]
  refine h2.set (j := 2) hx' rfl hl hc (by omega) hone ?_
  intro w' hw'
  refine ⟨⟨u, rfl, hu2.framed (fun k hk _ hd => ?_) hw', i1, i2⟩, fun _ u' hu' k hk => ?_⟩
  · simp only [Value.ownBlock, Option.some.injEq] at hd
    rcases hd with hd | hd
    · exact (hg k hk).1 hd.symm
    · exact (hg k hk).2 hd
  · simp at hu'
    subst hu'
    exact hN k hk
theorem OwnRow.copiedK {E E' N : Nat → Prop} {w : World} {e : TypeId} {base : Nat} {b : List Kp} {v : Value} (h : OwnRow 3 (RFlag RKept (numsIn N)) E w e base v (flagL b b.length)) (hN : ∀ k, N k → v.ownBlock ≠ some k ∧ ¬ E' k) : OwnRow 3 RKept E' w e base v b := by
  rw [flagL_all] at h
  have := h.conv (R' := RKept) (E' := E') Prod.fst (fun cs x hx hf => by
    obtain ⟨y, hy, rfl⟩ := List.mem_map.1 hx
    obtain ⟨⟨u, rfl, hu, i⟩, hC⟩ := hf.now
    intro w' hw'
    refine ⟨u, rfl, hu.framed (fun k hk _ hd => ?_) hw', i⟩
    have := hN k (hC rfl u rfl k hk)
    rcases hd with hd | hd
    · exact this.1 hd
    · exact this.2 hd)
  simpa [Function.comp_def] using this

end Go.Proofs.Ytpjlngkndofjfaa

namespace Go.Proofs.Ytpjlngkndofjfaa
open Go.RowKit

set_option maxRecDepth 100000 in
set_option maxHeartbeats 2000000 in
theorem peerCopy_any (t : Bool) (r : Int) (v : Value) (b : List Kp) (W : World) (hv : IsKepts W v b) (hb : b.length ≤ 1000000) :
    Calls Try.prog 35 #[.agg #[.bool t, .int .i64 r, v]] W fun e w' => (∃ v', e = .returned (.agg #[.bool t, .int .i64 r, v']) ∧ OwnRow 3 RKept (fun k => k < W.heap.size) w' 44 W.heap.size v' b) ∧ Below W.heap.size W w' := by
  obtain ⟨a, c, rfl, hc, ⟨hm, hcm, _⟩, _⟩ := hv.opened
  have S0 := ((Since.refl W).alloc (.cells #[.bool t, .int .i64 r, .slice a b.length c] 37)).alloc (.cells #[.bool false, .int .i64 0, .slice none 0 0] 37)
  obtain ⟨w0, hw0⟩ : ∃ w0, w0 = (W.alloc (.cells #[.bool t, .int .i64 r, .slice a b.length c] 37)).alloc (.cells #[.bool false, .int .i64 0, .slice none 0 0] 37) := ⟨_, rfl⟩
  have p0 : w0.cell? ⟨W.heap.size, 0, none⟩ = some (.bool t) := by rw [hw0]; go_simp
  have p1 : w0.cell? ⟨W.heap.size, 1, none⟩ = some (.int .i64 r) := by rw [hw0]; go_simp
  have p2 : w0.cell? ⟨W.heap.size, 2, none⟩ = some (.slice a b.length c) := by rw [hw0]; go_simp
  have p3 : w0.frozen? ⟨W.heap.size, 2, none⟩ = false := by rw [hw0]; go_simp
  have q0 : w0.cell? ⟨W.heap.size + 1, 0, none⟩ = some (.bool false) := by rw [hw0]; go_simp
  have q1 : w0.cell? ⟨W.heap.size + 1, 1, none⟩ = some (.int .i64 0) := by rw [hw0]; go_simp
  have q2 : w0.cell? ⟨W.heap.size + 1, 2, none⟩ = some (.slice none 0 0) := by rw [hw0]; go_simp
  have q3 : ∀ j, w0.frozen? ⟨W.heap.size + 1, j, none⟩ = false := by intro j; rw [hw0]; go_simp
  have hsz0 : w0.heap.size = W.heap.size + 2 := by rw [hw0]; simp
  rw [← hw0] at S0
  have HW := Lib.hid hw0
  clear hw0
  obtain ⟨B, hB⟩ : ∃ B, B = W.heap.size := ⟨_, rfl⟩
  obtain ⟨B1, hB1⟩ : ∃ B1, B1 = W.heap.size + 1 := ⟨_, rfl⟩
  have hBW : W.heap.size ≤ B := by omega
  have hBW1 : W.heap.size ≤ B1 := by omega
  have hBB : ¬ B1 = B := by omega
  have hBB' : ¬ B = B1 := by omega
  have hB0 : B < w0.heap.size := by omega
  have hB10 : B1 < w0.heap.size := by omega
  rw [← hB1] at q0 q1 q2 q3
  rw [← hB] at p0 p1 p2 p3
  have HB := Lib.hid hB
  have HB1 := Lib.hid hB1
  clear hB hB1 hsz0
  have HDW := Lib.hid (Dirty.old S0.below (fun _ => False))
  go_enter Try.func35, Try.ntmps35
  go_upto_region 1 with fail
  rw [← HW.out, ← HB1.out, ← HB.out]
  go_wp2_with (go_at_call 43; refine (CloneKepts_any _ b W _ HDW.out hv hb).mono ?_; rintro e w1 ⟨⟨v1, rfl, ho1⟩, hb1⟩; obtain ⟨a1, cp1, rfl, hcp1, ⟨_, hcpm, _⟩, _⟩ := ho1.isRow.opened; have e0 := below_cell hb1 p0; have e1 := below_cell hb1 p1; have e2 := below_cell hb1 p2; have e3 := below_free hb1 p2 p3; have k0 := below_cell hb1 q0; have k1 := below_cell hb1 q1; have k2 := below_cell hb1 q2; have hh1 := hB10; have k3 : ∀ j, w1.frozen? ⟨B1, j, none⟩ = false := fun j => (hb1.frozen (p := ⟨B1, j, none⟩) hB10).trans (q3 j))
  have hlo := ho1.lt
  have hn2 : (Value.slice a1 b.length cp1).ownBlock = none ∨ (Value.slice a1 b.length cp1).ownBlock ≠ some B := by
    cases hk : (Value.slice a1 b.length cp1).ownBlock with
    | none => exact Or.inl rfl
    | some k => right; intro e; cases e; have := (hlo B hk).1; omega
  have ho2 := (ho1.weaken (E' := fun k => W.heap.size ≤ k ∧ k < w0.heap.size) (fun k _ h => Or.inl h.1)).kept (grown_setCell w1 ⟨B, 2, none⟩ (.slice a1 b.length cp1)) (by intro k hk; cases hk; exact ⟨hBW, hB0⟩) hn2
  have ho3 := ho2.flag (C := numsIn (fun k => w0.heap.size ≤ k ∧ (Value.slice a1 b.length cp1).ownBlock ≠ some k))
  have HOB := Lib.hid (fun k hk => (hlo k hk).1)
  have S3 := (S0.step hb1).setCell (a := ⟨B, 2, none⟩) hBW (.slice a1 b.length cp1)
  have hs3 : w0.heap.size ≤ (w1.setCell ⟨B, 2, none⟩ (.slice a1 b.length cp1)).heap.size := by have := hb1.size; simpa using this
  have m0 : (w1.setCell ⟨B, 2, none⟩ (.slice a1 b.length cp1)).cell? ⟨B, 0, none⟩ = some (.bool t) := by go_simp
  have m1 : (w1.setCell ⟨B, 2, none⟩ (.slice a1 b.length cp1)).cell? ⟨B, 1, none⟩ = some (.int .i64 r) := by go_simp
  have m2 : (w1.setCell ⟨B, 2, none⟩ (.slice a1 b.length cp1)).cell? ⟨B, 2, none⟩ = some (.slice a1 b.length cp1) := by go_simp
  have j0 : (w1.setCell ⟨B, 2, none⟩ (.slice a1 b.length cp1)).cell? ⟨B1, 0, none⟩ = some (.bool false) := by go_simp
  have j1 : (w1.setCell ⟨B, 2, none⟩ (.slice a1 b.length cp1)).cell? ⟨B1, 1, none⟩ = some (.int .i64 0) := by go_simp
  have j2 : (w1.setCell ⟨B, 2, none⟩ (.slice a1 b.length cp1)).cell? ⟨B1, 2, none⟩ = some (.slice none 0 0) := by go_simp
  have j3 : ∀ j, (w1.setCell ⟨B, 2, none⟩ (.slice a1 b.length cp1)).frozen? ⟨B1, j, none⟩ = false := by intro j; rw [World.frozen?_setCell]; exact k3 j
  clear ho1 ho2 hlo hn2 e0 e1 e2 e3 k0 k1 k2 k3 hb1 p0 p1 p2 p3 q0 q1 q2 q3
  generalize w1.setCell ⟨B, 2, none⟩ (.slice a1 b.length cp1) = w3 at *
  have HSB : Hid (∀ w', Since w0.heap.size w3 w' → w'.cell? ⟨B, 2, none⟩ = some (.slice a1 b.length cp1)) := Lib.hid (fun w' q => (q.below.cell (p := ⟨B, 2, none⟩) hB0).trans m2)
  have HSC : Hid (∀ w', Since w0.heap.size w3 w' → w'.cell? ⟨B, 0, none⟩ = some (.bool t) ∧ w'.cell? ⟨B, 1, none⟩ = some (.int .i64 r) ∧ w'.cell? ⟨B1, 0, none⟩ = some (.bool false) ∧ w'.cell? ⟨B1, 1, none⟩ = some (.int .i64 0) ∧ w'.cell? ⟨B1, 2, none⟩ = some (.slice none 0 0) ∧ ∀ j, w'.frozen? ⟨B1, j, none⟩ = false) :=
    Lib.hid (fun w' q => ⟨(q.below.cell (p := ⟨B, 0, none⟩) hB0).trans m0, (q.below.cell (p := ⟨B, 1, none⟩) hB0).trans m1, (q.below.cell (p := ⟨B1, 0, none⟩) hB10).trans j0, (q.below.cell (p := ⟨B1, 1, none⟩) hB10).trans j1, (q.below.cell (p := ⟨B1, 2, none⟩) hB10).trans j2, fun j => (q.below.frozen (p := ⟨B1, j, none⟩) hB10).trans (j3 j)⟩)
  clear m0 m1 m2 j0 j1 j2 j3
  have HS3 := Lib.hid S3
  have HS0 := Lib.hid S0.2
  go_loopw [12] (fun i wr => ∃ k : Nat, k ≤ b.length ∧ i = .int .i64 k ∧ Since w0.heap.size w3 wr ∧ OwnRow 3 (RFlag RKept (numsIn (fun k => w0.heap.size ≤ k ∧ (Value.slice a1 b.length cp1).ownBlock ≠ some k))) (fun k => W.heap.size ≤ k ∧ k < w0.heap.size) wr 44 w0.heap.size (.slice a1 b.length cp1) (flagL b k)) (fun i _ => b.length - (intOf i).toNat)
  case atStart => exact ⟨0, by omega, rfl, ⟨Below.refl _ _, hs3⟩, ho3⟩
  case round =>
    obtain ⟨k, hk, rfl, hS, ho⟩ := hrel
    clear S3 hs3 ho3 S0
    by_cases hlt : k < b.length
    · have hx : b[k]? = some b[k] := List.getElem?_eq_getElem hlt
      generalize b[k] = x at *
      obtain ⟨g, cap, u, cu, ev, hg1, hg2, hcap, k0, n1, n2, hp, i1, i2, fz⟩ := ownKept_at ho.unflag hx
      simp only [Value.slice.injEq, true_and] at ev
      obtain ⟨rfl, rfl⟩ := ev
      have HX := Lib.hid hx
      clear hx
      have s1 : (k : Int) < (b.length : Int) := by omega
      have BB := below_alloc wr (.cells #[.int .i64 x.1, .int .i64 x.2.1, .slice u x.2.2.length cu] 44)
      have S4 := hS.alloc (.cells #[.int .i64 x.1, .int .i64 x.2.1, .slice u x.2.2.length cu] 44)
      have hp4 := hp.stays BB
      have ho4 := ho.stays BB
      have c1 := below_cell BB n1
      have c2 := below_cell BB n2
      have z1 := below_free BB n1 (fz _)
      have z2 := below_free BB n2 (fz _)
      have r1 : (wr.alloc (.cells #[.int .i64 x.1, .int .i64 x.2.1, .slice u x.2.2.length cu] 44)).cell? ⟨wr.heap.size, 1, none⟩ = some (.int .i64 x.2.1) := by go_simp
      have r2 : (wr.alloc (.cells #[.int .i64 x.1, .int .i64 x.2.1, .slice u x.2.2.length cu] 44)).cell? ⟨wr.heap.size, 2, none⟩ = some (.slice u x.2.2.length cu) := by go_simp
      go_upto_region 5 with fail
      clear k0 n1 n2 fz hp
      obtain ⟨r0, hr0⟩ : ∃ r0, r0 = wr.heap.size := ⟨_, rfl⟩
      have hgr : g < r0 := by omega
      have hr1 : w0.heap.size ≤ r0 := by have := hS.2; omega
      have hBg : B ≠ g := by omega
      have hrg : r0 ≠ g := by omega
      rw [← hr0] at r1 r2 ⊢
      clear hr0 hg2 ho hS BB
      generalize wr.alloc (.cells #[.int .i64 x.1, .int .i64 x.2.1, .slice u x.2.2.length cu] 44) = w4 at *
      have hb4 := HSB.out w4 S4
      have d0 : w4.drew.cell? ⟨B, 2, none⟩ = some (.slice (some ⟨g, 0, none⟩) b.length cp1) ∧ w4.drew.cell? ⟨r0, 1, none⟩ = some (.int .i64 x.2.1) ∧ w4.drew.cell? ⟨r0, 2, none⟩ = some (.slice u x.2.2.length cu) := ⟨hb4, r1, r2⟩
      clear hb4
      have HP4 := Lib.hid hp4.drew
      have U4 := Since.refl w4.drew
      have q1 : w4.drew.cell? ⟨g, k * 3 + 1, none⟩ = some (.int .i64 x.2.1) := c1
      have q2 : w4.drew.cell? ⟨g, k * 3 + 2, none⟩ = some (.slice u x.2.2.length cu) := c2
      have y1 : w4.drew.frozen? ⟨g, k * 3 + 1, none⟩ = false := z1
      have y2 : w4.drew.frozen? ⟨g, k * 3 + 2, none⟩ = false := z2
      clear c1 c2 z1 z2 hp4
      go_region_held3 (fun w' => w'.cell? ⟨B, 2, none⟩ = some (.slice (some ⟨g, 0, none⟩) b.length cp1) ∧ w'.cell? ⟨r0, 1, none⟩ = some (.int .i64 x.2.1) ∧ w'.cell? ⟨r0, 2, none⟩ = some (.slice u x.2.2.length cu)) (first | exact d0 | exact d5 | exact ⟨(cell_set_other _ _ _ _ hBg).trans ((cell_set_other _ _ _ _ hBg).trans d5.1), (cell_set_other _ _ _ _ hrg).trans ((cell_set_other _ _ _ _ hrg).trans d5.2.1), (cell_set_other _ _ _ _ hrg).trans ((cell_set_other _ _ _ _ hrg).trans d5.2.2)⟩) (first
        | (go_at_call 37; refine (shareCopy_any x.2.1 _ x.2.2 _ HP4.out).mono ?_; rintro e w5 ⟨⟨v5, rfl, hv5⟩, hb5⟩; obtain ⟨a5, c5, rfl, _⟩ := hv5.isInts.opened; have d5 : w5.cell? ⟨B, 2, none⟩ = some (.slice (some ⟨g, 0, none⟩) b.length cp1) ∧ w5.cell? ⟨r0, 1, none⟩ = some (.int .i64 x.2.1) ∧ w5.cell? ⟨r0, 2, none⟩ = some (.slice u x.2.2.length cu) := ⟨below_cell hb5 d0.1, below_cell hb5 d0.2.1, below_cell hb5 d0.2.2⟩; have t1 := below_cell hb5 q1; have t2 := below_cell hb5 q2; have x1 := below_free hb5 q1 y1; have x2 := below_free hb5 q2 y2))
      all_goals
        have S6 : Since w0.heap.size w3 ((w5.setCell ⟨g, k * 3 + 1, none⟩ (.int .i64 x.2.1)).setCell ⟨g, k * 3 + 1 + 1, none⟩ (.slice a5 x.2.2.length c5)) := ((S4.drew.step hb5).setCell (a := ⟨g, k * 3 + 1, none⟩) hg1 (.int .i64 x.2.1)).setCell (a := ⟨g, k * 3 + 1 + 1, none⟩) hg1 (.slice a5 x.2.2.length c5)
        have ho6 : OwnRow 3 (RFlag RKept (numsIn (fun k => w0.heap.size ≤ k ∧ (Value.slice (some ⟨g, 0, none⟩) b.length cp1).ownBlock ≠ some k))) (fun k => W.heap.size ≤ k ∧ k < w0.heap.size) ((w5.setCell ⟨g, k * 3 + 1, none⟩ (.int .i64 x.2.1)).setCell ⟨g, k * 3 + 1 + 1, none⟩ (.slice a5 x.2.2.length c5)) 44 w0.heap.size (.slice (some ⟨g, 0, none⟩) b.length cp1) (flagL b (k + 1)) :=
          (ho4.drew.stays hb5).copyShare HX.out hv5.isInts (fun m hm => by
            have h1 := (hv5.lies m hm).1
            have h2 := cell_lt d0.2.1
            simp at h1 h2
            exact ⟨by omega, fun hh => by omega⟩) (fun m hm => by
            have h1 := (hv5.lies m hm).1
            have h2 := cell_lt d0.2.1
            simp at h1 h2
            exact ⟨by omega, by intro e; simp [Value.ownBlock] at e; omega⟩)
        clear d0 d5 q1 q2 y1 y2 t1 t2 x1 x2 hv5 hb5 ho4 S4 U4
        generalize (w5.setCell ⟨g, k * 3 + 1, none⟩ (.int .i64 x.2.1)).setCell ⟨g, k * 3 + 1 + 1, none⟩ (.slice a5 x.2.2.length c5) = w6 at *
        go_wp2_with fail
        go_roundw
        case rel => exact ⟨k + 1, by omega, by go_num, S6, ho6⟩
        case measure => simp [intOf]; omega
    · obtain rfl : b.length = k := by omega
      have hB := HSB.out wr hS
      obtain ⟨m0, m1, j0, j1, j2, j3⟩ := HSC.out wr hS
      have hn : ∀ k, k < w0.heap.size → (Value.slice a1 b.length cp1).ownBlock = none ∨ (Value.slice a1 b.length cp1).ownBlock ≠ some k := fun k hk => by
        cases hq : (Value.slice a1 b.length cp1).ownBlock with
        | none => exact Or.inl rfl
        | some j => right; intro e; cases e; have := HOB.out _ hq; omega
      have hEB : ∀ k, some B1 = some k → W.heap.size ≤ k ∧ k < w0.heap.size := fun k hk => by cases hk; exact ⟨hBW1, hB10⟩
      have ho7 := ((((ho.kept (grown_setCell wr ⟨B1, 0, none⟩ (.bool t)) hEB (hn B1 hB10)).kept (grown_setCell _ ⟨B1, 1, none⟩ (.int .i64 r)) hEB (hn B1 hB10)).kept (grown_setCell _ ⟨B1, 2, none⟩ (.slice a1 b.length cp1)) hEB (hn B1 hB10)).copiedK (E' := fun k => k < W.heap.size) (fun k hk => ⟨hk.2, by have := hk.1; have := HS0.out; omega⟩)).mono HS0.out
      have S7 : Since W.heap.size W (((wr.setCell ⟨B1, 0, none⟩ (.bool t)).setCell ⟨B1, 1, none⟩ (.int .i64 r)).setCell ⟨B1, 2, none⟩ (.slice a1 b.length cp1)) :=
        (((show Since W.heap.size W wr from ⟨HS3.out.below.trans (hS.below.mono HS0.out), by have := hS.2; omega⟩).setCell (a := ⟨B1, 0, none⟩) hBW1 (.bool t)).setCell (a := ⟨B1, 1, none⟩) hBW1 (.int .i64 r)).setCell (a := ⟨B1, 2, none⟩) hBW1 (.slice a1 b.length cp1)
      have v0 : (((wr.setCell ⟨B1, 0, none⟩ (.bool t)).setCell ⟨B1, 1, none⟩ (.int .i64 r)).setCell ⟨B1, 2, none⟩ (.slice a1 b.length cp1)).cell? ⟨B1, 0, none⟩ = some (.bool t) := by go_simp
      have v1 : (((wr.setCell ⟨B1, 0, none⟩ (.bool t)).setCell ⟨B1, 1, none⟩ (.int .i64 r)).setCell ⟨B1, 2, none⟩ (.slice a1 b.length cp1)).cell? ⟨B1, 1, none⟩ = some (.int .i64 r) := by go_simp
      have v2 : (((wr.setCell ⟨B1, 0, none⟩ (.bool t)).setCell ⟨B1, 1, none⟩ (.int .i64 r)).setCell ⟨B1, 2, none⟩ (.slice a1 b.length cp1)).cell? ⟨B1, 2, none⟩ = some (.slice a1 b.length cp1) := by go_simp
      have f0 := j3 0
      have f1 := j3 1
      have f2 := j3 2
      have HO7 := Lib.hid ho7
      clear ho hS hn hEB ho7 j3
      go_wp2_with fail
      clear m0 m1 j0 j1 j2 f0 f1 f2 hB
      generalize ((wr.setCell ⟨B1, 0, none⟩ (.bool t)).setCell ⟨B1, 1, none⟩ (.int .i64 r)).setCell ⟨B1, 2, none⟩ (.slice a1 b.length cp1) = w7 at *
      exact bodyPost_ret (v := .agg #[.bool t, .int .i64 r, .slice a1 b.length cp1]) (by simp [results, Try.results35, go_sem, v0, v1, v2]) rfl ⟨⟨_, rfl, HO7.out⟩, S7.below⟩

end Go.Proofs.Ytpjlngkndofjfaa
