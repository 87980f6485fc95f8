/-
  The walks of a book's copy, and of what makes one.
-/
import Derived.Test.YtlaabmpadikkjaaBook2
import Derived.Test.YtlaabmpadikkjaaRow2
import Derived.Deep.RegionHeld3
namespace Go.Proofs.Ytlaabmpadikkjaa
open Go.RowKit

theorem RVer.one : RVer.One := by
  rintro w cs x ⟨v, rfl, h, _⟩ c hc
  obtain ⟨a, cp, rfl, _⟩ := h.opened
  simp at hc
  rcases hc with rfl | rfl | rfl | rfl <;> rfl
theorem info_ver : (Try.prog.info? 63).map (fun i => (i.zero, i.size, i.bytes)) = some (some (.agg #[.slice none 0 0, .int .i64 0, .int .i64 0, .int .i64 0]), 4, 48) := by kernel_rfl

set_option maxHeartbeats 400000 in
theorem CloneVers_any (v : Value) (b : List Ver) (w0 w : World) (hw0 : Dirty (fun _ => False) w0 w) (hv : IsVers w0 v b) (hb : b.length ≤ 1000000) :
    Calls Try.prog 73 #[v] w fun e w' => (∃ v', e = .returned v' ∧ OwnRow 4 RVer (fun k => w0.heap.size ≤ k) w' 63 w.heap.size v' b) ∧ Below w.heap.size w w' := by
  have hq : ∀ (w : World) (a : Option Addr) (n c n' c' : Nat), (binOp .eql 48 (.slice a n c) (.slice none n' c')).run Try.prog w = .ok (.bool a.isNone) w := fun w a n c n' c' => Lib.run_eql_slice_nil w _ _ a n c n' c' Try.underlying48
  have hv0 := hv
  obtain ⟨ax, cx, rfl, hcx, hmx, hx⟩ := hv.opened
  obtain ⟨hm1, hm2, hm3⟩ := hmx
  cases ax with
  | none =>
    have hc0 := hm3 rfl
    have hl0 : b = [] := by
      cases b with
      | nil => rfl
      | cons y r => obtain ⟨b, off, e1, _⟩ := hx 0 y rfl; cases e1
    subst hc0 hl0
    clear hx
    go_enter Try.func73, Try.ntmps73
    go_wp2
    go_ret
    exact ⟨⟨_, rfl, OwnRow.nil _ _ _⟩, Below.refl _ _⟩
  | some ad =>
    clear hm3 hx hv
    have hown := OwnRow.made (R := RVer) (sz := 4) (E := fun k => w0.heap.size ≤ k) w 63
    have HV := Lib.hid hv0
    have HD : Hid (Dirty (fun _ => False) w0 (w.alloc (.cells #[] 63))) := Lib.hid (hw0.trans (Dirty.old (below_alloc _ _) _))
    have hsz := hw0.1
    clear hv0 hw0
    go_enter Try.func73, Try.ntmps73
    go_wp2_with (at_builtin; refine wpList_append_rows rfl _ _ 48 rfl 4 _ 63 Try.underlying48 _ 48 info_ver rfl (by omega) (by omega) w.heap.size _ [] rfl hown w0 HD.out b _ rfl HV.out RVer.stays RVer.one (by intro k hk; rcases hk with hk | hk; (cases hk; exact hsz); exact hk) (by simpa using hb) (by simp) ?_; intro v' w1 hown1 hg1 _)
    go_ret
    exact ⟨⟨_, rfl, hown1⟩, below_row (below_alloc _ _) hown hg1 (by simp)⟩

/-- An own row's version at a place. -/
theorem ownVer_at {E : Nat → Prop} {w : World} {e : TypeId} {base : Nat} {v : Value} {b : List Ver} (h : OwnRow 4 RVer E w e base v b) {i : Nat} {x : Ver} (hx : b[i]? = some x) :
    ∃ g cap u c, v = .slice (some ⟨g, 0, none⟩) b.length cap ∧ base ≤ g ∧ g < w.heap.size ∧ b.length ≤ cap ∧ w.cell? ⟨g, i * 4, none⟩ = some (.slice u x.1.length c) ∧ w.cell? ⟨g, i * 4 + 1, none⟩ = some (.int .i64 x.2.1) ∧ w.cell? ⟨g, i * 4 + 2, none⟩ = some (.int .i64 x.2.2.1) ∧ w.cell? ⟨g, i * 4 + 3, none⟩ = some (.int .i64 x.2.2.2) ∧ IsInts w (.slice u x.1.length c) x.1 ∧ I64 x.2.1 ∧ I64 x.2.2.1 ∧ I64 x.2.2.2 ∧ w.frozen? ⟨g, i * 4, none⟩ = false := by
  obtain ⟨r, g, hg, hl, h1, hc, hf⟩ := h.get hx
  rcases h.shape with ⟨rfl, rfl⟩ | ⟨g', cap, cur, rfl, hb, hlt, hnc, _⟩
  · simp at hx
  · simp only [Value.ownBlock, Option.some.injEq] at hg
    subst hg
    obtain ⟨u, rfl, hu, i1, i2, i3⟩ := hf.now
    obtain ⟨a, c, rfl, _⟩ := hu.opened
    exact ⟨g', cap, a, c, rfl, hb, hlt, hnc, hc 0 _ rfl, hc 1 _ rfl, hc 2 _ rfl, hc 3 _ rfl, hu, i1, i2, i3, h.free rfl _⟩
theorem set_same {α : Type} {l : List α} {i : Nat} {x : α} (h : l[i]? = some x) : l.set i x = l := by
  apply List.ext_getElem?
  intro j
  rw [List.getElem?_set]
  by_cases hij : i = j
  · subst hij
    rw [if_pos rfl, if_pos (List.getElem?_eq_some_iff.1 h).1, h]
  · rw [if_neg hij]
/-- Its parents are stored anew: they lie in another block. -/
theorem OwnRow.setPars {E : Nat → Prop} {w : World} {e : TypeId} {base : Nat} {b : List Ver} {g cap L : Nat} (h : OwnRow 4 RVer E w e base (.slice (some ⟨g, 0, none⟩) L cap) b) {i : Nat} {x : Ver} (hx : b[i]? = some x) {u : Value} {l : List Int} (hu : IsInts w u l) (hg : ∀ k, Value.lies u k → k ≠ g ∧ ¬ E k) :
    OwnRow 4 RVer E (w.setCell ⟨g, i * 4, none⟩ u) e base (.slice (some ⟨g, 0, none⟩) L cap) (b.set i (l, x.2)) := by
  obtain ⟨r, g', hg', hl, h1, hc, hf⟩ := h.get hx
  simp only [Value.ownBlock, Option.some.injEq] at hg'
  subst hg'
  have hone : u.oneCell' = true := by obtain ⟨a, c, rfl, _⟩ := hu.opened; rfl
  obtain ⟨u0, rfl, _, i1, i2, i3⟩ := hf.now
  refine h.set (j := 0) hx rfl hl hc (by omega) hone ?_
  intro w' hw'
  refine ⟨u, rfl, hu.framed (fun k hk _ hd => ?_) hw', i1, i2, i3⟩
  simp only [Value.ownBlock, Option.some.injEq] at hd
  rcases hd with hd | hd
  · exact (hg k hk).1 hd.symm
  · exact (hg k hk).2 hd

/-- The parents of a version lie in such a block. -/
def parsIn (N : Nat → Prop) (cs : List Value) : Prop := ∀ u, cs[0]? = some u → ∀ k, Value.lies u k → N k
theorem OwnRow.copyPars {E N : Nat → Prop} {w : World} {e : TypeId} {base : Nat} {b : List Ver} {g cap L k : Nat} (h : OwnRow 4 (RFlag RVer (parsIn N)) E w e base (.slice (some ⟨g, 0, none⟩) L cap) (flagL b k)) {x : Ver} (hx : b[k]? = some x) {u : Value} (hu : IsInts w u x.1) (hg : ∀ k, Value.lies u k → k ≠ g ∧ ¬ E k) (hN : ∀ k, Value.lies u k → N k) :
    OwnRow 4 (RFlag RVer (parsIn N)) E (w.setCell ⟨g, k * 4, none⟩ u) e base (.slice (some ⟨g, 0, none⟩) L cap) (flagL b (k + 1)) := by
  have hx' := flagL_get hx
  obtain ⟨r, g', hg', hl, h1, hc, hf⟩ := h.get hx'
  simp only [Value.ownBlock, Option.some.injEq] at hg'
  subst hg'
  have hone : u.oneCell' = true := by obtain ⟨a, c, rfl, _⟩ := hu.opened; rfl
  obtain ⟨⟨u0, rfl, _, i1, i2, i3⟩, _⟩ := hf.now
  rw [← flagL_step hx]
  refine h.set (j := 0) hx' rfl hl hc (by omega) hone ?_
  intro w' hw'
  refine ⟨⟨u, rfl, hu.framed (fun k hk _ hd => ?_) hw', i1, i2, i3⟩, fun _ u' hu' k hk => ?_⟩
  · simp only [Value.ownBlock, Option.some.injEq] at hd
    rcases hd with hd | hd
    · exact (hg k hk).1 hd.symm
    · exact (hg k hk).2 hd
  · simp at hu'
    subst hu'
    exact hN k hk
theorem OwnRow.copied {E E' N : Nat → Prop} {w : World} {e : TypeId} {base : Nat} {b : List Ver} {v : Value} (h : OwnRow 4 (RFlag RVer (parsIn N)) E w e base v (flagL b b.length)) (hN : ∀ k, N k → v.ownBlock ≠ some k ∧ ¬ E' k) : OwnRow 4 RVer E' w e base v b := by
  rw [flagL_all] at h
  have := h.conv (R' := RVer) (E' := E') Prod.fst (fun cs x hx hf => by
    obtain ⟨y, hy, rfl⟩ := List.mem_map.1 hx
    obtain ⟨⟨u, rfl, hu, i⟩, hC⟩ := hf.now
    intro w' hw'
    refine ⟨u, rfl, hu.framed (fun k hk _ hd => ?_) hw', i⟩
    have := hN k (hC rfl u rfl k hk)
    rcases hd with hd | hd
    · exact this.1 hd
    · exact this.2 hd)
  simpa [Function.comp_def] using this

set_option maxRecDepth 100000 in
set_option maxHeartbeats 2000000 in
theorem bookCopy_any (v : Value) (b : List Ver) (W : World) (hv : IsVers W v b) (hb : b.length ≤ 1000000) :
    Calls Try.prog 72 #[.agg #[v]] W fun e w' => (∃ v', e = .returned (.agg #[v']) ∧ OwnRow 4 RVer (fun k => k < W.heap.size) w' 63 W.heap.size v' b) ∧ Below W.heap.size W w' := by
  obtain ⟨a, c, rfl, hc, ⟨hm, hcm, _⟩, _⟩ := hv.opened
  have S0 := ((Since.refl W).alloc (.cells #[.slice a b.length c] 50)).alloc (.cells #[.slice none 0 0] 50)
  have c0 : ((W.alloc (.cells #[.slice a b.length c] 50)).alloc (.cells #[.slice none 0 0] 50)).cell? ⟨W.heap.size, 0, none⟩ = some (.slice a b.length c) := by go_simp
  have f0 : ((W.alloc (.cells #[.slice a b.length c] 50)).alloc (.cells #[.slice none 0 0] 50)).frozen? ⟨W.heap.size, 0, none⟩ = false := by go_simp
  have c1 : ((W.alloc (.cells #[.slice a b.length c] 50)).alloc (.cells #[.slice none 0 0] 50)).cell? ⟨W.heap.size + 1, 0, none⟩ = some (.slice none 0 0) := by go_simp
  have f1 : ((W.alloc (.cells #[.slice a b.length c] 50)).alloc (.cells #[.slice none 0 0] 50)).frozen? ⟨W.heap.size + 1, 0, none⟩ = false := by go_simp
  obtain ⟨w0, hw0⟩ : ∃ w0, w0 = (W.alloc (.cells #[.slice a b.length c] 50)).alloc (.cells #[.slice none 0 0] 50) := ⟨_, rfl⟩
  rw [← hw0] at S0 c0 f0 c1 f1
  have HW := Lib.hid hw0
  clear hw0
  obtain ⟨B, hB⟩ : ∃ B, B = W.heap.size := ⟨_, rfl⟩
  obtain ⟨B1, hB1⟩ : ∃ B1, B1 = W.heap.size + 1 := ⟨_, rfl⟩
  have hBW : W.heap.size ≤ B := by omega
  have hBB : ¬ B1 = B := by omega
  rw [← hB] at c0 f0
  rw [← hB1] at c1 f1
  have HB := Lib.hid hB
  have HB1 := Lib.hid hB1
  clear hB hB1
  have l0 := cell_lt c0
  have l1 := cell_lt c1
  have HDW := Lib.hid (Dirty.old S0.below (fun _ => False))
  go_enter Try.func72, Try.ntmps72
  go_wp2_with fail
  rw [← HW.out, ← HB1.out, ← HB.out]
  refine (CloneVers_any _ b W _ HDW.out hv hb).mono ?_
  rintro e w1 ⟨⟨v1, rfl, ho1⟩, hb1⟩
  have T1 := (Since.refl w0).step hb1
  have ho2 := ho1.weaken (E' := fun k => W.heap.size ≤ k ∧ k < w0.heap.size) (fun k _ h => Or.inl h.1)
  have hlo := ho1.lt
  clear ho1
  have d0 := (hb1.cell (p := ⟨B, 0, none⟩) l0).trans c0
  have g0 := (hb1.frozen (p := ⟨B, 0, none⟩) l0).trans f0
  have d1 := (hb1.cell (p := ⟨B1, 0, none⟩) l1).trans c1
  have g1 := (hb1.frozen (p := ⟨B1, 0, none⟩) l1).trans f1
  obtain ⟨a1, cp1, rfl, hcp1, ⟨_, hcpm, _⟩, _⟩ := ho2.isRow.opened
  have hoB : ∀ k, (Value.slice a1 b.length cp1).ownBlock = some k → w0.heap.size ≤ k := fun k hk => (hlo k hk).1
  have HOB := Lib.hid hoB
  clear hoB hlo c0 f0 c1 f1 hb1
  have hn2 : (Value.slice a1 b.length cp1).ownBlock = none ∨ (Value.slice a1 b.length cp1).ownBlock ≠ some B := by
    cases hk : (Value.slice a1 b.length cp1).ownBlock with
    | none => exact Or.inl rfl
    | some k => right; intro e; cases e; have := HOB.out B hk; omega
  have ho3 := ho2.kept (grown_setCell w1 ⟨B, 0, none⟩ (.slice a1 b.length cp1)) (by intro k hk; cases hk; exact ⟨hBW, l0⟩) hn2
  have ho3 := ho3.flag (C := parsIn (fun k => w0.heap.size ≤ k ∧ (Value.slice a1 b.length cp1).ownBlock ≠ some k))
  have S3 := (S0.step T1.below).setCell (a := ⟨B, 0, none⟩) hBW (.slice a1 b.length cp1)
  have hs3 : w0.heap.size ≤ (w1.setCell ⟨B, 0, none⟩ (.slice a1 b.length cp1)).heap.size := by simpa using T1.2
  have e0 : (w1.setCell ⟨B, 0, none⟩ (.slice a1 b.length cp1)).cell? ⟨B, 0, none⟩ = some (.slice a1 b.length cp1) := by go_simp
  have e1 : (w1.setCell ⟨B, 0, none⟩ (.slice a1 b.length cp1)).cell? ⟨B1, 0, none⟩ = some (.slice none 0 0) := by go_simp
  have k1 : (w1.setCell ⟨B, 0, none⟩ (.slice a1 b.length cp1)).frozen? ⟨B1, 0, none⟩ = false := by go_simp
  clear ho2 T1 d1 g1
  go_wp2_with fail
  clear d0 g0
  generalize w1.setCell ⟨B, 0, none⟩ (.slice a1 b.length cp1) = w3 at *
  go_loopw [12] (fun i wr => ∃ k : Nat, k ≤ b.length ∧ i = .int .i64 k ∧ Since W.heap.size W wr ∧ w0.heap.size ≤ wr.heap.size ∧ wr.cell? ⟨B, 0, none⟩ = some (.slice a1 b.length cp1) ∧ wr.cell? ⟨B1, 0, none⟩ = some (.slice none 0 0) ∧ wr.frozen? ⟨B1, 0, none⟩ = false ∧ OwnRow 4 (RFlag RVer (parsIn (fun k => w0.heap.size ≤ k ∧ (Value.slice a1 b.length cp1).ownBlock ≠ some k))) (fun k => W.heap.size ≤ k ∧ k < w0.heap.size) wr 63 w0.heap.size (.slice a1 b.length cp1) (flagL b k)) (fun i _ => b.length - (intOf i).toNat)
  case atStart => exact ⟨0, by omega, rfl, S3, hs3, e0, e1, k1, ho3⟩
  case round =>
    obtain ⟨k, hk, rfl, hS, hsz, e0, e1, k1, ho⟩ := hrel
    clear S3 hs3 ho3
    by_cases hlt : k < b.length
    · have hx : b[k]? = some b[k] := List.getElem?_eq_getElem hlt
      generalize b[k] = x at *
      obtain ⟨g, cap, u, cu, ev, hg1, hg2, hcap, k0, n1, n2, n3, hp, i1, i2, i3, fz⟩ := ownVer_at ho.unflag hx
      simp only [Value.slice.injEq, true_and] at ev
      obtain ⟨rfl, rfl⟩ := ev
      have HX := Lib.hid hx
      clear hx
      have s1 : (k : Int) < (b.length : Int) := by omega
      have B1' := below_alloc wr (.cells #[.slice u x.1.length cu, .int .i64 x.2.1, .int .i64 x.2.2.1, .int .i64 x.2.2.2] 63)
      have S4 := hS.alloc (.cells #[.slice u x.1.length cu, .int .i64 x.2.1, .int .i64 x.2.2.1, .int .i64 x.2.2.2] 63)
      have hp4 := hp.stays B1'
      have ho4 := ho.stays B1'
      have d0 := (B1'.cell (p := ⟨B, 0, none⟩) (cell_lt e0)).trans e0
      have d1 := (B1'.cell (p := ⟨B1, 0, none⟩) (cell_lt e1)).trans e1
      have d2 := (B1'.frozen (p := ⟨B1, 0, none⟩) (cell_lt e1)).trans k1
      have d3 := (B1'.cell (p := ⟨g, k * 4, none⟩) hg2).trans k0
      have d4 := (B1'.frozen (p := ⟨g, k * 4, none⟩) hg2).trans fz
      have d5 : (wr.alloc (.cells #[.slice u x.1.length cu, .int .i64 x.2.1, .int .i64 x.2.2.1, .int .i64 x.2.2.2] 63)).cell? ⟨wr.heap.size, 0, none⟩ = some (.slice u x.1.length cu) := by go_simp
      go_wp2_with fail
      clear k0 n1 n2 n3 fz e0 e1 k1 hp
      obtain ⟨r0, hr0⟩ : ∃ r0, r0 = wr.heap.size := ⟨_, rfl⟩
      have hgr : g < r0 := by omega
      have hr1 : w0.heap.size ≤ r0 := by omega
      have hBg : B ≠ g := by omega
      have hrg : r0 ≠ g := by omega
      have hw4 : r0 < (wr.alloc (.cells #[.slice u x.1.length cu, .int .i64 x.2.1, .int .i64 x.2.2.1, .int .i64 x.2.2.2] 63)).heap.size := by simp; omega
      rw [← hr0] at d5 ⊢
      clear hr0 hg2 ho hS B1' hsz
      generalize wr.alloc (.cells #[.slice u x.1.length cu, .int .i64 x.2.1, .int .i64 x.2.2.1, .int .i64 x.2.2.2] 63) = w4 at *
      go_region_held3 (fun w' => w'.cell? ⟨B, 0, none⟩ = some (.slice (some ⟨g, 0, none⟩) b.length cp1) ∧ w'.cell? ⟨r0, 0, none⟩ = some (.slice u x.1.length cu)) (first | exact ⟨d0, d5⟩ | exact ⟨d0', d5'⟩ | exact ⟨(cell_set_other _ _ _ _ hBg).trans d0', (cell_set_other _ _ _ _ hrg).trans d5'⟩) (first | (go_at_call 30; refine (Clone_ints _ x.1 _ hp4.drew).mono ?_; rintro e w5 ⟨⟨v5, rfl, hv5⟩, hb5⟩; obtain ⟨a5, c5, rfl, _⟩ := hv5.isInts.opened; have d0' := (Below.cell hb5 (p := ⟨B, 0, none⟩) (cell_lt d0)).trans d0; have d5' := (Below.cell hb5 (p := ⟨r0, 0, none⟩) hw4).trans d5; have d3' := (Below.cell hb5 (p := ⟨g, k * 4, none⟩) (cell_lt d3)).trans d3; have d4' := (Below.frozen hb5 (p := ⟨g, k * 4, none⟩) (cell_lt d3)).trans d4))
      all_goals
        have S6 := (S4.drew.step hb5).setCell (a := ⟨g, k * 4, none⟩) (show W.heap.size ≤ g by omega) (.slice a5 x.1.length c5)
        have hs6 : w0.heap.size ≤ (w5.setCell ⟨g, k * 4, none⟩ (.slice a5 x.1.length c5)).heap.size := by have := hb5.size; simp at this ⊢; omega
        have hB1g : B1 ≠ g := by omega
        have e0 := (cell_set_other w5 g (k * 4) (.slice a5 x.1.length c5) (p := ⟨B, 0, none⟩) hBg).trans d0'
        have e1 := (cell_set_other w5 g (k * 4) (.slice a5 x.1.length c5) (p := ⟨B1, 0, none⟩) hB1g).trans ((Below.cell hb5 (p := ⟨B1, 0, none⟩) (cell_lt d1)).trans d1)
        have k1 := (free_set_other w5 g (k * 4) (.slice a5 x.1.length c5) (p := ⟨B1, 0, none⟩) hB1g).trans ((Below.frozen hb5 (p := ⟨B1, 0, none⟩) (cell_lt d1)).trans d2)
        have ho6 := (ho4.drew.stays hb5).copyPars HX.out hv5.isInts (fun m hm => by
          have := (hv5.lies m hm).1
          simp at this
          exact ⟨by omega, fun hh => by omega⟩) (fun m hm => by
          have := (hv5.lies m hm).1
          simp at this
          exact ⟨by omega, by intro e; simp [Value.ownBlock] at e; omega⟩)
        clear d0 d1 d2 d3 d4 d5 d0' d3' d4' d5' hv5 hb5 ho4 hp4 S4
        generalize w5.setCell ⟨g, k * 4, none⟩ (.slice a5 x.1.length c5) = w6 at *
        go_wp2_with fail
        go_roundw
        case rel => exact ⟨k + 1, by omega, by go_num, S6, hs6, e0, e1, k1, ho6⟩
        case measure => simp [intOf]; omega
    · obtain rfl : b.length = k := by omega
      have hWB1 : W.heap.size ≤ B1 := by have := HB1.out; omega
      have S7 := hS.setCell (a := ⟨B1, 0, none⟩) hWB1 (.slice a1 b.length cp1)
      have m1 : (wr.setCell ⟨B1, 0, none⟩ (.slice a1 b.length cp1)).cell? ⟨B1, 0, none⟩ = some (.slice a1 b.length cp1) := by go_simp
      have hn7 : (Value.slice a1 b.length cp1).ownBlock = none ∨ (Value.slice a1 b.length cp1).ownBlock ≠ some B1 := by
        cases hk : (Value.slice a1 b.length cp1).ownBlock with
        | none => exact Or.inl rfl
        | some k => right; intro e; cases e; have := HOB.out B1 hk; omega
      have ho7 := ((ho.kept (grown_setCell wr ⟨B1, 0, none⟩ (.slice a1 b.length cp1)) (by intro k hk; cases hk; exact ⟨hWB1, l1⟩) hn7).copied (E' := fun k => k < W.heap.size) (fun k hk => ⟨hk.2, by have := hk.1; have := S0.2; omega⟩)).mono S0.2
      clear ho hS
      go_wp2_with fail
      exact bodyPost_ret (v := .agg #[.slice a1 b.length cp1]) (by simp [results, Try.results72, go_sem, m1]) rfl ⟨⟨_, rfl, ho7⟩, S7.below⟩
end Go.Proofs.Ytlaabmpadikkjaa
