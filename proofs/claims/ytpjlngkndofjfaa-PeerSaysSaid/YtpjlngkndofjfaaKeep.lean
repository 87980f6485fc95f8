/-
  The walk of peer.Keep.
-/
import Derived.Test.YtpjlngkndofjfaaPeerRow
import Derived.Test.YtpjlngkndofjfaaInsert
namespace Go.Proofs.Ytpjlngkndofjfaa
open Go.RowKit

/-- What Keep answers: the error, the peer. -/
def keepQ (p : Pr) (k : Kp) : Pr := (p.1, p.2.1, keepK k p.2.2)
def keepE (b : List Ver) (p : Pr) (k : Kp) : Int := if peerV b p ≠ 0 then peerV b p else if (p.2.2.length : Int) = p.2.1 then 8 else if 0 ≤ findV k.1 p.2.2 0 then 5 else peerV b (keepQ p k)
def keepC (b : List Ver) (p : Pr) (k : Kp) : Pr := if keepE b p k = 0 then keepQ p k else (false, 0, [])
theorem keepC_no {b : List Ver} {p : Pr} {k : Kp} (h : keepE b p k ≠ 0) : keepC b p k = (false, 0, []) := by unfold keepC; rw [if_neg h]
theorem keepC_ok {b : List Ver} {p : Pr} {k : Kp} (h : keepE b p k = 0) : keepC b p k = keepQ p k := by unfold keepC; rw [if_pos h]
theorem keepK_go {x y : Kp} {r : List Kp} (h : y.1 < x.1) : keepK x (y :: r) = y :: keepK x r := by conv => lhs; unfold keepK; rw [if_pos h]
theorem keepK_stop {x y : Kp} {r : List Kp} (h : ¬ y.1 < x.1) : keepK x (y :: r) = x :: y :: r := by conv => lhs; unfold keepK; rw [if_neg h]
theorem keepK_rest (x : Kp) (l : List Kp) (i : Nat) (h : keepK x l = l.take i ++ keepK x (l.drop i)) (hi : ∀ y, l[i]? = some y → ¬ y.1 < x.1) : keepK x l = l.take i ++ x :: l.drop i := by
  rw [h]
  congr 1
  cases hd : l.drop i with
  | nil => rfl
  | cons y r =>
    have : l[i]? = some y := by
      have := congrArg (fun q => q[0]?) hd
      simpa [List.getElem?_drop] using this
    exact keepK_stop (hi y this)

/-- Three cells of a box are written: what the call has of its own, and what stands below, stays. -/
theorem cells3 {w : World} {B : Nat} {x y z : Value} (h0 : (w.cell? ⟨B, 0, none⟩).isSome = true) (h1 : (w.cell? ⟨B, 1, none⟩).isSome = true) (h2 : (w.cell? ⟨B, 2, none⟩).isSome = true) :
    (((w.setCell ⟨B, 0, none⟩ x).setCell ⟨B, 1, none⟩ y).setCell ⟨B, 2, none⟩ z).cell? ⟨B, 0, none⟩ = some x ∧ (((w.setCell ⟨B, 0, none⟩ x).setCell ⟨B, 1, none⟩ y).setCell ⟨B, 2, none⟩ z).cell? ⟨B, 1, none⟩ = some y ∧ (((w.setCell ⟨B, 0, none⟩ x).setCell ⟨B, 1, none⟩ y).setCell ⟨B, 2, none⟩ z).cell? ⟨B, 2, none⟩ = some z := by
  obtain ⟨u0, h0⟩ := Option.isSome_iff_exists.1 h0
  obtain ⟨u1, h1⟩ := Option.isSome_iff_exists.1 h1
  obtain ⟨u2, h2⟩ := Option.isSome_iff_exists.1 h2
  refine ⟨?_, ?_, ?_⟩ <;> go_simp

/-- The call of slices.Insert as Keep makes it. -/
theorem keepIns {D : Nat} {w5 w6 : World} {base : Nat} {V : Value} {l : List Kp} {kv kn : Int} {kl : List Int} {a6 : Option Addr} {c6 j : Nat} (ho : OwnRow 3 RKept (fun j => j < D) w5 44 base V l) (hb6 : Below w5.heap.size w5 w6) (hv6 : OwnInts w6 3 w5.heap.size (.slice a6 kl.length c6) kl)
    (hV : ∀ k, V.ownBlock = some k → k < w5.heap.size) (hD : D ≤ w5.heap.size) (hbase : base ≤ w5.heap.size) (hk1 : I64 kv) (hk2 : I64 kn) (hj : j ≤ l.length) (htop : l.length < 1000000) :
    Calls Try.prog 36 #[V, .int .i64 j, .slice (some ⟨w6.heap.size, 0, none⟩) 1 1] (w6.alloc (.cells #[.int .i64 kv, .int .i64 kn, .slice a6 kl.length c6] 44)) fun e w' =>
      (∃ v', e = .returned v' ∧ OwnRow 3 RKept (fun j => j < D) w' 44 base v' (l.take j ++ (kv, kn, kl) :: l.drop j) ∧ (v'.ownBlock = V.ownBlock ∨ ∃ k, v'.ownBlock = some k ∧ (w6.alloc (.cells #[.int .i64 kv, .int .i64 kn, .slice a6 kl.length c6] 44)).heap.size ≤ k)) ∧ (w6.alloc (.cells #[.int .i64 kv, .int .i64 kn, .slice a6 kl.length c6] 44)).grownBy w' V.ownBlock := by
  have hsz := hb6.size
  have ho7 := (ho.stays hb6).stays (below_alloc w6 (.cells #[.int .i64 kv, .int .i64 kn, .slice a6 kl.length c6] 44))
  refine InsertKept_any (fun j => j < D) base V l j (kv, kn, kl) (.slice a6 kl.length c6) w6.heap.size _ ho7 hj htop ?_ (heap_alloc_new w6 _) (fun e => by have := hV _ e; omega) ?_
  · simp; omega
  · have hi7 := hv6.isInts.stays (below_alloc w6 (.cells #[.int .i64 kv, .int .i64 kn, .slice a6 kl.length c6] 44))
    intro w' hw'
    refine ⟨.slice a6 kl.length c6, rfl, hi7.framed (fun k hk _ hd => ?_) hw', hk1, hk2⟩
    have h1 := (hv6.lies k hk).1
    rcases hd with hd | hd
    · have := hV k hd; omega
    · omega

/-- What is known behind the insertion: the new row lies in the peer's box; what else lay below is as it was. -/
def KeptIn (W w0 w2 w4 : World) (B4 : Nat) (t : Bool) (r : Int) (L8 : List Kp) (s : Value) (wx : World) : Prop :=
  ∃ a8 c8, s = .slice a8 L8.length c8 ∧ wx.cell? ⟨B4, 0, none⟩ = some (.bool t) ∧ wx.cell? ⟨B4, 1, none⟩ = some (.int .i64 r) ∧ wx.cell? ⟨B4, 2, none⟩ = some (.slice a8 L8.length c8) ∧
    OwnRow 3 RKept (fun j => j < w2.heap.size) wx 44 w2.heap.size (.slice a8 L8.length c8) L8 ∧ Since W.heap.size W wx ∧
    (∀ (p : Addr) (u : Value), p.block < w0.heap.size → p.block ≠ B4 → w4.cell? p = some u → wx.cell? p = some u) ∧ (∀ (p : Addr), p.block < w0.heap.size → p.block ≠ B4 → wx.frozen? p = w4.frozen? p)
theorem keptIn_of {W w0 w2 w4 w5 w6 w8 : World} {o : Obj} {B4 : Nat} {t : Bool} {r : Int} {L8 : List Kp} {V : Value} {a8 : Option Addr} {c8 : Nat} (h4 : Since W.heap.size W w4) (hW : W.heap.size ≤ B4) (hb : B4 < w0.heap.size) (h02 : w0.heap.size ≤ w2.heap.size) (h24 : w2.heap.size ≤ w4.heap.size)
    (h5 : Since w4.heap.size w4 w5) (h6 : Below w5.heap.size w5 w6) (hg : (w6.alloc o).grownBy w8 V.ownBlock) (hV : ∀ k, V.ownBlock = some k → w2.heap.size ≤ k ∧ k < w4.heap.size)
    (ho : OwnRow 3 RKept (fun j => j < w2.heap.size) w8 44 w2.heap.size (.slice a8 L8.length c8) L8) (c0 : w4.cell? ⟨B4, 0, none⟩ = some (.bool t)) (c1 : w4.cell? ⟨B4, 1, none⟩ = some (.int .i64 r)) (c2 : (w4.cell? ⟨B4, 2, none⟩).isSome = true) :
    KeptIn W w0 w2 w4 B4 t r L8 (.slice a8 L8.length c8) (w8.setCell ⟨B4, 2, none⟩ (.slice a8 L8.length c8)) := by
  have h02' : w0.heap.size ≤ w4.heap.size := Nat.le_trans h02 h24
  have hW0 : W.heap.size ≤ w2.heap.size := by omega
  have hblk : ∀ k, k < w0.heap.size → w8.heap[k]? = w4.heap[k]? := fun k hk => by
    have h1 : k < w5.heap.size := Nat.lt_of_lt_of_le (Nat.lt_of_lt_of_le hk h02') h5.2
    have h3 : k < w6.heap.size := Nat.lt_of_lt_of_le h1 h6.size
    rw [hg.block k (by simpa using Nat.lt_succ_of_lt h3) (fun e => by have := (hV k e.symm).1; omega), heap_alloc_old w6 o h3, h6.block k h1, h5.below.block k (Nat.lt_of_lt_of_le hk h02')]
  have hn : (Value.slice a8 L8.length c8).ownBlock = none ∨ (Value.slice a8 L8.length c8).ownBlock ≠ some B4 := by
    cases hq : (Value.slice a8 L8.length c8).ownBlock with
    | none => exact Or.inl rfl
    | some j => right; intro e; cases e; have := (ho.lt _ hq).1; omega
  have S8 : Since W.heap.size W w8 := ((((show Since W.heap.size W w5 from ⟨h4.below.trans (h5.below.mono h4.2), by have := h4.2; have := h5.2; omega⟩).step h6).alloc o).grown hg (fun k hk => by have := (hV k hk).1; omega))
  have e0 : w8.cell? ⟨B4, 0, none⟩ = some (.bool t) := (World.cell?_of_block (hblk B4 hb)).trans c0
  have e1 : w8.cell? ⟨B4, 1, none⟩ = some (.int .i64 r) := (World.cell?_of_block (hblk B4 hb)).trans c1
  have e2 : (w8.cell? ⟨B4, 2, none⟩).isSome = true := by rw [World.cell?_of_block (a := ⟨B4, 2, none⟩) (hblk B4 hb)]; exact c2
  obtain ⟨u2, e2⟩ := Option.isSome_iff_exists.1 e2
  refine ⟨a8, c8, rfl, ?_, ?_, ?_, ho.kept (grown_setCell w8 ⟨B4, 2, none⟩ (.slice a8 L8.length c8)) (fun k hk => by cases hk; exact Nat.lt_of_lt_of_le hb h02) hn, S8.setCell (a := ⟨B4, 2, none⟩) hW _, fun p u hp hne hu => ?_, fun p hp hne => ?_⟩
  · clear hblk; go_simp
  · clear hblk; go_simp
  · clear hblk; go_simp
  · have h1 := (World.cell?_of_block (Below.heap_setCell w8 ⟨B4, 2, none⟩ (.slice a8 L8.length c8) p.block hne) : _)
    rw [h1, World.cell?_of_block (hblk p.block hp)]
    exact hu
  · rw [World.frozen?_setCell, World.frozen?_of_block (hblk p.block hp)]

set_option maxRecDepth 100000 in
set_option maxHeartbeats 8000000 in
theorem Keep_any (vb : Value) (b : List Ver) (u : Value) (p : Pr) (uk : Value) (k : Kp) (W : World) (hb : IsVers W vb b) (hu : IsKepts W u p.2.2) (hi : I64 p.2.1) (hk : IsInts W uk k.2.2) (hk1 : I64 k.1) (hk2 : I64 k.2.1) :
    Calls Try.prog 15 #[.agg #[vb], .agg #[.bool p.1, .int .i64 p.2.1, u], .agg #[.int .i64 k.1, .int .i64 k.2.1, uk]] W fun e w' =>
      (∃ v', e = .returned (.tuple #[.agg #[.bool (keepC b p k).1, .int .i64 (keepC b p k).2.1, v'], .int .i64 (keepE b p k)]) ∧ OwnRow 3 RKept (fun j => j < W.heap.size) w' 44 W.heap.size v' (keepC b p k).2.2) ∧ Below W.heap.size W w' := by
  obtain ⟨ab, cb, rfl, hcb, ⟨hbm, hbc, _⟩, _⟩ := hb.opened
  obtain ⟨au, cu, rfl, hcu, ⟨hum, huc, _⟩, _⟩ := hu.opened
  obtain ⟨ak, ck, rfl, hck, ⟨hkm, hkc, _⟩, _⟩ := hk.opened
  obtain ⟨t, r, l⟩ := p
  obtain ⟨kv, kn, kl⟩ := k
  simp only at hu hi hk hk1 hk2 hcu hum hcb hck hkm ⊢
  obtain ⟨w0, hw0⟩ : ∃ w0, w0 = (((W.alloc (.cells #[.slice ab b.length cb] 24)).alloc (.cells #[.bool t, .int .i64 r, .slice au l.length cu] 37)).alloc (.cells #[.int .i64 kv, .int .i64 kn, .slice ak kl.length ck] 44)).alloc (.cells #[.bool false, .int .i64 0, .slice none 0 0] 37) := ⟨_, rfl⟩
  have S0 := ((((Since.refl W).alloc (.cells #[.slice ab b.length cb] 24)).alloc (.cells #[.bool t, .int .i64 r, .slice au l.length cu] 37)).alloc (.cells #[.int .i64 kv, .int .i64 kn, .slice ak kl.length ck] 44)).alloc (.cells #[.bool false, .int .i64 0, .slice none 0 0] 37)
  rw [← hw0] at S0
  have a0 : w0.cell? ⟨W.heap.size, 0, none⟩ = some (.slice ab b.length cb) := by rw [hw0]; go_simp
  have p0 : w0.cell? ⟨W.heap.size + 1, 0, none⟩ = some (.bool t) := by rw [hw0]; go_simp
  have p1 : w0.cell? ⟨W.heap.size + 1, 1, none⟩ = some (.int .i64 r) := by rw [hw0]; go_simp
  have p2 : w0.cell? ⟨W.heap.size + 1, 2, none⟩ = some (.slice au l.length cu) := by rw [hw0]; go_simp
  have p3 : ∀ j, w0.frozen? ⟨W.heap.size + 1, j, none⟩ = false := by intro j; rw [hw0]; go_simp
  have k0 : w0.cell? ⟨W.heap.size + 2, 0, none⟩ = some (.int .i64 kv) := by rw [hw0]; go_simp
  have k1 : w0.cell? ⟨W.heap.size + 2, 1, none⟩ = some (.int .i64 kn) := by rw [hw0]; go_simp
  have k2 : w0.cell? ⟨W.heap.size + 2, 2, none⟩ = some (.slice ak kl.length ck) := by rw [hw0]; go_simp
  have q0 : w0.cell? ⟨W.heap.size + 3, 0, none⟩ = some (.bool false) := by rw [hw0]; go_simp
  have q1 : w0.cell? ⟨W.heap.size + 3, 1, none⟩ = some (.int .i64 0) := by rw [hw0]; go_simp
  have q2 : w0.cell? ⟨W.heap.size + 3, 2, none⟩ = some (.slice none 0 0) := by rw [hw0]; go_simp
  have q3 : ∀ j, w0.frozen? ⟨W.heap.size + 3, j, none⟩ = false := by intro j; rw [hw0]; go_simp
  have hsz0 : w0.heap.size = W.heap.size + 4 := by rw [hw0]; simp
  have HW := Lib.hid hw0
  clear hw0
  obtain ⟨B3, hB3⟩ : ∃ B3, B3 = W.heap.size := ⟨_, rfl⟩
  obtain ⟨B4, hB4⟩ : ∃ B4, B4 = W.heap.size + 1 := ⟨_, rfl⟩
  obtain ⟨B5, hB5⟩ : ∃ B5, B5 = W.heap.size + 2 := ⟨_, rfl⟩
  obtain ⟨B6, hB6⟩ : ∃ B6, B6 = W.heap.size + 3 := ⟨_, rfl⟩
  rw [← hB6] at q0 q1 q2 q3
  rw [← hB5] at k0 k1 k2
  rw [← hB4] at p0 p1 p2 p3
  rw [← hB3] at a0
  have hlt : B3 < w0.heap.size ∧ B4 < w0.heap.size ∧ B5 < w0.heap.size ∧ B6 < w0.heap.size ∧ W.heap.size ≤ B4 ∧ W.heap.size ≤ B6 := by omega
  have hne : ¬ B3 = B4 ∧ ¬ B3 = B6 ∧ ¬ B4 = B6 ∧ ¬ B5 = B4 ∧ ¬ B5 = B6 ∧ ¬ B6 = B4 := by omega
  have HLT := Lib.hid hlt
  obtain ⟨n34, n36, n46, n54, n56, n64⟩ := hne
  have HB3 := Lib.hid hB3
  have HB4 := Lib.hid hB4
  have HB5 := Lib.hid hB5
  have HB6 := Lib.hid hB6
  clear hB3 hB4 hB5 hB6 hsz0 hlt
  have HVB := Lib.hid hb
  have HVU := Lib.hid hu
  have HVK := Lib.hid hk
  have HS0 := Lib.hid S0
  /- what stands in the boxes in whatever later world in which nothing below has been changed -/
  have HC : Hid (∀ w', Since w0.heap.size w0 w' → w'.cell? ⟨B3, 0, none⟩ = some (.slice ab b.length cb) ∧ w'.cell? ⟨B4, 0, none⟩ = some (.bool t) ∧ w'.cell? ⟨B4, 1, none⟩ = some (.int .i64 r) ∧ w'.cell? ⟨B4, 2, none⟩ = some (.slice au l.length cu) ∧ w'.cell? ⟨B5, 0, none⟩ = some (.int .i64 kv) ∧ w'.cell? ⟨B6, 0, none⟩ = some (.bool false) ∧ w'.cell? ⟨B6, 1, none⟩ = some (.int .i64 0) ∧ w'.cell? ⟨B6, 2, none⟩ = some (.slice none 0 0) ∧ w'.frozen? ⟨B6, 0, none⟩ = false ∧ w'.frozen? ⟨B6, 1, none⟩ = false ∧ w'.frozen? ⟨B6, 2, none⟩ = false) :=
    Lib.hid (fun w' q => ⟨below_cell q.below a0, below_cell q.below p0, below_cell q.below p1, below_cell q.below p2, below_cell q.below k0, below_cell q.below q0, below_cell q.below q1, below_cell q.below q2, below_free q.below q0 (q3 0), below_free q.below q1 (q3 1), below_free q.below q2 (q3 2)⟩)
  have HZ : Hid (∀ w', Since w0.heap.size w0 w' → ∀ j, w'.frozen? ⟨B4, j, none⟩ = false) := Lib.hid (fun w' q j => (q.below.frozen (p := ⟨B4, j, none⟩) HLT.out.2.1).trans (p3 j))
  have HKC : Hid (∀ w', Since w0.heap.size w0 w' → w'.cell? ⟨B5, 0, none⟩ = some (.int .i64 kv) ∧ w'.cell? ⟨B5, 1, none⟩ = some (.int .i64 kn) ∧ w'.cell? ⟨B5, 2, none⟩ = some (.slice ak kl.length ck)) :=
    Lib.hid (fun w' q => ⟨below_cell q.below k0, below_cell q.below k1, below_cell q.below k2⟩)
  have hfail : ∀ (c : Int) (w : World), Since w0.heap.size w0 w → keepE b (t, r, l) (kv, kn, kl) = c → c ≠ 0 →
      OwnRow 3 RKept (fun j => j < W.heap.size) (((w.setCell ⟨B6, 0, none⟩ (.bool false)).setCell ⟨B6, 1, none⟩ (.int .i64 0)).setCell ⟨B6, 2, none⟩ (.slice none 0 0)) 44 W.heap.size (.slice none 0 0) (keepC b (t, r, l) (kv, kn, kl)).2.2 ∧
      (keepC b (t, r, l) (kv, kn, kl)).1 = false ∧ (keepC b (t, r, l) (kv, kn, kl)).2.1 = 0 ∧ Below W.heap.size W (((w.setCell ⟨B6, 0, none⟩ (.bool false)).setCell ⟨B6, 1, none⟩ (.int .i64 0)).setCell ⟨B6, 2, none⟩ (.slice none 0 0)) := by
    intro c w hS he hc
    have hC := keepC_no (show keepE b (t, r, l) (kv, kn, kl) ≠ 0 by rw [he]; exact hc)
    rw [hC]
    obtain ⟨_, _, _, _, _, h6⟩ := HLT.out
    exact ⟨OwnRow.nil _ _ _, rfl, rfl, (((S0.step hS.below).setCell (a := ⟨B6, 0, none⟩) h6 (.bool false)).setCell (a := ⟨B6, 1, none⟩) h6 (.int .i64 0)).setCell (a := ⟨B6, 2, none⟩) h6 (.slice none 0 0) |>.below⟩
  have HFAIL := Lib.hid hfail
  clear a0 p0 p1 p2 p3 k0 k1 k2 q0 q1 q2 q3 hb hu hk S0 hfail
  go_enter Try.func15, Try.ntmps15
  go_upto_region 1 with fail
  rw [← HW.out, ← HB6.out, ← HB5.out, ← HB4.out, ← HB3.out]
  have hvb0 := HVB.out.stays RVer.stays HS0.out.below
  have hvu0 := HVU.out.stays RKept.stays HS0.out.below
  obtain ⟨c3, c40, c41, c42, c50, c60, c61, c62, f60, f61, f62⟩ := HC.out w0 (Since.refl w0)
  go_upto_region 2 with (go_at_call 17; refine (peerCheck_any _ b _ (t, r, l) _ hvb0 hvu0 hi).mono ?_; rintro e w1 ⟨rfl, hb1⟩)
  clear c3 c40 c41 c42 c50 c60 c61 c62 f60 f61 f62
  have S1 := (Since.refl w0).step hb1
  obtain ⟨c3, c40, c41, c42, c50, c60, c61, c62, f60, f61, f62⟩ := HC.out w1 S1
  by_cases h0 : peerV b (t, r, l) = 0
  · have H0 := Lib.hid h0
    rw [h0]
    by_cases hfull : (l.length : Int) = r
    · have hE : keepE b (t, r, l) (kv, kn, kl) = 8 := by unfold keepE; rw [if_neg (by simpa using h0)]; exact if_pos hfull
      obtain ⟨h1, h2, h3, h4⟩ := HFAIL.out 8 w1 S1 hE (by decide)
      have hff : ((l.length : Int) == r) = true := by simpa using hfull
      have HE := Lib.hid hE
      have HH := Lib.hid h1
      have H2 := Lib.hid h2
      have H3 := Lib.hid h3
      have H4 := Lib.hid h4
      clear h1 h2 h3 h4 hE h0 hfull hvb0 hvu0
      go_wp2_with fail
      exact bodyPost_ret (v := .tuple #[.agg #[.bool false, .int .i64 0, .slice none 0 0], .int .i64 8]) (by simp [results, Try.results15, go_sem, c60, c61, c62]) rfl ⟨⟨_, by rw [H2.out, H3.out, HE.out], HH.out⟩, H4.out⟩
    · have hok := peerV_ok.1 h0
      have hl20 : (l.length : Int) < r ∧ r ≤ 20 := by
        have h1 := hok.few
        have h2 := hok.room
        simp only at h1 h2
        omega
      have HOK := Lib.hid hok
      have hff : ((l.length : Int) == r) = false := by simpa using hfull
      have HNF := Lib.hid hfull
      have hvu1 := hvu0.stays RKept.stays hb1
      clear hok hfull h0 hvb0 hvu0
      by_cases hfd : 0 ≤ findV kv l 0
      · have hE : keepE b (t, r, l) (kv, kn, kl) = 5 := by unfold keepE; rw [if_neg (by simpa using H0.out), if_neg HNF.out]; exact if_pos hfd
        have HE := Lib.hid hE
        clear hE
        go_wp2_with (go_at_call 14; refine (Find_any t r _ l kv _ hvu1).mono ?_; rintro e w2 ⟨rfl, hb2⟩; have S2 := S1.step hb2; obtain ⟨d3, d40, d41, d42, d50, d60, d61, d62, g60, g61, g62⟩ := HC.out w2 S2; obtain ⟨h1, h2, h3, h4⟩ := HFAIL.out 5 w2 S2 HE.out (by decide); have HH := Lib.hid h1; have H2 := Lib.hid h2; have H3 := Lib.hid h3; have H4 := Lib.hid h4; clear h1 h2 h3 h4)
        exact bodyPost_ret (v := .tuple #[.agg #[.bool false, .int .i64 0, .slice none 0 0], .int .i64 5]) (by simp [results, Try.results15, go_sem, d60, d61, d62]) rfl ⟨⟨_, by rw [H2.out, H3.out, HE.out], HH.out⟩, H4.out⟩
      · have HE := Lib.hid (show keepE b (t, r, l) (kv, kn, kl) = peerV b (keepQ (t, r, l) (kv, kn, kl)) by unfold keepE; rw [if_neg (by simpa using H0.out), if_neg HNF.out]; exact if_neg hfd)
        have HNOT := Lib.hid (show ∀ y ∈ l, y.1 ≠ kv from (findV_neg (v := kv) (l := l) (k := 0)).1 (by omega))
        go_upto_region 8 with (go_at_call 14; refine (Find_any t r _ l kv _ hvu1).mono ?_; rintro e w2 ⟨rfl, hb2⟩; have S2 := S1.step hb2; obtain ⟨d3, d40, d41, d42, d50, d60, d61, d62, g60, g61, g62⟩ := HC.out w2 S2)
        clear c3 c40 c41 c42 c50 c60 c61 c62 f60 f61 f62
        have hvu2 := hvu1.stays RKept.stays hb2
        clear hvu1 hb1 hb2 S1 hfd hff
        have j0 := HLT.out
        obtain ⟨l3, l4, l5, l6, m4, m6⟩ := j0
        go_wp2_with (go_at_call 35; refine (peerCopy_any t r _ l _ hvu2 (by omega)).mono ?_; rintro e w3 ⟨⟨v3, rfl, ho3⟩, hb3⟩; obtain ⟨a3, cp3, rfl, hcp3, ⟨_, hcm3, _⟩, _⟩ := ho3.isRow.opened; have S3 := S2.step hb3; obtain ⟨e3, e40, e41, e42, e50, e60, e61, e62, x60, x61, x62⟩ := HC.out w3 S3; have z4 : ∀ j, w3.frozen? ⟨B4, j, none⟩ = false := fun j => HZ.out w3 S3 j; have z40 := z4 0; have z41 := z4 1; have z42 := z4 2)
        have HE0 := Lib.hid (show w0.heap.size ≤ w2.heap.size from S2.2)
        have hlo := ho3.lt
        have hn4 : (Value.slice a3 l.length cp3).ownBlock = none ∨ (Value.slice a3 l.length cp3).ownBlock ≠ some B4 := by
          cases hq : (Value.slice a3 l.length cp3).ownBlock with
          | none => exact Or.inl rfl
          | some j => right; intro e; cases e; have := (hlo _ hq).1; have := HE0.out; omega
        have hEB : ∀ j, some B4 = some j → j < w2.heap.size := fun j hj => by cases hj; have := HE0.out; omega
        have ho4 := ((ho3.kept (grown_setCell w3 ⟨B4, 0, none⟩ (.bool t)) hEB hn4).kept (grown_setCell _ ⟨B4, 1, none⟩ (.int .i64 r)) hEB hn4).kept (grown_setCell _ ⟨B4, 2, none⟩ (.slice a3 l.length cp3)) hEB hn4
        have S4 : Since W.heap.size W (((w3.setCell ⟨B4, 0, none⟩ (.bool t)).setCell ⟨B4, 1, none⟩ (.int .i64 r)).setCell ⟨B4, 2, none⟩ (.slice a3 l.length cp3)) := (((HS0.out.step S3.below).setCell (a := ⟨B4, 0, none⟩) m4 (.bool t)).setCell (a := ⟨B4, 1, none⟩) m4 (.int .i64 r)).setCell (a := ⟨B4, 2, none⟩) m4 (.slice a3 l.length cp3)
        obtain ⟨y50, y51, y52⟩ := HKC.out w3 S3
        have hs4 : w2.heap.size ≤ (((w3.setCell ⟨B4, 0, none⟩ (.bool t)).setCell ⟨B4, 1, none⟩ (.int .i64 r)).setCell ⟨B4, 2, none⟩ (.slice a3 l.length cp3)).heap.size := by have := hb3.size; simpa using this
        obtain ⟨w4, hw4⟩ : ∃ w4, w4 = ((w3.setCell ⟨B4, 0, none⟩ (.bool t)).setCell ⟨B4, 1, none⟩ (.int .i64 r)).setCell ⟨B4, 2, none⟩ (.slice a3 l.length cp3) := ⟨_, rfl⟩
        have v3 : w4.cell? ⟨B3, 0, none⟩ = some (.slice ab b.length cb) := by rw [hw4]; go_simp
        have v40 : w4.cell? ⟨B4, 0, none⟩ = some (.bool t) := by rw [hw4]; go_simp
        have v41 : w4.cell? ⟨B4, 1, none⟩ = some (.int .i64 r) := by rw [hw4]; go_simp
        have v42 : w4.cell? ⟨B4, 2, none⟩ = some (.slice a3 l.length cp3) := by rw [hw4]; go_simp
        have v50 : w4.cell? ⟨B5, 0, none⟩ = some (.int .i64 kv) := by rw [hw4]; go_simp
        have v51 : w4.cell? ⟨B5, 1, none⟩ = some (.int .i64 kn) := by rw [hw4]; go_simp
        have v52 : w4.cell? ⟨B5, 2, none⟩ = some (.slice ak kl.length ck) := by rw [hw4]; go_simp
        have v60 : w4.cell? ⟨B6, 0, none⟩ = some (.bool false) := by rw [hw4]; go_simp
        have v61 : w4.cell? ⟨B6, 1, none⟩ = some (.int .i64 0) := by rw [hw4]; go_simp
        have v62 : w4.cell? ⟨B6, 2, none⟩ = some (.slice none 0 0) := by rw [hw4]; go_simp
        have z60 : w4.frozen? ⟨B6, 0, none⟩ = false := by rw [hw4]; go_simp
        have z61 : w4.frozen? ⟨B6, 1, none⟩ = false := by rw [hw4]; go_simp
        have z62 : w4.frozen? ⟨B6, 2, none⟩ = false := by rw [hw4]; go_simp
        have z42' : w4.frozen? ⟨B4, 2, none⟩ = false := by rw [hw4]; go_simp
        rw [← hw4] at ho4 S4 hs4 ⊢
        clear hw4 ho3 hlo hn4 hEB hb3 S3 e3 e40 e41 e42 e50 e60 e61 e62 x60 x61 x62 z4 z40 z41 z42 y50 y51 y52 d3 d40 d41 d42 d50 d60 d61 d62 g60 g61 g62 hvu2 S2
        have H4A : Hid (∀ w', Since w0.heap.size w4 w' → w'.cell? ⟨B4, 2, none⟩ = some (.slice a3 l.length cp3) ∧ w'.frozen? ⟨B4, 2, none⟩ = false ∧ w'.cell? ⟨B5, 0, none⟩ = some (.int .i64 kv) ∧ w'.cell? ⟨B5, 1, none⟩ = some (.int .i64 kn) ∧ w'.cell? ⟨B5, 2, none⟩ = some (.slice ak kl.length ck)) :=
          Lib.hid (fun w' q => ⟨(q.below.cell (p := ⟨B4, 2, none⟩) l4).trans v42, (q.below.frozen (p := ⟨B4, 2, none⟩) l4).trans z42', (q.below.cell (p := ⟨B5, 0, none⟩) l5).trans v50, (q.below.cell (p := ⟨B5, 1, none⟩) l5).trans v51, (q.below.cell (p := ⟨B5, 2, none⟩) l5).trans v52⟩)
        have H4B : Hid (∀ w', Since w0.heap.size w4 w' → w'.cell? ⟨B3, 0, none⟩ = some (.slice ab b.length cb) ∧ w'.cell? ⟨B4, 0, none⟩ = some (.bool t) ∧ w'.cell? ⟨B4, 1, none⟩ = some (.int .i64 r) ∧ w'.cell? ⟨B6, 0, none⟩ = some (.bool false) ∧ w'.cell? ⟨B6, 1, none⟩ = some (.int .i64 0) ∧ w'.cell? ⟨B6, 2, none⟩ = some (.slice none 0 0) ∧ w'.frozen? ⟨B6, 0, none⟩ = false ∧ w'.frozen? ⟨B6, 1, none⟩ = false ∧ w'.frozen? ⟨B6, 2, none⟩ = false) :=
          Lib.hid (fun w' q => ⟨(q.below.cell (p := ⟨B3, 0, none⟩) l3).trans v3, (q.below.cell (p := ⟨B4, 0, none⟩) l4).trans v40, (q.below.cell (p := ⟨B4, 1, none⟩) l4).trans v41, (q.below.cell (p := ⟨B6, 0, none⟩) l6).trans v60, (q.below.cell (p := ⟨B6, 1, none⟩) l6).trans v61, (q.below.cell (p := ⟨B6, 2, none⟩) l6).trans v62, (q.below.frozen (p := ⟨B6, 0, none⟩) l6).trans z60, (q.below.frozen (p := ⟨B6, 1, none⟩) l6).trans z61, (q.below.frozen (p := ⟨B6, 2, none⟩) l6).trans z62⟩)
        have HS4 := Lib.hid S4
        have HO4 := Lib.hid ho4
        have hs40 : w0.heap.size ≤ w4.heap.size := Nat.le_trans HE0.out hs4
        have HB40 := Lib.hid v40
        have H4C := Lib.hid (show w4.cell? ⟨B3, 0, none⟩ = some (.slice ab b.length cb) ∧ w4.cell? ⟨B6, 0, none⟩ = some (.bool false) ∧ w4.cell? ⟨B6, 1, none⟩ = some (.int .i64 0) ∧ w4.cell? ⟨B6, 2, none⟩ = some (.slice none 0 0) ∧ w4.frozen? ⟨B6, 0, none⟩ = false ∧ w4.frozen? ⟨B6, 1, none⟩ = false ∧ w4.frozen? ⟨B6, 2, none⟩ = false from ⟨v3, v60, v61, v62, z60, z61, z62⟩)
        have HB41 := Lib.hid v41
        have HB42 := Lib.hid (show (w4.cell? ⟨B4, 2, none⟩).isSome = true by rw [v42]; rfl)
        clear v3 v40 v41 v42 v50 v51 v52 v60 v61 v62 z60 z61 z62 z42' S4 ho4
        go_loopw [9] (fun i wr => ∃ j : Nat, j ≤ l.length ∧ i = .int .i64 j ∧ Since w4.heap.size w4 wr ∧ keepK (kv, kn, kl) l = l.take j ++ keepK (kv, kn, kl) (l.drop j)) (fun i _ => l.length - (intOf i).toNat)
        case atStart => exact ⟨0, by omega, rfl, Since.refl w4, by simp⟩
        case round =>
          obtain ⟨j, hj, rfl, hS, hkk⟩ := hrel
          have HKK := Lib.hid hkk
          clear hkk
          have hS0 : Since w0.heap.size w4 wr := ⟨hS.below.mono hs40, Nat.le_trans hs40 hS.2⟩
          obtain ⟨t42, _, t50, _, _⟩ := H4A.out wr hS0
          have how := HO4.out.stays hS.below
          by_cases hgo : ∃ y, l[j]? = some y ∧ y.1 < kv
          · obtain ⟨y, hy, hlt⟩ := hgo
            obtain ⟨g, cap, ug, cg, ev, hg1, hg2, hcap, k0, _, _, _, i1, _, _⟩ := ownKept_at how hy
            simp only [Value.slice.injEq, true_and] at ev
            obtain ⟨rfl, rfl⟩ := ev
            have hjl : j < l.length := (List.getElem?_eq_some_iff.1 hy).1
            have s1 : (j : Int) < (l.length : Int) := by omega
            have HSTEP := Lib.hid (show keepK (kv, kn, kl) l = l.take (j + 1) ++ keepK (kv, kn, kl) (l.drop (j + 1)) by rw [HKK.out, drop_get hy, keepK_go hlt, take_get hy]; simp)
            clear hy how
            go_wp2_with (go_quiet (fail))
            have hS9 := since_drewN hS nq
            clear k0 t42 t50
            go_roundw
            case rel => exact ⟨j + 1, by omega, by go_num, hS9, HSTEP.out⟩
            case measure => simp [intOf]; omega
          · have HREST := Lib.hid (keepK_rest (kv, kn, kl) l j HKK.out (fun y hy h => hgo ⟨y, hy, h⟩))
            have hcase : j = l.length ∨ ∃ y, l[j]? = some y ∧ ¬ y.1 < kv := by
              rcases Nat.lt_or_ge j l.length with h | h
              · exact Or.inr ⟨l[j], List.getElem?_eq_getElem h, fun h2 => hgo ⟨_, List.getElem?_eq_getElem h, h2⟩⟩
              · exact Or.inl (by omega)
            clear hgo
            have htop : l.length < 1000000 := by omega
            have hsh : ∀ k, (Value.slice a3 l.length cp3).ownBlock = some k → w2.heap.size ≤ k ∧ k < w4.heap.size := HO4.out.lt
            obtain ⟨V, hV⟩ : ∃ V, V = Value.slice a3 l.length cp3 := ⟨_, rfl⟩
            have HOV : Hid (∀ w', Since w4.heap.size w4 w' → OwnRow 3 RKept (fun j => j < w2.heap.size) w' 44 w2.heap.size V l) := Lib.hid (fun w' q => by rw [hV]; exact HO4.out.stays q.below)
            have H4V : Hid (∀ w', Since w0.heap.size w4 w' → w'.cell? ⟨B4, 2, none⟩ = some V ∧ w'.frozen? ⟨B4, 2, none⟩ = false ∧ w'.cell? ⟨B5, 0, none⟩ = some (.int .i64 kv) ∧ w'.cell? ⟨B5, 1, none⟩ = some (.int .i64 kn) ∧ w'.cell? ⟨B5, 2, none⟩ = some (.slice ak kl.length ck)) := Lib.hid (fun w' q => by rw [hV]; exact H4A.out w' q)
            have HSH := Lib.hid (show ∀ k, V.ownBlock = some k → w2.heap.size ≤ k ∧ k < w4.heap.size by rw [hV]; exact hsh)
            have HNB := Lib.hid (show ∀ k, k < w0.heap.size → some k ≠ V.ownBlock from fun k hk e => by have := (HSH.out k e.symm).1; have := HE0.out; omega)
            obtain ⟨L8, hL8⟩ : ∃ L8, L8 = l.take j ++ (kv, kn, kl) :: l.drop j := ⟨_, rfl⟩
            have hL8l : L8.length ≤ 1000000 := by rw [hL8]; simp; omega
            have HL8 := Lib.hid hL8
            clear hV hsh hL8
            go_upto_region 10 with fail
            go_cut [48] (fun s48 wx => ∃ wz, wz = wx ∧ s48 = .bool false ∧ Since w4.heap.size w4 wx)
            case first =>
              rcases hcase with hjl | ⟨y, hy, hnlt⟩
              · have s1 : ¬ (j : Int) < (l.length : Int) := by omega
                clear hjl
                go_wp2_with (go_quiet (fail))
                go_meet
                exact ⟨_, rfl, rfl, since_drewN hS nq⟩
              · obtain ⟨g, cap, ug, cg, ev, hg1, hg2, hcap, k0, _, _, _, i1, _, _⟩ := ownKept_at how hy
                simp only [Value.slice.injEq, true_and] at ev
                obtain ⟨rfl, rfl⟩ := ev
                have hjl : j < l.length := (List.getElem?_eq_some_iff.1 hy).1
                have s1 : (j : Int) < (l.length : Int) := by omega
                clear hy
                go_wp2_with (go_quiet (fail))
                go_meet
                exact ⟨_, rfl, rfl, since_drewN hS nq⟩
            case rest =>
              obtain ⟨w5, rfl, rfl, hS5⟩ := hcut
              have hS50 : Since w0.heap.size w4 w5 := ⟨hS5.below.mono hs40, Nat.le_trans hs40 hS5.2⟩
              clear hS hS0 how t42 t50 hcase
              go_upto_region 12 with fail
              go_cut [61] (fun s61 wx => ∃ wz, wz = wx ∧ KeptIn W w0 w2 w4 B4 t r L8 s61 wx)
              case first =>
                have hS5d : Since w4.heap.size w4 w5.drew := hS5.drew
                have hS50d : Since w0.heap.size w4 w5.drew := hS50.drew
                obtain ⟨b42, z42, b50, b51, b52⟩ := H4V.out w5.drew hS50d
                have hkd : IsInts w5.drew (.slice ak kl.length ck) kl := HVK.out.stays (HS4.out.below.trans (hS50d.below.mono HS0.out.2))
                have HU5 := Lib.hid (Since.refl w5.drew)
                have HL := Lib.hid (shareCopy_any kn _ kl _ hkd)
                have HG : Hid (∀ w', Below w5.drew.heap.size w5.drew w' → w'.cell? ⟨B4, 2, none⟩ = some V ∧ w'.frozen? ⟨B4, 2, none⟩ = false ∧ w'.cell? ⟨B5, 0, none⟩ = some (.int .i64 kv) ∧ w'.cell? ⟨B5, 1, none⟩ = some (.int .i64 kn) ∧ w'.cell? ⟨B5, 2, none⟩ = some (.slice ak kl.length ck)) :=
                  Lib.hid (fun w' q => ⟨below_cell q b42, below_free q b42 z42, below_cell q b50, below_cell q b51, below_cell q b52⟩)
                have HI := Lib.hid (fun (w6 : World) (a6 : Option Addr) (c6 : Nat) (hb6 : Below w5.drew.heap.size w5.drew w6) (hv6 : OwnInts w6 3 w5.drew.heap.size (.slice a6 kl.length c6) kl) => keepIns (HOV.out w5.drew hS5d) hb6 hv6 (fun k hk => Nat.lt_of_lt_of_le (HSH.out k hk).2 hS5d.2) (Nat.le_trans hs4 hS5d.2) (Nat.le_trans hs4 hS5d.2) hk1 hk2 hj htop)
                clear hkd
                go_region_law (first
                  | (go_simp; go_at_call 37; refine HL.out.mono ?_; rintro e w6 ⟨⟨v6, rfl, hv6⟩, hb6⟩; obtain ⟨a6, c6, rfl, _⟩ := hv6.isInts.opened; obtain ⟨x0, x1, x2, x3, x4⟩ := HG.out w6 hb6; obtain ⟨y0, y1, y2, y3, y4⟩ := HG.out (w6.alloc (.cells #[.int .i64 kv, .int .i64 kn, .slice a6 kl.length c6] 44)) ((HU5.out.step hb6).alloc _).below)
                  | (go_simp; go_at_call 36; refine (HI.out w6 a6 c6 hb6 hv6).mono ?_; rintro e w8 ⟨⟨v8, rfl, ho8, hb8⟩, hg8⟩; rw [← HL8.out] at ho8; obtain ⟨a8, c8, rfl, hc8, ⟨hm8, hcm8, _⟩, _⟩ := ho8.isRow.opened; have b82 := hg8.cell y0 (HNB.out B4 l4); have z82 := grown_free hg8 y0 y1 (HNB.out B4 l4)))
                all_goals
                  have HR := Lib.hid (keptIn_of (o := .cells #[.int .i64 kv, .int .i64 kn, .slice a6 kl.length c6] 44) HS4.out m4 l4 HE0.out hs4 hS5d hb6 hg8 HSH.out ho8 HB40.out HB41.out HB42.out)
                  clear hb6 hv6 hg8 ho8 hb8 x0 x1 x2 x3 x4 y0 y1 y2 y3 y4 b82 z82 hc8 hm8 hcm8 b42 z42 b50 b51 b52 hS5d hS50d HL HG HI HU5
                  go_wp2_with fail
                  go_meet
                  exact ⟨_, rfl, HR.out⟩
              case rest =>
                obtain ⟨w9, rfl, a8, c8, rfl, d40, d41, d42, ho8, S8, hcell, hfro⟩ := hcut
                have d3 := hcell ⟨B3, 0, none⟩ _ l3 n34 H4C.out.1
                have d60 := hcell ⟨B6, 0, none⟩ _ l6 n64 H4C.out.2.1
                have d61 := hcell ⟨B6, 1, none⟩ _ l6 n64 H4C.out.2.2.1
                have d62 := hcell ⟨B6, 2, none⟩ _ l6 n64 H4C.out.2.2.2.1
                have z60 := (hfro ⟨B6, 0, none⟩ l6 n64).trans H4C.out.2.2.2.2.1
                have z61 := (hfro ⟨B6, 1, none⟩ l6 n64).trans H4C.out.2.2.2.2.2.1
                have z62 := (hfro ⟨B6, 2, none⟩ l6 n64).trans H4C.out.2.2.2.2.2.2
                clear hcell hfro
                have HK8 := Lib.hid (show (t, r, L8) = keepQ (t, r, l) (kv, kn, kl) from congrArg (fun q => ((t, r, q) : Pr)) (HL8.out.trans HREST.out.symm))
                have hvb9 := HVB.out.stays RVer.stays S8.below
                have hvk9 := ho8.isRow
                have HO8 := Lib.hid ho8
                have HS8 := Lib.hid S8
                clear ho8 S8
                go_upto_region 14 with (go_at_call 17; refine (peerCheck_any _ b _ (t, r, L8) _ hvb9 hvk9 hi).mono ?_; rintro e w10 ⟨rfl, hb10⟩)
                have e40 := below_cell hb10 d40
                have e41 := below_cell hb10 d41
                have e42 := below_cell hb10 d42
                have e60 := below_cell hb10 d60
                have e61 := below_cell hb10 d61
                have e62 := below_cell hb10 d62
                have x60 := below_free hb10 d60 z60
                have x61 := below_free hb10 d61 z61
                have x62 := below_free hb10 d62 z62
                have HO10 := Lib.hid (HO8.out.stays hb10)
                have S10 := HS8.out.step hb10
                clear d3 d40 d41 d42 d60 d61 d62 z60 z61 z62 hvb9 hvk9
                by_cases hz : peerV b (t, r, L8) = 0
                · have HE0' := Lib.hid (show keepE b (t, r, l) (kv, kn, kl) = 0 by rw [HE.out, ← HK8.out, hz])
                  have HC0 := Lib.hid (show keepC b (t, r, l) (kv, kn, kl) = (t, r, L8) by rw [keepC_ok HE0'.out, HK8.out])
                  rw [hz]
                  clear hz
                  go_wp2_with fail
                  obtain ⟨f0, f1, f2⟩ := cells3 (w := w10) (B := B6) (x := .bool t) (y := .int .i64 r) (z := .slice a8 L8.length c8) (by rw [e60]; rfl) (by rw [e61]; rfl) (by rw [e62]; rfl)
                  have hn : (Value.slice a8 L8.length c8).ownBlock = none ∨ (Value.slice a8 L8.length c8).ownBlock ≠ some B6 := by
                    cases hq : (Value.slice a8 L8.length c8).ownBlock with
                    | none => exact Or.inl rfl
                    | some m => right; intro e; cases e; have h1 := (HO10.out.lt _ hq).1; have h2 := HE0.out; omega
                  have hEB : ∀ m, some B6 = some m → m < w2.heap.size := fun m hm => by cases hm; have := HE0.out; omega
                  have ho11 := (((HO10.out.kept (grown_setCell w10 ⟨B6, 0, none⟩ (.bool t)) hEB hn).kept (grown_setCell _ ⟨B6, 1, none⟩ (.int .i64 r)) hEB hn).kept (grown_setCell _ ⟨B6, 2, none⟩ (.slice a8 L8.length c8)) hEB hn).weaken (E' := fun j => j < W.heap.size) (fun m _ hm => Or.inl (by have h1 := HS0.out.2; have h2 := HE0.out; omega))
                  have S11 := ((S10.setCell (a := ⟨B6, 0, none⟩) m6 (.bool t)).setCell (a := ⟨B6, 1, none⟩) m6 (.int .i64 r)).setCell (a := ⟨B6, 2, none⟩) m6 (.slice a8 L8.length c8)
                  have HO11 := Lib.hid (ho11.mono (b := W.heap.size) (by have h1 := HS0.out.2; have h2 := HE0.out; omega))
                  clear e40 e41 e42 e60 e61 e62 x60 x61 x62 ho11 hn hEB
                  generalize ((w10.setCell ⟨B6, 0, none⟩ (.bool t)).setCell ⟨B6, 1, none⟩ (.int .i64 r)).setCell ⟨B6, 2, none⟩ (.slice a8 L8.length c8) = w11 at *
                  exact bodyPost_ret (v := .tuple #[.agg #[.bool t, .int .i64 r, .slice a8 L8.length c8], .int .i64 0]) (by simp [results, Try.results15, go_sem, f0, f1, f2]) rfl ⟨⟨_, by rw [HC0.out, HE0'.out], by rw [HC0.out]; exact HO11.out⟩, S11.below⟩
                · have HEN := Lib.hid (show keepE b (t, r, l) (kv, kn, kl) = peerV b (t, r, L8) by rw [HE.out, ← HK8.out])
                  have HC0 := Lib.hid (keepC_no (show keepE b (t, r, l) (kv, kn, kl) ≠ 0 by rw [HEN.out]; exact hz))
                  have hne : (peerV b (t, r, L8) != 0) = true := by simpa using hz
                  clear hz
                  go_wp2_with fail
                  obtain ⟨f0, f1, f2⟩ := cells3 (w := w10) (B := B6) (x := .bool false) (y := .int .i64 0) (z := .slice none 0 0) (by rw [e60]; rfl) (by rw [e61]; rfl) (by rw [e62]; rfl)
                  have S11 := ((S10.setCell (a := ⟨B6, 0, none⟩) m6 (.bool false)).setCell (a := ⟨B6, 1, none⟩) m6 (.int .i64 0)).setCell (a := ⟨B6, 2, none⟩) m6 (.slice none 0 0)
                  clear e40 e41 e42 e60 e61 e62 x60 x61 x62
                  generalize ((w10.setCell ⟨B6, 0, none⟩ (.bool false)).setCell ⟨B6, 1, none⟩ (.int .i64 0)).setCell ⟨B6, 2, none⟩ (.slice none 0 0) = w11 at *
                  exact bodyPost_ret (v := .tuple #[.agg #[.bool false, .int .i64 0, .slice none 0 0], .int .i64 (peerV b (t, r, L8))]) (by simp [results, Try.results15, go_sem, f0, f1, f2]) rfl ⟨⟨_, by rw [HC0.out, HEN.out], by rw [HC0.out]; exact OwnRow.nil _ _ _⟩, S11.below⟩
  · have hE : keepE b (t, r, l) (kv, kn, kl) = peerV b (t, r, l) := by unfold keepE; rw [if_pos h0]
    obtain ⟨h1, h2, h3, h4⟩ := HFAIL.out _ w1 S1 hE h0
    have hne : (peerV b (t, r, l) != 0) = true := by simpa using h0
    have HE := Lib.hid hE
    have HH := Lib.hid h1
    have H2 := Lib.hid h2
    have H3 := Lib.hid h3
    have H4 := Lib.hid h4
    clear h1 h2 h3 h4 hE h0 hvb0 hvu0
    go_wp2_with fail
    exact bodyPost_ret (v := .tuple #[.agg #[.bool false, .int .i64 0, .slice none 0 0], .int .i64 (peerV b (t, r, l))]) (by simp [results, Try.results15, go_sem, c60, c61, c62]) rfl ⟨⟨_, by rw [H2.out, H3.out, HE.out], HH.out⟩, H4.out⟩

end Go.Proofs.Ytpjlngkndofjfaa
