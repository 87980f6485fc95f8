/-
  mesh.New walked.
  Meshes as the call's own: one cell of a peer, one number of a share is stored.
  begun, a mesh for closed facts, walked.
  woven, a closed fact of meshes, walked.
-/
import Derived.Test.YtjakdgchfimhkaaGreatSaves
import Derived.Test.YtjakdgchfimhkaaGreatPut
import Derived.Test.YtjakdgchfimhkaaGreatCopies
import Derived.Test.YtjakdgchfimhkaaGreatRepair
import Derived.Test.YtjakdgchfimhkaaGreatSames
namespace Go.Proofs.YtjakdgchfimhkaaGreat
open Go.RowKit

/-- A mesh without versions: peers that are there, with so much room each. -/
def newP (room : List Int) : List Pr := room.map fun r => (true, r, [])
def newE (room : List Int) : Int := meshV ([], newP room)
def newC (room : List Int) : Me := if newE room = 0 then ([], newP room) else ([], [])
def newD (r : Int) : PrD := ((true, r, .slice none 0 0), [])
def newZ (room : List Int) : List PrD := room.map newD
theorem newZ_pr (room : List Int) : (newZ room).map toPr = newP room := by simp [newZ, newP, newD, toPr]
theorem newZ_step {room : List Int} {k : Nat} {r : Int} (h : room[k]? = some r) : newZ (room.take (k + 1)) = newZ (room.take k) ++ [newD r] := by unfold newZ; rw [take_get h, List.map_append]; rfl
theorem newDP {w : World} {base : Nat} {v : Value} {room : List Int} (h : OwnRow 3 RPC (fun _ => False) w 45 base v (newZ room)) (hi : ∀ r ∈ room, I64 r) : DP w base v (newZ room) := by
  have hno : ∀ z ∈ newZ room, z.2 = [] ∧ z.1.2.2 = .slice none 0 0 ∧ I64 z.1.2.1 := by
    intro z hz
    obtain ⟨r, hr, rfl⟩ := List.mem_map.1 hz
    exact ⟨rfl, rfl, hi r hr⟩
  have hf : ∀ z ∈ newZ room, ∀ k, ¬ footZ z k := by
    intro z hz k hk
    obtain ⟨h1, h2, _⟩ := hno z hz
    rcases hk with hk | ⟨y, hy, _⟩
    · rw [h2] at hk; cases hk
    · rw [h1] at hy; simp at hy
  refine ⟨h, fun z hz => ?_, ?_⟩
  · obtain ⟨h1, h2, h3⟩ := hno z hz
    refine ⟨?_, h3, fun k hk => absurd hk (hf z hz k)⟩
    rw [h1, h2]
    exact DK.nil _ _
  · rw [List.pairwise_iff_getElem]
    intro i j hi hj _ k hk
    exact absurd hk (hf _ (List.getElem_mem hi) k)

set_option linter.unusedSimpArgs false in
set_option maxRecDepth 100000 in
set_option maxHeartbeats 4000000 in
theorem New_any (v : Value) (room : List Int) (W : World) (hv : IsInts W v room) (hr : room.length ≤ 1900000) :
    Calls Tryz.prog 4 #[v] W fun e w' => (∃ u1 u2, e = .returned (.tuple #[.agg #[u1, u2], .int .i64 (newE room)]) ∧ OwnM (fun k => k < W.heap.size) w' W.heap.size u1 u2 (newC room)) ∧ Below W.heap.size W w' := by
  obtain ⟨a, c, rfl, hcv, ⟨hvm, hvc, _⟩, _⟩ := hv.opened
  have S0 := ((Since.refl W).alloc (.cells #[.slice none 0 0, .slice none 0 0] 27)).alloc (.cells #[.slice none 0 0, .slice none 0 0] 27)
  obtain ⟨w0, hw0⟩ : ∃ w0, w0 = (W.alloc (.cells #[.slice none 0 0, .slice none 0 0] 27)).alloc (.cells #[.slice none 0 0, .slice none 0 0] 27) := ⟨_, rfl⟩
  have p0 : w0.cell? ⟨W.heap.size, 0, none⟩ = some (.slice none 0 0) := by rw [hw0]; go_simp
  have p1 : w0.cell? ⟨W.heap.size, 1, none⟩ = some (.slice none 0 0) := by rw [hw0]; go_simp
  have p2 : ∀ j, w0.frozen? ⟨W.heap.size, j, none⟩ = false := by intro j; rw [hw0]; go_simp
  have q0 : w0.cell? ⟨W.heap.size + 1, 0, none⟩ = some (.slice none 0 0) := by rw [hw0]; go_simp
  have q1 : w0.cell? ⟨W.heap.size + 1, 1, none⟩ = some (.slice none 0 0) := by rw [hw0]; go_simp
  have q2 : ∀ j, w0.frozen? ⟨W.heap.size + 1, j, none⟩ = false := by intro j; rw [hw0]; go_simp
  have hsz0 : w0.heap.size = W.heap.size + 2 := by rw [hw0]; simp
  rw [← hw0] at S0
  have HW := Lib.hid hw0
  clear hw0
  obtain ⟨B, hB⟩ : ∃ B, B = W.heap.size := ⟨_, rfl⟩
  obtain ⟨B1, hB1⟩ : ∃ B1, B1 = W.heap.size + 1 := ⟨_, rfl⟩
  have hBW : W.heap.size ≤ B := by omega
  have hBW1 : W.heap.size ≤ B1 := by omega
  have hBB : ¬ B1 = B := by omega
  have hBB' : ¬ B = B1 := by omega
  have hB0 : B < w0.heap.size := by omega
  have hB10 : B1 < w0.heap.size := by omega
  have hW0 : W.heap.size ≤ w0.heap.size := by omega
  rw [← hB1] at q0 q1 q2
  rw [← hB] at p0 p1 p2
  have HB := Lib.hid hB
  have HB1 := Lib.hid hB1
  clear hB hB1 hsz0
  have HV := Lib.hid hv
  clear hv
  go_enter Tryz.func4, Tryz.ntmps4
  go_upto_region 2 with fail
  rw [← HW.out, ← HB1.out, ← HB.out]
  go_wp2_with fail
  go_loopw [11] (fun i wr => ∃ k : Nat, ∃ y, k ≤ room.length ∧ i = .int .i64 k ∧ Since W.heap.size W wr ∧ w0.heap.size ≤ wr.heap.size ∧ (wr.cell? ⟨B, 0, none⟩ = some (.slice none 0 0) ∧ wr.cell? ⟨B, 1, none⟩ = some (.slice none 0 0) ∧ ∀ j, wr.frozen? ⟨B, j, none⟩ = false) ∧ (wr.cell? ⟨B1, 0, none⟩ = some (.slice none 0 0) ∧ wr.cell? ⟨B1, 1, none⟩ = some y ∧ ∀ j, wr.frozen? ⟨B1, j, none⟩ = false) ∧ OwnRow 3 RPC (fun j => j = B1) wr 45 w0.heap.size y (newZ (room.take k))) (fun i _ => room.length - (intOf i).toNat)
  case atStart => exact ⟨0, _, by omega, rfl, S0, Nat.le_refl _, ⟨p0, p1, p2⟩, ⟨q0, q1, q2⟩, OwnRow.nil _ _ _⟩
  case round =>
    obtain ⟨k, y, hk, rfl, hS, hsz, ⟨x0, x1, x2⟩, ⟨z0, z1, z2⟩, ho⟩ := hrel
    clear p0 p1 p2 q0 q1 q2
    have hoff : ∀ j, y.ownBlock = some j → w0.heap.size ≤ j := fun j hj => (ho.lt j hj).1
    by_cases hlt : k < room.length
    · have hget := List.getElem?_eq_getElem hlt
      obtain ⟨br, orr, rfl, r0, hi⟩ := ints_at (HV.out.stays hS.below) hget
      have HST := Lib.hid (newZ_step hget)
      have hlen : (newZ (room.take k)).length ≤ 1900000 := by simp [newZ]; omega
      generalize room[k] = r at *
      generalize hM : newZ (room.take k) = M at *
      have BB := below_alloc wr (.cells #[.bool true, .int .i64 r, .slice none 0 0] 45)
      have hn0 : some (Addr.mk B 0 none).block ≠ y.ownBlock := fun e => by have := hoff B e.symm; omega
      have hn1 : some (Addr.mk B1 0 none).block ≠ y.ownBlock := fun e => by have := hoff B1 e.symm; omega
      have a0 := below_cell BB z0
      have a1 := below_cell BB z1
      have a2 := below_free BB z1 (z2 1)
      have S1 := hS.alloc (.cells #[.bool true, .int .i64 r, .slice none 0 0] 45)
      have HX : Hid (wr.cell? ⟨B, 0, none⟩ = some (.slice none 0 0) ∧ wr.cell? ⟨B, 1, none⟩ = some (.slice none 0 0) ∧ (∀ j, wr.frozen? ⟨B, j, none⟩ = false) ∧ ∀ j, wr.frozen? ⟨B1, j, none⟩ = false) := Lib.hid ⟨x0, x1, x2, z2⟩
      have hBr : B < wr.heap.size := by omega
      have hB1r : B1 < wr.heap.size := by omega
      clear hM hget x0 x1 x2 z2
      go_wp2_with (at_builtin; refine wpList_append_row rfl _ _ 25 rfl 3 (fun j => j = B1) 45 Tryz.underlying25 _ 40 info_peer rfl (by omega) (by omega) w0.heap.size _ M rfl (ho.stays (below_alloc _ _)) ⟨wr.heap.size, 0, none⟩ 1 [.bool true, .int .i64 r, .slice none 0 0] (newD r) rfl rfl (by intro w hw; simp at hw; rcases hw with rfl | rfl | rfl <;> rfl) (fresh_cellsT wr [.bool true, .int .i64 r, .slice none 0 0] 45 _ rfl) (fun _ _ => ⟨rfl, _, _, _, rfl⟩) (by omega) (by simp; omega) ?_; intro v7 w7 ho7 hg7 hat7; obtain ⟨a7, c7, rfl, _⟩ := ho7.isRow.opened; rw [show (M ++ [newD r]).length = M.length + 1 by simp] at ho7; have e0 := hg7.cell a0 hn1; have e1 := hg7.cell a1 hn1; have e2 := grown_free hg7 a1 a2 hn1)
      have hz7 : wr.heap.size ≤ w7.heap.size := Nat.le_trans (below_alloc _ _).size hg7.size
      have S8 := (S1.grown hg7 (fun j hj => Nat.le_trans hW0 (hoff j hj))).setCell (a := ⟨B1, 1, none⟩) hBW1 (.slice a7 (M.length + 1) c7)
      have hd8 : Dirty (fun j => j = B1) w7 (w7.setCell ⟨B1, 1, none⟩ (.slice a7 (M.length + 1) c7)) := (Dirty.of_grown (grown_setCell w7 ⟨B1, 1, none⟩ (.slice a7 (M.length + 1) c7))).mono fun j _ hj => by cases hj; rfl
      have ho8 := ho7.later hd8 (fun j hj => by have := (ho7.lt j hj).1; omega)
      have g0 : (w7.setCell ⟨B1, 1, none⟩ (.slice a7 (M.length + 1) c7)).cell? ⟨B1, 0, none⟩ = some (.slice none 0 0) := by go_simp
      have g1 : (w7.setCell ⟨B1, 1, none⟩ (.slice a7 (M.length + 1) c7)).cell? ⟨B1, 1, none⟩ = some (.slice a7 (M.length + 1) c7) := by go_simp
      obtain ⟨x0, x1, x2, z2⟩ := HX.out
      have hq : (w7.setCell ⟨B1, 1, none⟩ (.slice a7 (M.length + 1) c7)).heap[B]? = wr.heap[B]? := (Below.heap_setCell _ _ _ _ (fun e => hBB e.symm)).trans ((hg7.block B (by simp; omega) hn0).trans (BB.block B hBr))
      have hq1 : ∀ j, (w7.setCell ⟨B1, 1, none⟩ (.slice a7 (M.length + 1) c7)).frozen? ⟨B1, j, none⟩ = false := fun j => by
        rw [World.frozen?_setCell]
        exact (World.frozen?_of_block (hg7.block B1 (by simp; omega) hn1)).trans ((BB.frozen (p := ⟨B1, j, none⟩) hB1r).trans (z2 j))
      have HG : Hid ((w7.setCell ⟨B1, 1, none⟩ (.slice a7 (M.length + 1) c7)).cell? ⟨B1, 0, none⟩ = some (.slice none 0 0) ∧ (w7.setCell ⟨B1, 1, none⟩ (.slice a7 (M.length + 1) c7)).cell? ⟨B1, 1, none⟩ = some (.slice a7 (M.length + 1) c7) ∧ ∀ j, (w7.setCell ⟨B1, 1, none⟩ (.slice a7 (M.length + 1) c7)).frozen? ⟨B1, j, none⟩ = false) := Lib.hid ⟨g0, g1, hq1⟩
      have HQ : Hid ((w7.setCell ⟨B1, 1, none⟩ (.slice a7 (M.length + 1) c7)).cell? ⟨B, 0, none⟩ = some (.slice none 0 0) ∧ (w7.setCell ⟨B1, 1, none⟩ (.slice a7 (M.length + 1) c7)).cell? ⟨B, 1, none⟩ = some (.slice none 0 0) ∧ ∀ j, (w7.setCell ⟨B1, 1, none⟩ (.slice a7 (M.length + 1) c7)).frozen? ⟨B, j, none⟩ = false) := Lib.hid ⟨(World.cell?_of_block hq).trans x0, (World.cell?_of_block hq).trans x1, fun j => (World.frozen?_of_block hq).trans (x2 j)⟩
      have hsz8 : w0.heap.size ≤ (w7.setCell ⟨B1, 1, none⟩ (.slice a7 (M.length + 1) c7)).heap.size := by simp; omega
      clear g0 g1 hq hq1 e0 e1 e2 a0 a1 a2 x0 x1 x2 z0 z1 z2 r0 ho hd8 ho7 hg7 hat7
      generalize w7.setCell ⟨B1, 1, none⟩ (.slice a7 (M.length + 1) c7) = w8 at *
      go_wp2_with fail
      go_roundw
      case rel => exact ⟨k + 1, _, by omega, by go_num, S8, hsz8, HQ.out, HG.out, by rw [HST.out]; exact ho8⟩
      case measure => simp [intOf]; omega
    · obtain rfl : room.length = k := by omega
      rw [List.take_length] at ho
      have hdp := newDP (RPC.anyE (E' := fun _ => False) ho) (fun r hr => by
        obtain ⟨i, hi⟩ := List.getElem?_of_mem hr
        exact (ints_at HV.out hi).choose_spec.choose_spec.2.2)
      have hps := hdp.isPeers
      rw [newZ_pr] at hps
      obtain ⟨ay, cy, rfl, _⟩ := hps.opened
      have hE : Hid (newE room = meshV ([], newP room)) := Lib.hid rfl
      have HX : Hid ((∀ j, wr.frozen? ⟨B, j, none⟩ = false) ∧ wr.cell? ⟨B, 0, none⟩ = some (.slice none 0 0) ∧ wr.cell? ⟨B, 1, none⟩ = some (.slice none 0 0)) := Lib.hid ⟨x2, x0, x1⟩
      clear x2 z2 ho x0 x1
      go_upto_region 8 with (go_at_call 13; go_fit (meshCheck_any _ [] _ (newP room) wr (IsRow.nil _) hps); rintro e w1 ⟨rfl, hb1⟩)
      have S2 := hS.step hb1
      have hBw1 : B < wr.heap.size := by omega
      obtain ⟨y2, y0, y1⟩ := HX.out
      have f0 := below_free hb1 y0 (y2 0)
      have f1 := below_free hb1 y1 (y2 1)
      have y0 := below_cell hb1 y0
      have y1 := below_cell hb1 y1
      have z0 := below_cell hb1 z0
      have z1 := below_cell hb1 z1
      have HD := Lib.hid (hdp.stays hb1)
      clear y2 hb1 hps hdp hlt
      by_cases h0 : meshV ([], newP room) = 0
      · rw [h0] at hE ⊢
        have hC : Hid (newC room = ([], newP room)) := Lib.hid (by unfold newC; rw [if_pos hE.out])
        have v0 : ((w1.setCell ⟨B, 0, none⟩ (.slice none 0 0)).setCell ⟨B, 1, none⟩ (.slice ay (newP room).length cy)).cell? ⟨B, 0, none⟩ = some (.slice none 0 0) := by go_simp
        have v1 : ((w1.setCell ⟨B, 0, none⟩ (.slice none 0 0)).setCell ⟨B, 1, none⟩ (.slice ay (newP room).length cy)).cell? ⟨B, 1, none⟩ = some (.slice ay (newP room).length cy) := by go_simp
        have S9 := (S2.setCell (a := ⟨B, 0, none⟩) hBW (.slice none 0 0)).setCell (a := ⟨B, 1, none⟩) hBW (.slice ay (newP room).length cy)
        have hd9 : Dirty (fun j => j = B) w1 ((w1.setCell ⟨B, 0, none⟩ (.slice none 0 0)).setCell ⟨B, 1, none⟩ (.slice ay (newP room).length cy)) := (Dirty.of_grown ((grown_setCell w1 ⟨B, 0, none⟩ (.slice none 0 0)).trans (grown_setCell _ ⟨B, 1, none⟩ (.slice ay (newP room).length cy)))).mono fun j _ hj => by cases hj; rfl
        have HO : Hid (OwnM (fun k => k < W.heap.size) ((w1.setCell ⟨B, 0, none⟩ (.slice none 0 0)).setCell ⟨B, 1, none⟩ (.slice ay (newP room).length cy)) W.heap.size (.slice none 0 0) (.slice ay (newP room).length cy) ([], newP room)) := Lib.hid ⟨newZ room, newZ_pr room, (HD.out.frame hd9 (fun j hj e => by have := (HD.out.lt hj).1; omega)).mono hW0, fun _ _ => IsRow.nil _⟩
        clear h0
        go_wp2_with fail
        exact bodyPost_ret (v := .tuple #[.agg #[.slice none 0 0, .slice ay (newP room).length cy], .int .i64 0]) (by simp [results, Tryz.results4, go_sem, v0, v1]) rfl ⟨⟨_, _, ret_mE hE.out.symm, by rw [hC.out]; exact HO.out⟩, S9.below⟩
      · have hC : Hid (newC room = ([], [])) := Lib.hid (by unfold newC; rw [if_neg (by rw [hE.out]; exact h0)])
        generalize meshV ([], newP room) = E at *
        have v0 : ((w1.setCell ⟨B, 0, none⟩ (.slice none 0 0)).setCell ⟨B, 1, none⟩ (.slice none 0 0)).cell? ⟨B, 0, none⟩ = some (.slice none 0 0) := by go_simp
        have v1 : ((w1.setCell ⟨B, 0, none⟩ (.slice none 0 0)).setCell ⟨B, 1, none⟩ (.slice none 0 0)).cell? ⟨B, 1, none⟩ = some (.slice none 0 0) := by go_simp
        have S9 := (S2.setCell (a := ⟨B, 0, none⟩) hBW (.slice none 0 0)).setCell (a := ⟨B, 1, none⟩) hBW (.slice none 0 0)
        clear z0 z1
        go_wp2_with fail
        exact bodyPost_ret (v := .tuple #[.agg #[.slice none 0 0, .slice none 0 0], .int .i64 E]) (by simp [results, Tryz.results4, go_sem, v0, v1]) rfl ⟨⟨_, _, ret_mE hE.out.symm, by rw [hC.out]; exact OwnM.nil _ _ _⟩, S9.below⟩
end Go.Proofs.YtjakdgchfimhkaaGreat

namespace Go.Proofs.YtjakdgchfimhkaaGreat
open Go.RowKit

section
variable {w : World} {base : Nat} {v : Value} {zs : List PrD}
/-- One cell of one peer is stored: the peer lies where it lay, or nowhere. -/
theorem DP.cellSet (h : DP w base v zs) {g L cap : Nat} (hv : v = .slice (some ⟨g, 0, none⟩) L cap) {i : Nat} {z z' : PrD} (hz : zs[i]? = some z) {j : Nat} {c : Value} (hj : j < 3) (hc : c.oneCell' = true) (hcs : [.bool z'.1.1, .int .i64 z'.1.2.1, z'.1.2.2] = ([.bool z.1.1, .int .i64 z.1.2.1, z.1.2.2] : List Value).set j c)
    (hd : DK w base z'.1.2.2 z'.2) (hi : I64 z'.1.2.1) (hs : ∃ a n c, z'.1.2.2 = .slice a n c) (hsub : ∀ k, footZ z' k → footZ z k) :
    DP (w.setCell ⟨g, i * 3 + j, none⟩ c) base v (zs.set i z') ∧ ∀ k, footP v (zs.set i z') k → footP v zs k := by
  subst hv
  obtain ⟨hz1, hz2, hz3⟩ := h.each z (List.mem_of_getElem? hz)
  have hd2 : Dirty (fun k => k = g) w (w.setCell ⟨g, i * 3 + j, none⟩ c) := (Dirty.of_grown (grown_setCell w ⟨g, i * 3 + j, none⟩ c)).mono fun k _ hk => by cases hk; rfl
  have hset : OwnRow 3 RPC (fun _ => False) (w.setCell ⟨g, i * 3 + j, none⟩ c) 45 base (.slice (some ⟨g, 0, none⟩) L cap) (zs.set i z') := by
    obtain ⟨r, g', hg', hl, h1, hcl, hf⟩ := h.row.get hz
    simp only [Value.ownBlock, Option.some.injEq] at hg'
    subst hg'
    obtain ⟨rfl, _⟩ := hf.now
    exact h.row.set hz rfl hl hcl hj hc (fun _ _ => ⟨hcs.symm, hs⟩)
  have hil := (List.getElem?_eq_some_iff.1 hz).1
  refine ⟨⟨hset, fun x hx => ?_, ?_⟩, fun k hk => ?_⟩
  · obtain ⟨q, hq⟩ := List.getElem?_of_mem hx
    rw [List.getElem?_set] at hq
    by_cases hij : i = q
    · subst hij
      rw [if_pos rfl, if_pos hil] at hq
      cases hq
      exact ⟨hd.frame hd2 (fun k hk e => hz3 k (hsub k hk) (by rw [e]; rfl)), hi, fun k hk => hz3 k (hsub k hk)⟩
    · rw [if_neg hij] at hq
      obtain ⟨h1, h2, h3⟩ := h.each x (List.mem_of_getElem? hq)
      exact ⟨h1.frame hd2 (fun k hk e => h3 k hk (by rw [e]; rfl)), h2, h3⟩
  · refine pairwise_set footZ_symm h.apart (fun q y hq hy k hk => ?_)
    exact pairwise_get footZ_symm h.apart hz hy (fun e => hq e.symm) k (hsub k hk)
  · rcases hk with hk | ⟨y, hy, hk⟩
    · exact Or.inl hk
    · rcases List.mem_or_eq_of_mem_set hy with hy | rfl
      · exact Or.inr ⟨y, hy, hk⟩
      · exact Or.inr ⟨z, List.mem_of_getElem? hz, hsub k hk⟩
/-- One number of one share is stored. -/
theorem DK.val {ys : List KpD} (h : DK w base v ys) {q : Nat} {y : KpD} (hy : ys[q]? = some y) {gy n cy : Nat} (hv : y.2 = .slice (some ⟨gy, 0, none⟩) n cy) (i : Nat) (x : Int) (hx : I64 x) :
    DK (w.setCell ⟨gy, i, none⟩ (.int .i64 x)) base v (ys.set q ((y.1.1, y.1.2.1, y.1.2.2.set i x), y.2)) := by
  have hd : Dirty (fun k => k = gy) w (w.setCell ⟨gy, i, none⟩ (.int .i64 x)) := (Dirty.of_grown (grown_setCell w ⟨gy, i, none⟩ (.int .i64 x))).mono fun k _ hk => by cases hk; rfl
  obtain ⟨h1, h2, h3, h4⟩ := h.vals y (List.mem_of_getElem? hy)
  have hne : v.ownBlock ≠ some gy := fun e => h4 gy gy (by rw [hv]; rfl) e rfl
  have hql := (List.getElem?_eq_some_iff.1 hy).1
  have hrow : OwnRow 3 RC (fun _ => False) (w.setCell ⟨gy, i, none⟩ (.int .i64 x)) 60 base v (ys.set q ((y.1.1, y.1.2.1, y.1.2.2.set i x), y.2)) := by
    have hr := RC.anyE (E' := fun _ => False) ((RC.anyE (E' := fun k => k = gy) h.row).later hd (fun k hk e => hne (by rw [hk, e])))
    have h5 := (List.getElem?_eq_some_iff.1 hy).2
    obtain ⟨r, g', hg', hl, h1', hc, hf⟩ := hr.get hy
    rcases hr.shape with ⟨rfl, rfl⟩ | ⟨g2, cap, cur, rfl, _⟩
    · simp at hy
    · simp only [Value.ownBlock, Option.some.injEq] at hg'
      subst hg'
      obtain ⟨rfl, ha⟩ := hf.now
      have hw0 : (w.setCell ⟨gy, i, none⟩ (.int .i64 x)).cell? ⟨g2, q * 3 + 0, none⟩ = some (.int .i64 y.1.1) := hc 0 _ rfl
      have := hr.set (x' := ((y.1.1, y.1.2.1, y.1.2.2.set i x), y.2)) (j := 0) (c := .int .i64 y.1.1) hy rfl hl hc (by omega) rfl (fun _ _ => ⟨rfl, ha⟩)
      rwa [setCell_same hw0] at this
  refine ⟨hrow, fun u hu => ?_, pairwise_set (fun a b h => h.symm) h.apart (fun j u hj hu => ?_)⟩
  · obtain ⟨j, hj⟩ := List.getElem?_of_mem hu
    rw [List.getElem?_set] at hj
    by_cases hij : q = j
    · subst hij
      rw [if_pos rfl, if_pos hql] at hj
      cases hj
      refine ⟨?_, h2, h3, h4⟩
      simp only
      rw [hv] at h1 ⊢
      exact h1.stored i x hx
    · rw [if_neg hij] at hj
      obtain ⟨g1, g2, g3, g4⟩ := h.vals u (List.mem_of_getElem? hj)
      have hap := pairwise_get (R := fun a b : KpD => Apart a.2 b.2) (fun a b h => h.symm) h.apart hy hj hij
      exact ⟨g1.same (fun k hk => hd.2 k (g1.1.lt k hk).2 (fun e => hap gy k (by rw [hv]; rfl) hk e.symm)), g2, g3, g4⟩
  · have := pairwise_get (R := fun a b : KpD => Apart a.2 b.2) (fun a b h => h.symm) h.apart hy hu (fun e => hj e.symm)
    exact this
end
section
variable {X Y : Nat → Prop} {w w1 : World} {base top0 : Nat} {v1 v2 : Value} {m : Me}
/-- A mesh of one's own that lies below a block: whatever is done from there on it stands. -/
def OwnT (X : Nat → Prop) (w : World) (base top0 : Nat) (v1 v2 : Value) (m : Me) : Prop := ∃ zs, zs.map toPr = m.2 ∧ DP w base v2 zs ∧ (∀ k, footP v2 zs k → k < top0) ∧ ∀ w', Dirty (fun k => footP v2 zs k ∨ X k ∨ top0 ≤ k) w w' → IsVers w' v1 m.1
theorem OwnM.toT (h : OwnM X w base v1 v2 m) : OwnT X w base w.heap.size v1 v2 m := by
  obtain ⟨zs, h1, h2, h3⟩ := h
  exact ⟨zs, h1, h2, fun k hk => (h2.lt hk).2, fun w' hw' => h3 w' (hw'.mono fun k hk hd => hd.elim Or.inl fun hd => hd.elim Or.inr fun hd => by omega)⟩
theorem OwnT.own (h : OwnT X w base top0 v1 v2 m) : OwnM X w base v1 v2 m := by
  obtain ⟨zs, h1, h2, _, h3⟩ := h
  exact ⟨zs, h1, h2, fun w' hw' => h3 w' (hw'.mono fun k _ hd => hd.imp id Or.inl)⟩
theorem OwnT.vers (h : OwnT X w base top0 v1 v2 m) : IsVers w v1 m.1 := h.own.vers
theorem OwnT.peers (h : OwnT X w base top0 v1 v2 m) : IsPeers w v2 m.2 := h.own.peers
/-- Where only blocks of X below, and blocks from the top0 on, are changed. -/
theorem OwnT.frame (h : OwnT X w base top0 v1 v2 m) {D : Nat → Prop} (hw : Dirty D w w1) (hD : ∀ k, D k → (X k ∧ k < base) ∨ top0 ≤ k) : OwnT X w1 base top0 v1 v2 m := by
  obtain ⟨zs, h1, h2, h0, h3⟩ := h
  exact ⟨zs, h1, h2.frame hw (fun k hk hd => by have := (h2.lt hk).1; have := h0 k hk; rcases hD k hd with ⟨_, h⟩ | h <;> omega), h0, fun w' hw' => h3 w' ((hw.mono fun k _ hk => (hD k hk).elim (fun h => Or.inr (Or.inl h.1)) (fun h => Or.inr (Or.inr h))).trans hw')⟩
theorem OwnT.stays (h : OwnT X w base top0 v1 v2 m) (hb : Below w.heap.size w w1) : OwnT X w1 base top0 v1 v2 m := h.frame (Dirty.old hb (fun _ => False)) (fun _ h => h.elim)
theorem OwnM.zs {zs : List PrD} {ps : List Pr} (h : zs.map toPr = ps) {k : Nat} {p : Pr} (hp : ps[k]? = some p) : ∃ z, zs[k]? = some z ∧ toPr z = p := by
  rw [← h, List.getElem?_map] at hp
  cases hz : zs[k]? with
  | none => rw [hz] at hp; cases hp
  | some z => rw [hz] at hp; exact ⟨z, rfl, Option.some.inj hp⟩
theorem OwnT.put {zs zs' : List PrD} {w' : World} (h0 : ∀ k, footP v2 zs k → k < top0) (h3 : ∀ w', Dirty (fun k => footP v2 zs k ∨ X k ∨ top0 ≤ k) w w' → IsVers w' v1 m.1) (hd : Dirty (footP v2 zs) w w') (hp : DP w' base v2 zs') (hf : ∀ k, footP v2 zs' k → footP v2 zs k) {ps : List Pr} (hm : zs'.map toPr = ps) : OwnT X w' base top0 v1 v2 (m.1, ps) :=
  ⟨zs', hm, hp, fun k hk => h0 k (hf k hk), fun w'' hw => h3 w'' ((hd.mono fun _ _ h => Or.inl h).trans (hw.mono fun k _ hk => hk.imp (hf k) id))⟩
/-- A peer of one's own mesh: where it stands; it goes or comes; it loses all. -/
theorem OwnT.peer (h : OwnT X w base top0 v1 v2 m) {k : Nat} {p : Pr} (hp : m.2[k]? = some p) :
    ∃ g cap u c, v2 = .slice (some ⟨g, 0, none⟩) m.2.length cap ∧ base ≤ g ∧ g < top0 ∧ w.cell? ⟨g, k * 3, none⟩ = some (.bool p.1) ∧ w.cell? ⟨g, k * 3 + 1, none⟩ = some (.int .i64 p.2.1) ∧ w.cell? ⟨g, k * 3 + 2, none⟩ = some (.slice u p.2.2.length c) ∧
      IsKepts w (.slice u p.2.2.length c) p.2.2 ∧ I64 p.2.1 ∧ (∀ j, w.frozen? ⟨g, j, none⟩ = false) ∧ (∀ t, OwnT X (w.setCell ⟨g, k * 3, none⟩ (.bool t)) base top0 v1 v2 (m.1, m.2.set k (t, p.2))) ∧ OwnT X (w.setCell ⟨g, k * 3 + 2, none⟩ (.slice none 0 0)) base top0 v1 v2 (m.1, m.2.set k (p.1, p.2.1, [])) := by
  obtain ⟨zs, h1, h2, h0, h3⟩ := h
  obtain ⟨z, hz, rfl⟩ := OwnM.zs h1 hp
  have hl : zs.length = m.2.length := by rw [← h1, List.length_map]
  obtain ⟨g, cap, a, n, c, hv, ez, c0, c1, c2, hg, fz⟩ := h2.get hz
  obtain ⟨hdk, hi, _⟩ := h2.each z (List.mem_of_getElem? hz)
  have hk := hdk.isKepts
  rw [ez] at hk
  have hn : n = (toPr z).2.2.length := by obtain ⟨_, _, e, _⟩ := hk.opened; simp only [Value.slice.injEq] at e; exact e.2.1
  have hfr : ∀ (o : Nat) (x : Value), Dirty (footP v2 zs) w (w.setCell ⟨g, o, none⟩ x) := fun o x => (Dirty.of_grown (grown_setCell w ⟨g, o, none⟩ x)).mono fun k _ hk => by cases hk; exact Or.inl (by rw [hv]; rfl)
  have hset : ∀ z', toPr z' = (toPr z') → (zs.set k z').map toPr = m.2.set k (toPr z') := fun z' _ => by rw [List.map_set, h1]
  refine ⟨g, cap, a, c, by rw [hv, hl], hg, h0 g (Or.inl (by rw [hv]; rfl)), c0, c1, by rw [← hn]; exact c2, by rw [← hn]; exact hk, hi, fz, fun t => ?_, ?_⟩
  · obtain ⟨d1, d2⟩ := h2.cellSet hv hz (z' := ((t, z.1.2.1, z.1.2.2), z.2)) (j := 0) (c := .bool t) (by omega) rfl rfl hdk hi ⟨_, _, _, ez⟩ (fun _ h => h)
    exact OwnT.put h0 h3 (hfr _ _) d1 d2 (by rw [hset _ rfl]; rfl)
  · obtain ⟨d1, d2⟩ := h2.cellSet hv hz (z' := ((z.1.1, z.1.2.1, .slice none 0 0), [])) (j := 2) (c := .slice none 0 0) (by omega) rfl rfl (DK.nil _ _) hi ⟨_, _, _, rfl⟩ (fun q hq => by rcases hq with hq | ⟨y, hy, _⟩; cases hq; simp at hy)
    exact OwnT.put h0 h3 (hfr _ _) d1 d2 (by rw [hset _ rfl]; rfl)
/-- What a peer of one's own mesh keeps at a place: where it stands; one number of it is stored. -/
theorem OwnT.kept (h : OwnT X w base top0 v1 v2 m) {k q : Nat} {p : Pr} {x : Kp} (hp : m.2[k]? = some p) (hx : p.2.2[q]? = some x) (hne : x.2.2 ≠ []) :
    ∃ g cap gk c gy cy, v2 = .slice (some ⟨g, 0, none⟩) m.2.length cap ∧ w.cell? ⟨g, k * 3 + 2, none⟩ = some (.slice (some ⟨gk, 0, none⟩) p.2.2.length c) ∧ w.cell? ⟨gk, q * 3, none⟩ = some (.int .i64 x.1) ∧ w.cell? ⟨gk, q * 3 + 1, none⟩ = some (.int .i64 x.2.1) ∧ w.cell? ⟨gk, q * 3 + 2, none⟩ = some (.slice (some ⟨gy, 0, none⟩) x.2.2.length cy) ∧
      (∀ (i : Nat) z, x.2.2[i]? = some z → w.cell? ⟨gy, i, none⟩ = some (.int .i64 z) ∧ I64 z) ∧ (∀ j, w.frozen? ⟨gy, j, none⟩ = false) ∧ base ≤ gy ∧ gy < top0 ∧ gy ≠ g ∧ gy ≠ gk ∧ I64 x.1 ∧ I64 x.2.1 ∧
      ∀ (i : Nat) (z : Int), I64 z → OwnT X (w.setCell ⟨gy, i, none⟩ (.int .i64 z)) base top0 v1 v2 (m.1, m.2.set k (p.1, p.2.1, p.2.2.set q (x.1, x.2.1, x.2.2.set i z))) := by
  obtain ⟨zs, h1, h2, h0, h3⟩ := h
  obtain ⟨z, hz, rfl⟩ := OwnM.zs h1 hp
  have hl : zs.length = m.2.length := by rw [← h1, List.length_map]
  obtain ⟨g, cap, a, n, c, hv, ez, c0, c1, c2, hg, fz⟩ := h2.get hz
  obtain ⟨hdk, hi, hoff⟩ := h2.each z (List.mem_of_getElem? hz)
  have hx' : (z.2.map (·.1))[q]? = some x := hx
  rw [List.getElem?_map] at hx'
  obtain ⟨y, hy, rfl⟩ : ∃ y, z.2[q]? = some y ∧ y.1 = x := by
    cases hq : z.2[q]? with
    | none => rw [hq] at hx'; cases hx'
    | some y => rw [hq] at hx'; exact ⟨y, rfl, Option.some.inj hx'⟩
  obtain ⟨gk, ck, ev, hgk, hgk2, _, y0, y1, y2, fy⟩ := ownRC_at hdk.row hy
  obtain ⟨o1, o2, o3, o4⟩ := hdk.vals y (List.mem_of_getElem? hy)
  obtain ⟨gy, cy, ey, hb1, hb2, _⟩ := o1.shape (List.length_pos_iff.2 hne)
  have hcells : ∀ (i : Nat) u, y.1.2.2[i]? = some u → w.cell? ⟨gy, i, none⟩ = some (.int .i64 u) ∧ I64 u := fun i u hu => by
    have hil := (List.getElem?_eq_some_iff.1 hu).1
    have := (ey ▸ o1).cell i hil
    rw [List.getD_eq_getElem?_getD, hu] at this
    exact ⟨this, o1.2.1 u (List.mem_of_getElem? hu)⟩
  have hfoot : footZ z gy := Or.inr ⟨y, List.mem_of_getElem? hy, by rw [ey]; rfl⟩
  have hgg : gy ≠ g := fun e => hoff gy hfoot (by rw [hv, e]; rfl)
  have hgk' : gy ≠ gk := fun e => o4 gy gk (by rw [ey]; rfl) (by rw [ev]; rfl) e
  have hln : (toPr z).2.2.length = z.2.length := by unfold toPr; simp
  refine ⟨g, cap, gk, ck, gy, cy, by rw [hv, hl], ?_, y0, y1, by rw [y2, ey], hcells, fun j => (ey ▸ o1).free j, hb1, h0 gy (Or.inr ⟨z, List.mem_of_getElem? hz, hfoot⟩), hgg, hgk', o2, o3, fun i u hu => ?_⟩
  · rw [c2, ← ez, ev, hln]
  · have hdk' := hdk.val hy ey i u hu
    have hd : Dirty (fun j => j = gy) w (w.setCell ⟨gy, i, none⟩ (.int .i64 u)) := (Dirty.of_grown (grown_setCell w ⟨gy, i, none⟩ (.int .i64 u))).mono fun j _ hj => by cases hj; rfl
    have hfootk : ∀ j, footK z.1.2.2 (z.2.set q ((y.1.1, y.1.2.1, y.1.2.2.set i u), y.2)) j → footK z.1.2.2 z.2 j := fun j hj => by
      rcases hj with hj | ⟨t, ht, hj⟩
      · exact Or.inl hj
      · rcases List.mem_or_eq_of_mem_set ht with ht | rfl
        · exact Or.inr ⟨t, ht, hj⟩
        · exact Or.inr ⟨y, List.mem_of_getElem? hy, hj⟩
    have hzl := (List.getElem?_eq_some_iff.1 hz).1
    have hfz : ∀ j, footZ (z.1, z.2.set q ((y.1.1, y.1.2.1, y.1.2.2.set i u), y.2)) j → footZ z j := hfootk
    have hrow : OwnRow 3 RPC (fun _ => False) (w.setCell ⟨gy, i, none⟩ (.int .i64 u)) 45 base v2 (zs.set k (z.1, z.2.set q ((y.1.1, y.1.2.1, y.1.2.2.set i u), y.2))) := by
      have hr := RPC.anyE (E' := fun _ => False) ((RPC.anyE (E' := fun j => j = gy) h2.row).later hd (fun j hj e => hgg (by rw [hv] at hj; cases hj; exact e.symm)))
      obtain ⟨r, g', hg', hlr, h1', hc, hf⟩ := hr.get hz
      rw [hv] at hg'
      simp only [Value.ownBlock, Option.some.injEq] at hg'
      subst hg'
      obtain ⟨rfl, ha⟩ := hf.now
      have hw0 : (w.setCell ⟨gy, i, none⟩ (.int .i64 u)).cell? ⟨g, k * 3 + 0, none⟩ = some (.bool z.1.1) := hc 0 _ rfl
      have := hr.set (x' := (z.1, z.2.set q ((y.1.1, y.1.2.1, y.1.2.2.set i u), y.2))) (j := 0) (c := .bool z.1.1) hz (by rw [hv]; rfl) hlr hc (by omega) rfl (fun _ _ => ⟨rfl, ha⟩)
      rwa [setCell_same hw0] at this
    have hdp : DP (w.setCell ⟨gy, i, none⟩ (.int .i64 u)) base v2 (zs.set k (z.1, z.2.set q ((y.1.1, y.1.2.1, y.1.2.2.set i u), y.2))) := by
      refine ⟨hrow, fun t ht => ?_, pairwise_set footZ_symm h2.apart (fun j t hj ht e he => pairwise_get footZ_symm h2.apart hz ht (fun e => hj e.symm) e (hfz e he))⟩
      obtain ⟨j, hj⟩ := List.getElem?_of_mem ht
      rw [List.getElem?_set] at hj
      by_cases hij : k = j
      · subst hij
        rw [if_pos rfl, if_pos hzl] at hj
        cases hj
        exact ⟨hdk', hi, fun e he => hoff e (hfz e he)⟩
      · rw [if_neg hij] at hj
        obtain ⟨g1, g2, g3⟩ := h2.each t (List.mem_of_getElem? hj)
        have hap := pairwise_get footZ_symm h2.apart hz hj hij
        exact ⟨g1.frame hd (fun e he h => hap e (by rw [h]; exact hfoot) he), g2, g3⟩
    refine OwnT.put h0 h3 (hd.mono fun j _ hj => by rw [hj]; exact Or.inr ⟨z, List.mem_of_getElem? hz, hfoot⟩) hdp (fun j hj => ?_) ?_
    · rcases hj with hj | ⟨t, ht, hj⟩
      · exact Or.inl hj
      · rcases List.mem_or_eq_of_mem_set ht with ht | rfl
        · exact Or.inr ⟨t, ht, hj⟩
        · exact Or.inr ⟨z, List.mem_of_getElem? hz, hfz j hj⟩
    · rw [List.map_set, h1]
      congr 1
      unfold toPr
      simp only [List.map_set]
end
end Go.Proofs.YtjakdgchfimhkaaGreat

namespace Go.Proofs.YtjakdgchfimhkaaGreat
open Go.RowKit

instance decKp : DecidableEq Kp := fun a b => instDecidableEqProd a b
instance decPr : DecidableEq Pr := fun a b => instDecidableEqProd a b
instance decMe : DecidableEq Me := fun a b => instDecidableEqProd a b
def begM : Me := ([([], 2, 4, 3)], [(true, 2, [(0, 0, [5, 9])]), (true, 2, [(0, 1, [7, 0])]), (true, 2, [(0, 2, [9, 22])]), (true, 2, [(0, 3, [11, 13])]), (true, 2, [])])
theorem beg_new : newE [2, 2, 2, 2, 2] = 0 ∧ newC [2, 2, 2, 2, 2] = ([], newP [2, 2, 2, 2, 2]) := by decide +kernel
theorem beg_save : saveE ([], newP [2, 2, 2, 2, 2]) [5, 7, 9] [] 2 4 = 0 ∧ saveC ([], newP [2, 2, 2, 2, 2]) [5, 7, 9] [] 2 4 = begM := by decide +kernel

set_option linter.unusedSimpArgs false in
set_option maxRecDepth 100000 in
set_option maxHeartbeats 2000000 in
theorem begun_any (W : World) : Calls Tryz.prog 39 #[] W fun e w' => (∃ u1 u2, e = .returned (.tuple #[.agg #[u1, u2], .int .i64 0]) ∧ OwnM (fun k => k < W.heap.size) w' W.heap.size u1 u2 begM) ∧ Below W.heap.size W w' := by
  obtain ⟨w0, hw0⟩ : ∃ w0, w0 = W.alloc (.cells #[.slice none 0 0, .slice none 0 0] 27) := ⟨_, rfl⟩
  have S0 := (Since.refl W).alloc (.cells #[.slice none 0 0, .slice none 0 0] 27)
  have p0 : w0.cell? ⟨W.heap.size, 0, none⟩ = some (.slice none 0 0) := by rw [hw0]; go_simp
  have p1 : w0.cell? ⟨W.heap.size, 1, none⟩ = some (.slice none 0 0) := by rw [hw0]; go_simp
  have p2 : ∀ j, w0.frozen? ⟨W.heap.size, j, none⟩ = false := by intro j; rw [hw0]; go_simp
  rw [← hw0] at S0
  have HW := Lib.hid hw0
  clear hw0
  obtain ⟨B, hB⟩ : ∃ B, B = W.heap.size := ⟨_, rfl⟩
  rw [← hB] at p0 p1 p2
  have hBW : W.heap.size ≤ B := by omega
  have hB0 := cell_lt p0
  simp only at hB0
  have HB := Lib.hid hB
  clear hB
  have HF : Hid (∀ w', Since w0.heap.size w0 w' → w'.cell? ⟨B, 0, none⟩ = some (.slice none 0 0) ∧ w'.cell? ⟨B, 1, none⟩ = some (.slice none 0 0) ∧ ∀ j, w'.frozen? ⟨B, j, none⟩ = false) := Lib.hid (fun w' q => ⟨below_cell q.below p0, below_cell q.below p1, fun j => (q.below.frozen (p := ⟨B, j, none⟩) hB0).trans (p2 j)⟩)
  clear p0 p1 p2
  have N0 := Lib.hid beg_new.1
  have N1 := Lib.hid beg_new.2
  have V0 := Lib.hid beg_save.1
  have V1 := Lib.hid beg_save.2
  go_enter Tryz.func39, Tryz.ntmps39
  go_upto_region 1 with fail
  rw [← HW.out, ← HB.out]
  have hr : IsInts (w0.alloc (.cells #[.int .i64 2, .int .i64 2, .int .i64 2, .int .i64 2, .int .i64 2] 3)) (.slice (some ⟨w0.heap.size, 0, none⟩) 5 5) [2, 2, 2, 2, 2] := IsInts.fresh w0 3 [2, 2, 2, 2, 2] (by decide) (wfNums _ (by decide)) _ rfl
  have T1 := (Since.refl w0).alloc (.cells #[.int .i64 2, .int .i64 2, .int .i64 2, .int .i64 2, .int .i64 2] 3)
  go_upto_region 2 with (go_at_call 4; go_fit (New_any _ [2, 2, 2, 2, 2] _ hr (by decide)); rintro e w1 ⟨⟨y1, y2, rfl, ho1⟩, hb1⟩; rw [N0.out]; rw [N1.out] at ho1; obtain ⟨a1, c1, ev1, _⟩ := ho1.vers.opened; rw [show ((([], newP [2, 2, 2, 2, 2]) : Me).1.length) = 0 from rfl] at ev1; subst ev1; obtain ⟨a2, c2, ev2, _⟩ := ho1.peers.opened; rw [show ((([], newP [2, 2, 2, 2, 2]) : Me).2.length) = 5 from rfl] at ev2; subst ev2)
  have T2 := T1.step hb1
  have T3 := T2.alloc (.cells #[.slice a1 0 c1, .slice a2 5 c2] 27)
  have ho3 := ho1.stays (below_alloc w1 (.cells #[.slice a1 0 c1, .slice a2 5 c2] 27))
  have g0 : (w1.alloc (.cells #[.slice a1 0 c1, .slice a2 5 c2] 27)).cell? ⟨w1.heap.size, 0, none⟩ = some (.slice a1 0 c1) := by go_simp
  have g1 : (w1.alloc (.cells #[.slice a1 0 c1, .slice a2 5 c2] 27)).cell? ⟨w1.heap.size, 1, none⟩ = some (.slice a2 5 c2) := by go_simp
  go_upto_region 4 with fail
  generalize w1.alloc (.cells #[.slice a1 0 c1, .slice a2 5 c2] 27) = w3 at *
  obtain ⟨B2, hB2⟩ : ∃ B2, B2 = w1.heap.size := ⟨_, rfl⟩
  rw [← hB2] at g0 g1 ⊢
  clear hB2
  have hd : IsInts (w3.alloc (.cells #[.int .i64 5, .int .i64 7, .int .i64 9] 3)) (.slice (some ⟨w3.heap.size, 0, none⟩) 3 3) [5, 7, 9] := IsInts.fresh w3 3 [5, 7, 9] (by decide) (wfNums _ (by decide)) _ rfl
  have T4 := T3.alloc (.cells #[.int .i64 5, .int .i64 7, .int .i64 9] 3)
  have ho4 := ho3.stays (below_alloc w3 (.cells #[.int .i64 5, .int .i64 7, .int .i64 9] 3))
  have HS := Lib.hid (Save_any (.slice a1 0 c1) (.slice a2 5 c2) _ (.slice none 0 0) [] (newP [2, 2, 2, 2, 2]) [5, 7, 9] [] 2 4 _ ho4.vers ho4.peers hd (IsInts.nil _) ⟨by decide, by decide⟩ ⟨by decide, by decide⟩)
  have hw04 := T4.2
  clear ho1 ho3 ho4 hr hd hb1
  go_wp2_with (go_at_call 7; go_fit HS.out; rintro e w5 ⟨⟨y3, y4, rfl, ho5⟩, hb5⟩; rw [V0.out]; rw [V1.out] at ho5; obtain ⟨a5, c5, ev5, _⟩ := ho5.vers.opened; rw [show begM.1.length = 1 from rfl] at ev5; subst ev5; obtain ⟨a6, c6, ev6, _⟩ := ho5.peers.opened; rw [show begM.2.length = 5 from rfl] at ev6; subst ev6; have T5 := T4.step hb5; obtain ⟨x0, x1, x2⟩ := HF.out w5 T5; have f0 := x2 0; have f1 := x2 1)
  have S6 := ((S0.step T5.below).setCell (a := ⟨B, 0, none⟩) hBW (.slice a5 1 c5)).setCell (a := ⟨B, 1, none⟩) hBW (.slice a6 5 c6)
  have hd6 : Dirty (fun j => j = B) w5 ((w5.setCell ⟨B, 0, none⟩ (.slice a5 1 c5)).setCell ⟨B, 1, none⟩ (.slice a6 5 c6)) := (Dirty.of_grown ((grown_setCell w5 ⟨B, 0, none⟩ (.slice a5 1 c5)).trans (grown_setCell _ ⟨B, 1, none⟩ (.slice a6 5 c6)))).mono fun j _ hj => by cases hj; rfl
  have hlt : ∀ k, k < w0.heap.size → k < (w3.alloc (.cells #[.int .i64 5, .int .i64 7, .int .i64 9] 3)).heap.size := fun k hk => by omega
  have HO := Lib.hid (((ho5.frame hd6 (fun k hk => by rw [hk]; exact ⟨hlt B hB0, hlt B hB0⟩)).less (Y := fun k => k < W.heap.size) (fun k hk => hlt k (by have := S0.2; omega))).mono (show W.heap.size ≤ _ from Nat.le_trans S0.2 hw04))
  have v0 : ((w5.setCell ⟨B, 0, none⟩ (.slice a5 1 c5)).setCell ⟨B, 1, none⟩ (.slice a6 5 c6)).cell? ⟨B, 0, none⟩ = some (.slice a5 1 c5) := by go_simp
  have v1 : ((w5.setCell ⟨B, 0, none⟩ (.slice a5 1 c5)).setCell ⟨B, 1, none⟩ (.slice a6 5 c6)).cell? ⟨B, 1, none⟩ = some (.slice a6 5 c6) := by go_simp
  exact bodyPost_ret (v := .tuple #[.agg #[.slice a5 1 c5, .slice a6 5 c6], .int .i64 0]) (by simp [results, Tryz.results39, go_sem, v0, v1]) rfl ⟨⟨_, _, rfl, HO.out⟩, S6.below⟩
end Go.Proofs.YtjakdgchfimhkaaGreat

namespace Go.Proofs.YtjakdgchfimhkaaGreat
open Go.RowKit

def wvB : Me := ([([], 2, 4, 3)], [(false, 2, [(0, 0, [5, 9])]), (true, 2, [(0, 1, [8, 0])]), (true, 2, [(0, 2, [9, 22])]), (true, 2, [(0, 3, [11, 13])]), (true, 2, [])])
def wvM : Me := ([([], 2, 4, 3)], [(false, 2, [(0, 0, [5, 9])]), (true, 2, [(0, 1, [7, 0])]), (true, 2, [(0, 2, [9, 22])]), (true, 2, [(0, 3, [11, 13])]), (true, 2, [])])
def wvR : Me := ([([], 2, 4, 3)], [(false, 2, [(0, 0, [5, 9])]), (true, 2, [(0, 1, [7, 0])]), (true, 2, [(0, 2, [9, 22])]), (true, 2, [(0, 3, [11, 13])]), (true, 2, [(0, 0, [5, 9])])])
theorem wvB_rest : restE wvB 0 = 0 ∧ (restW wvB 0).length = 1 := by
  refine ⟨by decide +kernel, ?_⟩
  have h : restW wvB 0 = mostW ((2 : Nat) : Int) ((4 : Nat) : Int) ((3 : Nat) : Int) (sharesM 0 wvB.2) := by
    unfold restW
    rw [if_neg (by decide +kernel)]
    rfl
  rw [h, mostW_nat (by decide +kernel), show badF (finV 2 4 3 (sharesM 0 wvB.2)).2 0 (sharesM 0 wvB.2) = [3] by decide +kernel]
  simp
theorem wvM_rest : restE wvM 0 = 0 ∧ restB wvM 0 = [5, 7, 9] ∧ restW wvM 0 = [] := by
  refine ⟨by decide +kernel, by decide +kernel, ?_⟩
  have h : restW wvM 0 = mostW ((2 : Nat) : Int) ((4 : Nat) : Int) ((3 : Nat) : Int) (sharesM 0 wvM.2) := by
    unfold restW
    rw [if_neg (by decide +kernel)]
    rfl
  rw [h, mostW_nat (by decide +kernel), show badF (finV 2 4 3 (sharesM 0 wvM.2)).2 0 (sharesM 0 wvM.2) = [] by decide +kernel]
  simp
theorem wvM_mend : repairE wvM 0 = 0 ∧ repairC wvM 0 = wvR := by decide +kernel
theorem wvM_who : restE wvM 1 = 4 := by decide +kernel
theorem wvR_ok : meshV wvR = 0 := by decide +kernel

set_option linter.unusedSimpArgs false in
set_option maxRecDepth 100000 in
set_option maxHeartbeats 4000000 in
theorem woven_any (W : World) : Calls Tryz.prog 12 #[] W fun e w' => e = .returned (.bool true) ∧ Below W.heap.size W w' := by
  have E1 := Lib.hid wvB_rest
  have E2 := Lib.hid wvM_rest
  have E3 := Lib.hid wvM_mend
  have E4 := Lib.hid wvM_who
  have E5 := Lib.hid wvR_ok
  go_enter Tryz.func12, Tryz.ntmps12
  go_upto_region 2 with (go_at_call 39; go_fit (begun_any W); rintro e w1 ⟨⟨y1, y2, rfl, ho1⟩, hb1⟩; obtain ⟨a1, c1, ev1, _⟩ := ho1.vers.opened; rw [show begM.1.length = 1 from rfl] at ev1; subst ev1; obtain ⟨a2, c2, ev2, _⟩ := ho1.peers.opened; rw [show begM.2.length = 5 from rfl] at ev2; subst ev2)
  have S1 := (Since.refl W).step hb1
  have S2 := S1.alloc (.cells #[.slice a1 1 c1, .slice a2 5 c2] 27)
  have T2 := (Since.refl w1).alloc (.cells #[.slice a1 1 c1, .slice a2 5 c2] 27)
  have ho2 := ho1.toT.stays (below_alloc w1 (.cells #[.slice a1 1 c1, .slice a2 5 c2] 27))
  have b0 : (w1.alloc (.cells #[.slice a1 1 c1, .slice a2 5 c2] 27)).cell? ⟨w1.heap.size, 0, none⟩ = some (.slice a1 1 c1) := by go_simp
  have b1 : (w1.alloc (.cells #[.slice a1 1 c1, .slice a2 5 c2] 27)).cell? ⟨w1.heap.size, 1, none⟩ = some (.slice a2 5 c2) := by go_simp
  generalize w1.alloc (.cells #[.slice a1 1 c1, .slice a2 5 c2] 27) = w2 at *
  obtain ⟨B, hB⟩ : ∃ B, B = w1.heap.size := ⟨_, rfl⟩
  have hWB := S1.2
  rw [← hB] at b0 b1 ho2 hWB ⊢
  clear hB ho1 hb1 S1 T2
  obtain ⟨g, cg, u0, c0, ev, hg1, hg2, r0, _, _, _, _, fz, hset, _⟩ := ho2.peer (k := 0) (p := (true, 2, [(0, 0, [5, 9])])) rfl
  rw [show begM.2.length = 5 from rfl] at ev
  simp only [Value.slice.injEq, true_and] at ev
  obtain ⟨rfl, rfl⟩ := ev
  obtain ⟨g', cg', gk, ck, gy, cy, ev, k2, x0, x1, x2, hv, fy, hy1, hy2, hyg, _, _, _, hval⟩ := ho2.kept (k := 1) (q := 0) (p := (true, 2, [(0, 1, [7, 0])])) (x := (0, 1, [7, 0])) rfl rfl (by simp)
  rw [show begM.2.length = 5 from rfl] at ev
  simp only [Value.slice.injEq, Option.some.injEq, Addr.mk.injEq, and_true, true_and] at ev
  obtain ⟨rfl, rfl⟩ := ev
  have k2 : w2.cell? ⟨g, 5, none⟩ = some (.slice (some ⟨gk, 0, none⟩) 1 ck) := k2
  go_upto_region 4 with fail
  have r0 : w2.cell? ⟨g, 0, none⟩ = some (.bool true) := by simpa using r0
  have f0 := fz 0
  have h3 : OwnT (fun k => k < W.heap.size) (w2.setCell ⟨g, 0, none⟩ (.bool false)) W.heap.size B (.slice a1 1 c1) (.slice (some ⟨g, 0, none⟩) 5 c2) (begM.1, begM.2.set 0 (false, 2, [(0, 0, [5, 9])])) := by simpa using hset false
  have hBg : B ≠ g := by omega
  have b1' : (w2.setCell ⟨g, 0, none⟩ (.bool false)).cell? ⟨B, 1, none⟩ = some (.slice (some ⟨g, 0, none⟩) 5 c2) := (cell_set_other _ _ _ _ hBg).trans b1
  have b0' : (w2.setCell ⟨g, 0, none⟩ (.bool false)).cell? ⟨B, 0, none⟩ = some (.slice a1 1 c1) := (cell_set_other _ _ _ _ hBg).trans b0
  have S3 := S2.setCell (a := ⟨g, 0, none⟩) hg1 (.bool false)
  clear hset hval k2 x0 x1 x2 hv fy hy1 hy2 hyg
  go_upto_region 5 with fail
  clear b0 b1 r0 f0 fz
  generalize w2.setCell ⟨g, 0, none⟩ (.bool false) = w3 at *
  obtain ⟨g', cg', gk, ck, gy, cy, ev, k2, x0, x1, x2, hv, fy, hy1, hy2, hyg, _, _, _, hval⟩ := h3.kept (k := 1) (q := 0) (p := (true, 2, [(0, 1, [7, 0])])) (x := (0, 1, [7, 0])) rfl rfl (by simp)
  rw [show ((begM.1, begM.2.set 0 (false, 2, [(0, 0, [5, 9])])) : Me).2.length = 5 from rfl] at ev
  simp only [Value.slice.injEq, Option.some.injEq, Addr.mk.injEq, and_true, true_and] at ev
  obtain ⟨rfl, rfl⟩ := ev
  have k2 : w3.cell? ⟨g, 5, none⟩ = some (.slice (some ⟨gk, 0, none⟩) 1 ck) := k2
  have x2 : w3.cell? ⟨gk, 2, none⟩ = some (.slice (some ⟨gy, 0, none⟩) 2 cy) := by simpa using x2
  have v0 := (hv 0 7 rfl).1
  have f0 := fy 0
  have hBy : B ≠ gy := by omega
  have h4 : OwnT (fun k => k < W.heap.size) (w3.setCell ⟨gy, 0, none⟩ (.int .i64 8)) W.heap.size B (.slice a1 1 c1) (.slice (some ⟨g, 0, none⟩) 5 c2) wvB := hval 0 8 ⟨by decide, by decide⟩
  have d1 : (w3.setCell ⟨gy, 0, none⟩ (.int .i64 8)).cell? ⟨B, 1, none⟩ = some (.slice (some ⟨g, 0, none⟩) 5 c2) := (cell_set_other _ _ _ _ hBy).trans b1'
  have d0 : (w3.setCell ⟨gy, 0, none⟩ (.int .i64 8)).cell? ⟨B, 0, none⟩ = some (.slice a1 1 c1) := (cell_set_other _ _ _ _ hBy).trans b0'
  have S4 := S3.setCell (a := ⟨gy, 0, none⟩) hy1 (.int .i64 8)
  clear hval hv fy h3
  go_upto_region 6 with fail
  clear b0' b1' v0 f0 k2 x2 x0 x1
  generalize w3.setCell ⟨gy, 0, none⟩ (.int .i64 8) = w4 at *
  go_upto_region 7 with (go_at_call 5; go_fit (Restore_any _ wvB.1 _ wvB.2 0 w4 h4.vers h4.peers); rintro e w5 ⟨⟨z1, z2, rfl, hi1, hi2⟩, hb5⟩; rw [show restE (wvB.1, wvB.2) 0 = 0 from E1.out.1]; obtain ⟨ab, cb, evb, _⟩ := hi2.opened; rw [show (restW (wvB.1, wvB.2) 0).length = 1 from E1.out.2] at evb; subst evb)
  have S5 := S4.step hb5
  have h5 := h4.stays hb5
  have d0 := below_cell hb5 d0
  have d1 := below_cell hb5 d1
  clear h4 hb5 hi1 hi2
  obtain ⟨g', cg', gk, ck, gy, cy, ev, k2, x0, x1, x2, hv, fy, hy1, hy2, hyg, _, _, _, hval⟩ := h5.kept (k := 1) (q := 0) (p := (true, 2, [(0, 1, [8, 0])])) (x := (0, 1, [8, 0])) rfl rfl (by simp)
  rw [show wvB.2.length = 5 from rfl] at ev
  simp only [Value.slice.injEq, Option.some.injEq, Addr.mk.injEq, and_true, true_and] at ev
  obtain ⟨rfl, rfl⟩ := ev
  have k2 : w5.cell? ⟨g, 5, none⟩ = some (.slice (some ⟨gk, 0, none⟩) 1 ck) := k2
  have x2 : w5.cell? ⟨gk, 2, none⟩ = some (.slice (some ⟨gy, 0, none⟩) 2 cy) := by simpa using x2
  have v0 := (hv 0 8 rfl).1
  have f0 := fy 0
  have hBy : B ≠ gy := by omega
  have h6 : OwnT (fun k => k < W.heap.size) (w5.setCell ⟨gy, 0, none⟩ (.int .i64 7)) W.heap.size B (.slice a1 1 c1) (.slice (some ⟨g, 0, none⟩) 5 c2) wvM := hval 0 7 ⟨by decide, by decide⟩
  have d1' : (w5.setCell ⟨gy, 0, none⟩ (.int .i64 7)).cell? ⟨B, 1, none⟩ = some (.slice (some ⟨g, 0, none⟩) 5 c2) := (cell_set_other _ _ _ _ hBy).trans d1
  have d0' : (w5.setCell ⟨gy, 0, none⟩ (.int .i64 7)).cell? ⟨B, 0, none⟩ = some (.slice a1 1 c1) := (cell_set_other _ _ _ _ hBy).trans d0
  have S6 := S5.setCell (a := ⟨gy, 0, none⟩) hy1 (.int .i64 7)
  clear hval hv fy h5
  go_upto_region 8 with fail
  clear d0 d1 v0 f0 k2 x2 x0 x1
  generalize w5.setCell ⟨gy, 0, none⟩ (.int .i64 7) = w6 at *
  go_upto_region 9 with (go_at_call 5; go_fit (Restore_any _ wvM.1 _ wvM.2 0 w6 h6.vers h6.peers); rintro e w7 ⟨⟨z3, z4, rfl, hi3, hi4⟩, hb7⟩; rw [show restE (wvM.1, wvM.2) 0 = 0 from E2.out.1]; rw [show restB (wvM.1, wvM.2) 0 = [5, 7, 9] from E2.out.2.1] at hi3; rw [show restW (wvM.1, wvM.2) 0 = [] from E2.out.2.2] at hi4; obtain ⟨ad, cd, rfl, _⟩ := hi3.opened; obtain ⟨an, cn, rfl, _⟩ := hi4.opened)
  have S7 := S6.step hb7
  have h7 := h6.stays hb7
  have d0 := below_cell hb7 d0'
  have d1 := below_cell hb7 d1'
  clear h6 hb7 hi4 d0' d1'
  go_upto_region 10 with (go_at_call 6; go_fit (Repair_any _ _ wvM.1 wvM.2 0 w7 h7.vers h7.peers ⟨by decide, by decide⟩); rintro e w8 ⟨⟨y3, y4, rfl, ho8⟩, hb8⟩; rw [show repairE (wvM.1, wvM.2) 0 = 0 from E3.out.1]; rw [show repairC (wvM.1, wvM.2) 0 = wvR from E3.out.2] at ho8; obtain ⟨a3, c3, ev3, _⟩ := ho8.vers.opened; rw [show wvR.1.length = 1 from rfl] at ev3; subst ev3; obtain ⟨a4, c4, ev4, _⟩ := ho8.peers.opened; rw [show wvR.2.length = 5 from rfl] at ev4; subst ev4)
  have BB := below_alloc w8 (.cells #[.slice a3 1 c3, .slice a4 5 c4] 27)
  have S9 := (S7.step hb8).alloc (.cells #[.slice a3 1 c3, .slice a4 5 c4] 27)
  have h9 := (h7.stays hb8).stays BB
  have hr9 := ho8.stays BB
  have hd9 := (hi3.stays hb8).stays BB
  have d0 := below_cell BB (below_cell hb8 d0)
  have d1 := below_cell BB (below_cell hb8 d1)
  have e0 : (w8.alloc (.cells #[.slice a3 1 c3, .slice a4 5 c4] 27)).cell? ⟨w8.heap.size, 0, none⟩ = some (.slice a3 1 c3) := by go_simp
  have e1 : (w8.alloc (.cells #[.slice a3 1 c3, .slice a4 5 c4] 27)).cell? ⟨w8.heap.size, 1, none⟩ = some (.slice a4 5 c4) := by go_simp
  generalize w8.alloc (.cells #[.slice a3 1 c3, .slice a4 5 c4] 27) = w9 at *
  obtain ⟨B9, hB9⟩ : ∃ B9, B9 = w8.heap.size := ⟨_, rfl⟩
  rw [← hB9] at e0 e1 ⊢
  clear hB9 BB ho8 h7 hi3 hb8
  go_upto_region 11 with (go_at_call 5; go_fit (Restore_any _ wvM.1 _ wvM.2 1 w9 h9.vers h9.peers); rintro e w10 ⟨⟨z5, z6, rfl, hi5, hi6⟩, hb10⟩; rw [show restE (wvM.1, wvM.2) 1 = 4 from E4.out])
  have S10 := S9.step hb10
  have hr10 := hr9.stays hb10
  have hd10 := hd9.stays hb10
  have e0 := below_cell hb10 e0
  have e1 := below_cell hb10 e1
  clear h9 hr9 hd9 hi5 hi6 hb10 d0 d1
  have hr11 := hr10.stays (below_alloc w10 (.cells #[.int .i64 5, .int .i64 7, .int .i64 9] 3))
  have hd11 := hd10.stays (below_alloc w10 (.cells #[.int .i64 5, .int .i64 7, .int .i64 9] 3))
  have e0 := below_cell (below_alloc w10 (.cells #[.int .i64 5, .int .i64 7, .int .i64 9] 3)) e0
  have e1 := below_cell (below_alloc w10 (.cells #[.int .i64 5, .int .i64 7, .int .i64 9] 3)) e1
  have S11 := S10.alloc (.cells #[.int .i64 5, .int .i64 7, .int .i64 9] 3)
  have HI := Lib.hid (IsInts.fresh w10 3 [5, 7, 9] (by decide) (wfNums _ (by decide)) _ rfl)
  have E8 : Hid (eqInts [5, 7, 9] [5, 7, 9] = true) := Lib.hid (by decide)
  clear hr10 hd10
  go_wp2_with fail
  refine (Equal_ints _ _ [5, 7, 9] [5, 7, 9] _ hd11 HI.out).mono ?_
  rintro e w12 ⟨rfl, hb12⟩
  rw [E8.out]
  have S12 := S11.step hb12
  have hr12 := hr11.stays hb12
  have e0 := below_cell hb12 e0
  have e1 := below_cell hb12 e1
  clear hr11 hd11 hb12
  obtain ⟨g9, cg9, gk9, ck9, gy9, cy9, ev9, k9, x0, x1, x2, _⟩ := hr12.toT.kept (k := 4) (q := 0) (p := (true, 2, [(0, 0, [5, 9])])) (x := (0, 0, [5, 9])) rfl rfl (by simp)
  rw [show wvR.2.length = 5 from rfl] at ev9
  simp only [Value.slice.injEq, true_and] at ev9
  obtain ⟨rfl, rfl⟩ := ev9
  have k9 : w12.cell? ⟨g9, 14, none⟩ = some (.slice (some ⟨gk9, 0, none⟩) 1 ck9) := k9
  have x1 : w12.cell? ⟨gk9, 1, none⟩ = some (.int .i64 0) := by simpa using x1
  have hrv := Lib.hid hr12.vers
  have hrp := Lib.hid hr12.peers
  clear hr12 x0 x2
  go_wp2_with fail
  refine (meshCheck_any _ wvR.1 _ wvR.2 w12 hrv.out hrp.out).mono ?_
  rintro e w13 ⟨rfl, hb13⟩
  rw [show meshV (wvR.1, wvR.2) = 0 from E5.out]
  have S13 := S12.step hb13
  have e0 := below_cell hb13 e0
  have e1 := below_cell hb13 e1
  have hv13 := Lib.hid (hrv.out.stays RVer.stays hb13)
  have hp13 := Lib.hid (hrp.out.stays RPeer.stays hb13)
  clear hb13
  go_wp2_with fail
  refine (Same_mesh _ _ _ _ wvR wvR w13 hv13.out hp13.out hv13.out hp13.out).mono ?_
  rintro e w14 ⟨rfl, hb14⟩
  rw [meEq_self]
  have S14 := S13.step hb14
  go_wp2_with fail
  go_ret
  exact ⟨rfl, S14.below⟩
end Go.Proofs.YtjakdgchfimhkaaGreat
