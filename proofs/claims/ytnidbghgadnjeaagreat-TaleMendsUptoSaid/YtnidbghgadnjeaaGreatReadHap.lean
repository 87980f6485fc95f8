/-
  From what happenings read as, to this proof's words.
-/
import Derived.Test.YtnidbghgadnjeaaGreatReadMesh
import Derived.Test.YtnidbghgadnjeaaGreatHap
import Derived.Lib.SmallJoins
namespace Go.Proofs.YtnidbghgadnjeaaGreat
open Go.ChangeShapes Go.WideShapes Go.ChangeAt Go.RowKit Go.Deep
section
variable {H : Type} {enc : TypeId × Value → H} {W : World} {base : Nat} {v : Value} {d : DataW H} {ps : List MemPlace}
theorem trod_struct7 {P : Program} {w : World} {base : Nat} {spare : Nat → Bool} {held : Bool} {t : TypeId} {f0 f1 f2 f3 f4 f5 f6 : Field} {fuel : Nat} {cs : List Value} {x : DataW H × List MemPlace} (ht : P.underlying t = some (.struct #[f0, f1, f2, f3, f4, f5, f6])) (h : DataW.trod enc P w base spare held fuel t cs = some x) :
    ∃ y0 y1 y2 y3 y4 y5 y6 n, x = (.agg [y0.1, y1.1, y2.1, y3.1, y4.1, y5.1, y6.1], y0.2 ++ (y1.2 ++ (y2.2 ++ (y3.2 ++ (y4.2 ++ (y5.2 ++ y6.2)))))) ∧ cs.length = P.cellsOf t ∧ DataW.trod enc P w base spare held n f0.type ((cs.drop f0.offset).take (P.cellsOf f0.type)) = some y0 ∧
      DataW.trod enc P w base spare held n f1.type ((cs.drop f1.offset).take (P.cellsOf f1.type)) = some y1 ∧ DataW.trod enc P w base spare held n f2.type ((cs.drop f2.offset).take (P.cellsOf f2.type)) = some y2 ∧
      DataW.trod enc P w base spare held n f3.type ((cs.drop f3.offset).take (P.cellsOf f3.type)) = some y3 ∧ DataW.trod enc P w base spare held n f4.type ((cs.drop f4.offset).take (P.cellsOf f4.type)) = some y4 ∧
      DataW.trod enc P w base spare held n f5.type ((cs.drop f5.offset).take (P.cellsOf f5.type)) = some y5 ∧ DataW.trod enc P w base spare held n f6.type ((cs.drop f6.offset).take (P.cellsOf f6.type)) = some y6 := by
  obtain ⟨xs, n, _, rfl, hl, hlen, hf⟩ := DataW.trod_struct ht h
  match xs, hlen with
  | [y0, y1, y2, y3, y4, y5, y6], _ => exact ⟨y0, y1, y2, y3, y4, y5, y6, n, by simp, hl, by simpa using hf 0 f0 rfl, by simpa using hf 1 f1 rfl, by simpa using hf 2 f2 rfl, by simpa using hf 3 f3 rfl, by simpa using hf 4 f4 rfl, by simpa using hf 5 f5 rfl, by simpa using hf 6 f6 rfl⟩
/-- The value is this happening. -/
def IsHap (w : World) (v : Value) (x : Hp) : Prop := ∃ vd vp, v = .agg #[.int .i64 x.1, .int .i64 x.2.1, .int .i64 x.2.2.1, vd, vp, .int .i64 x.2.2.2.2.2.1, .int .i64 x.2.2.2.2.2.2] ∧ IsInts w vd x.2.2.2.1 ∧ IsInts w vp x.2.2.2.2.1 ∧ I64 x.1 ∧ I64 x.2.1 ∧ I64 x.2.2.1 ∧ I64 x.2.2.2.2.2.1 ∧ I64 x.2.2.2.2.2.2
theorem cells_hap : Tryz.prog.cellsOf 50 = 7 := by kernel_rfl
set_option maxRecDepth 100000 in
theorem reads_hap : Reads enc W 50 RHap := by
  intro n cs x h hz
  obtain ⟨y0, y1, y2, y3, y4, y5, y6, k, rfl, hl, h0, h1, h2, h3, h4, h5, h6⟩ := trod_struct7 Tryz.underlying50 h
  rw [cells_hap] at hl
  simp only [cells_int, cells_ints] at h0 h1 h2 h3 h4 h5 h6
  match cs, hl with
  | [c0, c1, c2, c3, c4, c5, c6], _ =>
    simp only [List.drop_zero, List.drop_succ_cons, List.take_succ_cons, List.take_zero] at h0 h1 h2 h3 h4 h5 h6
    simp only [DataW.weights, Tryz.underlying50, List.map_cons, List.map_nil, DataW.weightsEach, List.mem_append] at hz
    obtain ⟨z0, e0, i0⟩ := reads_int Tryz.underlying3 k _ _ h0 (fun m hm => hz m (by simp [hm]))
    obtain ⟨z1, e1, i1⟩ := reads_int Tryz.underlying3 k _ _ h1 (fun m hm => hz m (by simp [hm]))
    obtain ⟨z2, e2, i2⟩ := reads_int Tryz.underlying3 k _ _ h2 (fun m hm => hz m (by simp [hm]))
    obtain ⟨z3, v3, e3, i3⟩ := reads_ints k _ _ h3 (fun m hm => hz m (by simp [hm]))
    obtain ⟨z4, v4, e4, i4⟩ := reads_ints k _ _ h4 (fun m hm => hz m (by simp [hm]))
    obtain ⟨z5, e5, i5⟩ := reads_int Tryz.underlying3 k _ _ h5 (fun m hm => hz m (by simp [hm]))
    obtain ⟨z6, e6, i6⟩ := reads_int Tryz.underlying3 k _ _ h6 (fun m hm => hz m (by simp [hm]))
    simp only [List.cons.injEq, and_true] at e0 e1 e2 e3 e4 e5 e6
    subst e0 e1 e2 e3 e4 e5 e6
    exact ⟨(z0, z1, z2, z3, z4, z5, z6), _, _, rfl, i3, i4, i0, i1, i2, i5, i6⟩
set_option maxRecDepth 100000 in
theorem read_haps (hv : Value.okWide Tryz.prog W .any base 23 v) (h : DataW.Trod enc Tryz.prog W 0 (fun _ => true) true 23 v d ps) (hz : ∀ n ∈ d.weights Tryz.prog 23, n ≤ reachBytes) : ∃ l, IsHaps W v l :=
  read_slice Tryz.underlying23 (reads_row Tryz.underlying23 cells_hap (by omega) (by rw [show Tryz.prog.bytesOf 50 = 88 by kernel_rfl]; omega) reads_hap) hv h hz
end
end Go.Proofs.YtnidbghgadnjeaaGreat
