/-
  From what a book and a version read as, to this proof's words.
-/
import Derived.Test.YtpjlngkndofjfaaReadRow
import Derived.Test.YtpjlngkndofjfaaBook
namespace Go.Proofs.Ytpjlngkndofjfaa
open Go.ChangeShapes Go.WideShapes Go.ChangeAt Go.RowKit Go.Deep
/-- The value is this book. -/
def IsBook (w : World) (v : Value) (b : List Ver) : Prop := ∃ u, v = .agg #[u] ∧ IsVers w u b
section
variable {H : Type} {enc : TypeId × Value → H} {W : World} {base : Nat} {v : Value} {d : DataW H} {ps : List MemPlace}
theorem cells_vers : Try.prog.cellsOf 22 = 1 := by kernel_rfl
theorem cells_ver : Try.prog.cellsOf 69 = 4 := by kernel_rfl
theorem cells_book : Try.prog.cellsOf 24 = 1 := by kernel_rfl
set_option maxRecDepth 100000 in
theorem reads_ver : Reads enc W 69 RVer := by
  intro n cs x h hz
  obtain ⟨y0, y1, k, rfl, hl, h0, h1⟩ := trod_struct2 Try.underlying69 h
  rw [cells_ver] at hl
  simp only [cells_plan, cells_ints] at h0 h1
  match cs, hl with
  | [c0, c1, c2, c3], _ =>
    simp only [List.drop_zero, List.drop_succ_cons, List.take_succ_cons, List.take_zero] at h0 h1
    simp only [DataW.weights, Try.underlying69, List.map_cons, List.map_nil, DataW.weightsEach, List.mem_append] at hz
    obtain ⟨z0, v0, e0, i0⟩ := reads_ints k _ _ h0 (fun m hm => hz m (by simp [hm]))
    obtain ⟨z1, e1, i1⟩ := reads_plan k _ _ h1 (fun m hm => hz m (by simp [hm]))
    simp only [List.cons.injEq, and_true] at e0 e1
    obtain ⟨rfl, rfl, rfl⟩ := e1
    subst e0
    exact ⟨(z0, z1), _, rfl, i0, i1⟩
set_option maxRecDepth 100000 in
theorem reads_vers : Reads enc W 22 (fun w cs l => ∃ v, cs = [v] ∧ IsVers w v l) :=
  reads_row Try.underlying22 cells_ver (by omega) (by rw [show Try.prog.bytesOf 69 = 48 by kernel_rfl]; omega) reads_ver
def RBook : Rd (List Ver) := fun w cs b => ∃ v, cs = [v] ∧ IsVers w v b
set_option maxRecDepth 100000 in
theorem reads_book : Reads enc W 24 RBook := by
  intro n cs x h hz
  obtain ⟨y0, k, rfl, hl, h0⟩ := trod_struct1 Try.underlying24 h
  rw [cells_book] at hl
  simp only [cells_vers] at h0
  match cs, hl with
  | [c0], _ =>
    simp only [List.drop_zero, List.take_succ_cons, List.take_zero] at h0
    simp only [DataW.weights, Try.underlying24, List.map_cons, List.map_nil, DataW.weightsEach, List.mem_append] at hz
    exact reads_vers k _ _ h0 (fun m hm => hz m (by simp [hm]))
set_option maxRecDepth 100000 in
theorem read_book (hv : Value.okWide Try.prog W .any base 24 v) (h : DataW.Trod enc Try.prog W 0 (fun _ => true) true 24 v d ps) (hz : ∀ n ∈ d.weights Try.prog 24, n ≤ reachBytes) : ∃ b, IsBook W v b := by
  obtain ⟨cs, b, rfl, u, h1, h2⟩ := read_agg Try.underlying24 reads_book hv h hz
  exact ⟨b, u, by rw [agg_of_list h1], h2⟩
/-- The value is this version. -/
def IsVersion (w : World) (v : Value) (x : Ver) : Prop := ∃ u, v = .agg #[u, .int .i64 x.2.1, .int .i64 x.2.2.1, .int .i64 x.2.2.2] ∧ IsInts w u x.1 ∧ I64 x.2.1 ∧ I64 x.2.2.1 ∧ I64 x.2.2.2
set_option maxRecDepth 100000 in
theorem read_version (hv : Value.okWide Try.prog W .any base 69 v) (h : DataW.Trod enc Try.prog W 0 (fun _ => true) true 69 v d ps) (hz : ∀ n ∈ d.weights Try.prog 69, n ≤ reachBytes) : ∃ x, IsVersion W v x := by
  obtain ⟨cs, x, rfl, u, h1, h2⟩ := read_agg Try.underlying69 reads_ver hv h hz
  exact ⟨x, u, by rw [agg_of_list h1], h2⟩
end
end Go.Proofs.Ytpjlngkndofjfaa
