/-
  From what a book and a version read as, to this proof's words.
-/
import Derived.Test.YtlaabmpadikkjaaReadRow
import Derived.Test.YtlaabmpadikkjaaBook
namespace Go.Proofs.Ytlaabmpadikkjaa
open Go.ChangeShapes Go.WideShapes Go.ChangeAt Go.RowKit Go.Deep
/-- The value is this book. -/
def IsBook (w : World) (v : Value) (b : List Ver) : Prop := ∃ u, v = .agg #[u] ∧ IsVers w u b
section
variable {H : Type} {enc : TypeId × Value → H} {W : World} {base : Nat} {v : Value} {d : DataW H} {ps : List MemPlace}
theorem cells_vers : Try.prog.cellsOf 48 = 1 := by kernel_rfl
theorem cells_ver : Try.prog.cellsOf 63 = 4 := by kernel_rfl
theorem cells_book : Try.prog.cellsOf 50 = 1 := by kernel_rfl
set_option maxRecDepth 100000 in
theorem reads_ver : Reads enc W 63 RVer := by
  intro n cs x h hz
  obtain ⟨y0, y1, k, rfl, hl, h0, h1⟩ := trod_struct2 Try.underlying63 h
  rw [cells_ver] at hl
  simp only [cells_plan, cells_ints] at h0 h1
  match cs, hl with
  | [c0, c1, c2, c3], _ =>
    simp only [List.drop_zero, List.drop_succ_cons, List.take_succ_cons, List.take_zero] at h0 h1
    simp only [DataW.weights, Try.underlying63, List.map_cons, List.map_nil, DataW.weightsEach, List.mem_append] at hz
    obtain ⟨z0, v0, e0, i0⟩ := reads_ints k _ _ h0 (fun m hm => hz m (by simp [hm]))
    obtain ⟨z1, e1, i1⟩ := reads_plan k _ _ h1 (fun m hm => hz m (by simp [hm]))
    simp only [List.cons.injEq, and_true] at e0 e1
    obtain ⟨rfl, rfl, rfl⟩ := e1
    subst e0
    exact ⟨(z0, z1), _, rfl, i0, i1⟩
set_option maxRecDepth 100000 in
theorem reads_vers : Reads enc W 48 (fun w cs l => ∃ v, cs = [v] ∧ IsVers w v l) :=
  reads_row Try.underlying48 cells_ver (by omega) (by rw [show Try.prog.bytesOf 63 = 48 by kernel_rfl]; omega) reads_ver
def RBook : Rd (List Ver) := fun w cs b => ∃ v, cs = [v] ∧ IsVers w v b
set_option maxRecDepth 100000 in
theorem reads_book : Reads enc W 50 RBook := by
  intro n cs x h hz
  obtain ⟨y0, k, rfl, hl, h0⟩ := trod_struct1 Try.underlying50 h
  rw [cells_book] at hl
  simp only [cells_vers] at h0
  match cs, hl with
  | [c0], _ =>
    simp only [List.drop_zero, List.take_succ_cons, List.take_zero] at h0
    simp only [DataW.weights, Try.underlying50, List.map_cons, List.map_nil, DataW.weightsEach, List.mem_append] at hz
    exact reads_vers k _ _ h0 (fun m hm => hz m (by simp [hm]))
set_option maxRecDepth 100000 in
theorem read_book (hv : Value.okWide Try.prog W .any base 50 v) (h : DataW.Trod enc Try.prog W 0 (fun _ => true) true 50 v d ps) (hz : ∀ n ∈ d.weights Try.prog 50, n ≤ reachBytes) : ∃ b, IsBook W v b := by
  obtain ⟨cs, b, rfl, u, h1, h2⟩ := read_agg Try.underlying50 reads_book hv h hz
  exact ⟨b, u, by rw [agg_of_list h1], h2⟩
/-- The value is this version. -/
def IsVersion (w : World) (v : Value) (x : Ver) : Prop := ∃ u, v = .agg #[u, .int .i64 x.2.1, .int .i64 x.2.2.1, .int .i64 x.2.2.2] ∧ IsInts w u x.1 ∧ I64 x.2.1 ∧ I64 x.2.2.1 ∧ I64 x.2.2.2
set_option maxRecDepth 100000 in
theorem read_version (hv : Value.okWide Try.prog W .any base 63 v) (h : DataW.Trod enc Try.prog W 0 (fun _ => true) true 63 v d ps) (hz : ∀ n ∈ d.weights Try.prog 63, n ≤ reachBytes) : ∃ x, IsVersion W v x := by
  obtain ⟨cs, x, rfl, u, h1, h2⟩ := read_agg Try.underlying63 reads_ver hv h hz
  exact ⟨x, u, by rw [agg_of_list h1], h2⟩
end
end Go.Proofs.Ytlaabmpadikkjaa
