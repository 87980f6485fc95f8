/-
  From what a mesh reads as, to this proof's words.
-/
import Derived.Test.YtjakdgchfimhkaaGreatBooks
import Derived.Test.YtjakdgchfimhkaaGreatPeers
namespace Go.Proofs.YtjakdgchfimhkaaGreat
open Go.ChangeShapes Go.WideShapes Go.ChangeAt Go.RowKit Go.Deep
/-- The value is this mesh. -/
def IsMesh (w : World) (v : Value) (m : List Ver × List Pr) : Prop := ∃ vb u, v = .agg #[vb, u] ∧ IsVers w vb m.1 ∧ IsPeers w u m.2
def RMesh : Rd (List Ver × List Pr) := fun w cs m => ∃ vb u, cs = [vb, u] ∧ IsVers w vb m.1 ∧ IsPeers w u m.2
/-- The value is a slice of these elements, of any length. -/
def IsLong {α : Type} (sz : Nat) (R : Rd α) (w : World) (v : Value) (l : List α) : Prop :=
  ∃ a cap, v = .slice a l.length cap ∧ l.length ≤ cap ∧ (cap ≤ 9223372036854775807 ∧ (a = none → cap = 0)) ∧ ∀ (i : Nat) x, l[i]? = some x → ∃ b off, a = some ⟨b, off, none⟩ ∧ ElemAt sz R w b (off + i * sz) x
theorem IsLong.nil {α : Type} {sz : Nat} {R : Rd α} (w : World) : IsLong sz R w (.slice none 0 0) [] := ⟨none, 0, rfl, Nat.le_refl _, ⟨by omega, fun _ => rfl⟩, fun i x h => by simp at h⟩
theorem IsLong.later {α : Type} {sz : Nat} {R : Rd α} {w w' : World} {v : Value} {l : List α} (h : IsLong sz R w v l) (hR : R.Stays) (hw : Dirty (fun _ => False) w w') : IsLong sz R w' v l := by
  obtain ⟨a, c, e, h1, h2, h3⟩ := h
  refine ⟨a, c, e, h1, h2, fun i x hx => ?_⟩
  obtain ⟨b, off, e', g⟩ := h3 i x hx
  exact ⟨b, off, e', g.framed id (fun cs => hR w cs x) hw⟩
/-- The value is a slice of these bools. -/
def RB1 : Rd Bool := fun _ cs x => cs = [.bool x]
theorem RB1.stays : RB1.Stays := fun _ _ _ h _ _ => h
section
variable {H : Type} {enc : TypeId × Value → H} {W : World} {base : Nat} {v : Value} {d : DataW H} {ps : List MemPlace}
theorem cells_peers : Tryz.prog.cellsOf 25 = 1 := by kernel_rfl
theorem cells_bookM : Tryz.prog.cellsOf 24 = 1 := by kernel_rfl
set_option maxRecDepth 100000 in
theorem reads_mesh : Reads enc W 27 RMesh := by
  intro n cs x h hz
  obtain ⟨y0, y1, k, rfl, hl, h0, h1⟩ := trod_struct2 Tryz.underlying27 h
  rw [show Tryz.prog.cellsOf 27 = 2 by kernel_rfl] at hl
  simp only [cells_bookM, cells_peers] at h0 h1
  match cs, hl with
  | [c0, c1], _ =>
    simp only [List.drop_zero, List.drop_succ_cons, List.take_succ_cons, List.take_zero] at h0 h1
    simp only [DataW.weights, Tryz.underlying27, List.map_cons, List.map_nil, DataW.weightsEach, List.mem_append] at hz
    obtain ⟨z0, v0, e0, i0⟩ := reads_book k _ _ h0 (fun m hm => hz m (by simp [hm]))
    obtain ⟨z1, v1, e1, i1⟩ := reads_peers k _ _ h1 (fun m hm => hz m (by simp [hm]))
    simp only [List.cons.injEq, and_true] at e0 e1
    subst e0 e1
    exact ⟨(z0, z1), _, _, rfl, i0, i1⟩
set_option maxRecDepth 100000 in
theorem read_mesh (hv : Value.okWide Tryz.prog W .any base 27 v) (h : DataW.Trod enc Tryz.prog W 0 (fun _ => true) true 27 v d ps) (hz : ∀ n ∈ d.weights Tryz.prog 27, n ≤ reachBytes) : ∃ m, IsMesh W v m := by
  obtain ⟨cs, m, rfl, vb, u, h1, h2⟩ := read_agg Tryz.underlying27 reads_mesh hv h hz
  exact ⟨m, vb, u, by rw [agg_of_list h1], h2⟩
end
end Go.Proofs.YtjakdgchfimhkaaGreat
