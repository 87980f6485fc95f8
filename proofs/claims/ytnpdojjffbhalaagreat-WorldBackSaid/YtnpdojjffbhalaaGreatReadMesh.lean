/-
  From what a mesh reads as, to this proof's words.
-/
import Derived.Test.YtnpdojjffbhalaaGreatBooks
import Derived.Test.YtnpdojjffbhalaaGreatPeers
namespace Go.Proofs.YtnpdojjffbhalaaGreat
open Go.ChangeShapes Go.WideShapes Go.ChangeAt Go.RowKit Go.Deep
/-- The value is this mesh. -/
def IsMesh (w : World) (v : Value) (m : List Ver × List Pr) : Prop := ∃ vb u, v = .agg #[vb, u] ∧ IsVers w vb m.1 ∧ IsPeers w u m.2
def RMesh : Rd (List Ver × List Pr) := fun w cs m => ∃ vb u, cs = [vb, u] ∧ IsVers w vb m.1 ∧ IsPeers w u m.2
/-- The value is a slice of these elements, of any length. -/
def IsLong {α : Type} (sz : Nat) (R : Rd α) (w : World) (v : Value) (l : List α) : Prop :=
  ∃ a cap, v = .slice a l.length cap ∧ l.length ≤ cap ∧ (cap ≤ 9223372036854775807 ∧ (a = none → cap = 0)) ∧ ∀ (i : Nat) x, l[i]? = some x → ∃ b off, a = some ⟨b, off, none⟩ ∧ ElemAt sz R w b (off + i * sz) x
theorem IsLong.nil {α : Type} {sz : Nat} {R : Rd α} (w : World) : IsLong sz R w (.slice none 0 0) [] := ⟨none, 0, rfl, Nat.le_refl _, ⟨by omega, fun _ => rfl⟩, fun i x h => by simp at h⟩
theorem IsLong.later {α : Type} {sz : Nat} {R : Rd α} {w w' : World} {v : Value} {l : List α} (h : IsLong sz R w v l) (hR : R.Stays) (hw : Dirty (fun _ => False) w w') : IsLong sz R w' v l := by
  obtain ⟨a, c, e, h1, h2, h3⟩ := h
  refine ⟨a, c, e, h1, h2, fun i x hx => ?_⟩
  obtain ⟨b, off, e', g⟩ := h3 i x hx
  exact ⟨b, off, e', g.framed id (fun cs => hR w cs x) hw⟩
/-- The value is a slice of these bools. -/
def RB1 : Rd Bool := fun _ cs x => cs = [.bool x]
abbrev IsBools (w : World) (v : Value) (l : List Bool) : Prop := IsLong 1 RB1 w v l
theorem RB1.stays : RB1.Stays := fun _ _ _ h _ _ => h
theorem bools_at {w : World} {a : Option Addr} {n cap : Nat} {l : List Bool} (h : IsBools w (.slice a n cap) l) {i : Nat} {x : Bool} (hx : l[i]? = some x) : ∃ g off, a = some ⟨g, off, none⟩ ∧ w.cell? ⟨g, off + i, none⟩ = some (.bool x) := by
  obtain ⟨a', c', e, _, _, hi⟩ := h
  simp only [Value.slice.injEq] at e
  obtain ⟨rfl, rfl, rfl⟩ := e
  obtain ⟨g, off, rfl, cs, hl, hc, rfl⟩ := hi i x hx
  exact ⟨g, off, rfl, by simpa using hc 0 _ rfl⟩
section
variable {H : Type} {enc : TypeId × Value → H} {W : World} {base : Nat} {v : Value} {d : DataW H} {ps : List MemPlace}
theorem cells_peers : Tryz.prog.cellsOf 25 = 1 := by kernel_rfl
theorem cells_bookM : Tryz.prog.cellsOf 24 = 1 := by kernel_rfl
theorem cells_boolM : Tryz.prog.cellsOf 4 = 1 := by kernel_rfl
set_option maxRecDepth 100000 in
theorem reads_mesh : Reads enc W 27 RMesh := by
  intro n cs x h hz
  obtain ⟨y0, y1, k, rfl, hl, h0, h1⟩ := trod_struct2 Tryz.underlying27 h
  rw [show Tryz.prog.cellsOf 27 = 2 by kernel_rfl] at hl
  simp only [cells_bookM, cells_peers] at h0 h1
  match cs, hl with
  | [c0, c1], _ =>
    simp only [List.drop_zero, List.drop_succ_cons, List.take_succ_cons, List.take_zero] at h0 h1
    simp only [DataW.weights, Tryz.underlying27, List.map_cons, List.map_nil, DataW.weightsEach, List.mem_append] at hz
    obtain ⟨z0, v0, e0, i0⟩ := reads_book k _ _ h0 (fun m hm => hz m (by simp [hm]))
    obtain ⟨z1, v1, e1, i1⟩ := reads_peers k _ _ h1 (fun m hm => hz m (by simp [hm]))
    simp only [List.cons.injEq, and_true] at e0 e1
    subst e0 e1
    exact ⟨(z0, z1), _, _, rfl, i0, i1⟩
set_option maxRecDepth 100000 in
theorem read_mesh (hv : Value.okWide Tryz.prog W .any base 27 v) (h : DataW.Trod enc Tryz.prog W 0 (fun _ => true) true 27 v d ps) (hz : ∀ n ∈ d.weights Tryz.prog 27, n ≤ reachBytes) : ∃ m, IsMesh W v m := by
  obtain ⟨cs, m, rfl, vb, u, h1, h2⟩ := read_agg Tryz.underlying27 reads_mesh hv h hz
  exact ⟨m, vb, u, by rw [agg_of_list h1], h2⟩
set_option maxRecDepth 100000 in
theorem reads_bool1 : Reads enc W 4 RB1 := by
  intro n cs x h hz
  exact reads_bool Tryz.underlying4 n cs x h hz
set_option maxRecDepth 100000 in
theorem reads_long {T e : TypeId} {α : Type} {R : Rd α} {sz : Nat} (hT : Tryz.prog.underlying T = some (.slice e)) (hC : Tryz.prog.cellsOf e = sz) (hsz : 0 < sz) (hR : Reads enc W e R) :
    Reads enc W T (fun w cs l => ∃ v, cs = [v] ∧ IsLong sz R w v l) := by
  intro n cs x h hz
  rcases open_slice hT h with ⟨rfl, _⟩ | ⟨a, len, cap, m, k, D, Pl, rfl, _, hl, hm, hmm, rfl, hi⟩
  · exact ⟨[], _, rfl, IsLong.nil W⟩
  · simp only [if_true] at hmm
    subst hmm
    have hlen : ((List.range len).map D).length + ((List.range (m - len)).map fun j => D (len + j)).length = m := by simp; omega
    have hreach := hz (m * Tryz.prog.bytesOf e) (by simp only [DataW.weights, hT, hlen, List.mem_cons, true_or])
    unfold maxLen at hm
    have hall : ∀ i, i < len → ∃ cs' y, W.cells? 0 (a.add (i * sz)) sz = some cs' ∧ R W cs' y := by
      intro i hi'
      obtain ⟨cs', h1, h2⟩ := hi i (by omega)
      rw [hC] at h1
      obtain ⟨y, hy⟩ := hR k cs' _ h2 (fun q hq => hz q (by
        simp only [DataW.weights, hT, List.mem_cons, List.mem_append]
        exact Or.inr (Or.inl (weightsAll_mem (List.mem_map.2 ⟨i, List.mem_range.2 hi', rfl⟩) hq))))
      exact ⟨cs', y, h1, hy⟩
    by_cases h0 : len = 0
    · subst h0
      exact ⟨[], _, rfl, some a, m, rfl, by simp, ⟨by omega, fun e => by cases e⟩, fun i x hx => by simp at hx⟩
    · have hpos : 0 < len := by omega
      have hne : Nonempty α := ⟨(Classical.choose (Classical.choose_spec (hall 0 hpos)))⟩
      have hex : ∃ f : Nat → α, ∀ i, i < len → ∃ cs', W.cells? 0 (a.add (i * sz)) sz = some cs' ∧ R W cs' (f i) := by
        refine ⟨fun i => if hi' : i < len then Classical.choose (Classical.choose_spec (hall i hi')) else Classical.choice hne, fun i hi' => ?_⟩
        simp only [dif_pos hi']
        exact ⟨_, Classical.choose_spec (Classical.choose_spec (hall i hi'))⟩
      obtain ⟨f, hf⟩ := hex
      have hspot : a.spot = none := by
        obtain ⟨cs', h1, _⟩ := hf 0 hpos
        obtain ⟨_, hcl, hat⟩ := World.cells?_some h1
        have h2 := hat 0 hsz
        rw [List.getElem?_eq_getElem (by omega)] at h2
        have := addr_none h2
        simpa [Addr.add] using this
      refine ⟨(List.range len).map f, _, rfl, some a, m, by simp, by simp; omega, ⟨by omega, fun e => by cases e⟩, fun i x hx => ?_⟩
      rw [List.getElem?_map, Option.map_eq_some_iff] at hx
      obtain ⟨j, hj, rfl⟩ := hx
      have hil : i < len := by
        have := (List.getElem?_eq_some_iff.1 hj).1
        simpa using this
      have : j = i := by rw [List.getElem?_range hil] at hj; exact (Option.some.inj hj).symm
      subst this
      obtain ⟨cs', h1, h2⟩ := hf j hil
      obtain ⟨_, hcl, hat⟩ := World.cells?_some h1
      refine ⟨a.block, a.off, ?_, cs', hcl, fun q c hq => ?_, h2⟩
      · cases a; simp at hspot; subst hspot; rfl
      · have hql := (List.getElem?_eq_some_iff.1 hq).1
        have := hat q (by omega)
        rw [hq] at this
        have e : (a.add (j * sz)).add q = ⟨a.block, a.off + j * sz + q, none⟩ := by
          cases a; simp at hspot; subst hspot
          rw [add_none, add_none]
        rw [e] at this
        exact this
end
end Go.Proofs.YtnpdojjffbhalaaGreat
