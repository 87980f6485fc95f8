/-
  From what slices of structs read as, to this proof's words for how they lie in memory.
-/
import Derived.Test.YtpjlngkndofjfaaRead
import Derived.Test.YtpjlngkndofjfaaRow
import Derived.Deep.Slices
import Derived.Deep.Strs
namespace Go.Proofs.Ytpjlngkndofjfaa
open Go.ChangeShapes Go.WideShapes Go.ChangeAt Go.RowKit Go.Deep
section
variable {H : Type}

/-- Cells of this type are read so. -/
def Reads (enc : TypeId × Value → H) (W : World) (T : TypeId) {α : Type} (R : Rd α) : Prop :=
  ∀ n cs (x : DataW H × List MemPlace), DataW.trod enc Try.prog W 0 (fun _ => true) true n T cs = some x → (∀ m ∈ x.1.weights Try.prog T, m ≤ reachBytes) → ∃ y, R W cs y

def RInt : Rd Int := fun _ cs y => cs = [.int .i64 y] ∧ I64 y
def RBool : Rd Bool := fun _ cs y => cs = [.bool y]
def RInts : Rd (List Int) := fun w cs l => ∃ v, cs = [v] ∧ IsInts w v l
variable {enc : TypeId × Value → H} {W : World}
set_option maxRecDepth 100000 in
theorem reads_int {T : TypeId} (hT : Try.prog.underlying T = some (.int .i64)) : Reads enc W T RInt := by
  intro n cs x h _
  obtain ⟨y, rfl, rfl, hw⟩ := DataW.trod_int hT h
  exact ⟨y, rfl, I64_of_wf hw⟩
set_option maxRecDepth 100000 in
theorem reads_bool {T : TypeId} (hT : Try.prog.underlying T = some .bool) : Reads enc W T RBool := by
  intro n cs x h _
  obtain ⟨y, rfl, rfl⟩ := DataW.trod_bool hT h
  exact ⟨y, rfl⟩
set_option maxRecDepth 100000 in
theorem reads_ints : Reads enc W 26 RInts := by
  intro n cs x h hz
  obtain ⟨v, l, rfl, hl⟩ := rd_ints h hz
  exact ⟨l, v, rfl, hl⟩

theorem weightsAll_mem {P : Program} {e : TypeId} {d : DataW H} {m : Nat} : ∀ {l : List (DataW H)}, d ∈ l → m ∈ d.weights P e → m ∈ DataW.weightsAll P e l
  | [], h, _ => by simp at h
  | c :: l, h, hm => by
    simp only [DataW.weightsAll, List.mem_append]
    rcases List.mem_cons.1 h with rfl | h
    · exact Or.inl hm
    · exact Or.inr (weightsAll_mem h hm)

theorem add_none (b o k : Nat) : (⟨b, o, none⟩ : Addr).add k = ⟨b, o + k, none⟩ := by unfold Addr.add; split <;> simp_all
set_option maxRecDepth 100000 in
theorem reads_row {T e : TypeId} {α : Type} {R : Rd α} {sz : Nat} (hT : Try.prog.underlying T = some (.slice e)) (hC : Try.prog.cellsOf e = sz) (hsz : 0 < sz) (hB : 8 ≤ Try.prog.bytesOf e) (hR : Reads enc W e R) :
    Reads enc W T (fun w cs l => ∃ v, cs = [v] ∧ IsRow sz R w v l) := by
  intro n cs x h hz
  rcases open_slice hT h with ⟨rfl, _⟩ | ⟨a, len, cap, m, k, D, Pl, rfl, _, hl, hm, hmm, rfl, hi⟩
  · exact ⟨[], _, rfl, IsRow.nil W⟩
  · simp only [if_true] at hmm
    subst hmm
    have hlen : ((List.range len).map D).length + ((List.range (m - len)).map fun j => D (len + j)).length = m := by simp; omega
    have hreach := hz (m * Try.prog.bytesOf e) (by simp only [DataW.weights, hT, hlen, List.mem_cons, true_or])
    have hm8 : m * 8 ≤ m * Try.prog.bytesOf e := Nat.mul_le_mul_left _ hB
    unfold reachBytes at hreach
    unfold maxLen at hm
    have hall : ∀ i, i < len → ∃ cs' y, W.cells? 0 (a.add (i * sz)) sz = some cs' ∧ R W cs' y := by
      intro i hi'
      obtain ⟨cs', h1, h2⟩ := hi i (by omega)
      rw [hC] at h1
      obtain ⟨y, hy⟩ := hR k cs' _ h2 (fun q hq => hz q (by
        simp only [DataW.weights, hT, List.mem_cons, List.mem_append]
        exact Or.inr (Or.inl (weightsAll_mem (List.mem_map.2 ⟨i, List.mem_range.2 hi', rfl⟩) hq))))
      exact ⟨cs', y, h1, hy⟩
    by_cases h0 : len = 0
    · subst h0
      exact ⟨[], _, rfl, some a, m, rfl, by simp, ⟨by simp, by omega, fun e => by cases e⟩, fun i x hx => by simp at hx⟩
    · have hpos : 0 < len := by omega
      have hne : Nonempty α := ⟨(Classical.choose (Classical.choose_spec (hall 0 hpos)))⟩
      have hex : ∃ f : Nat → α, ∀ i, i < len → ∃ cs', W.cells? 0 (a.add (i * sz)) sz = some cs' ∧ R W cs' (f i) := by
        refine ⟨fun i => if hi' : i < len then Classical.choose (Classical.choose_spec (hall i hi')) else Classical.choice hne, fun i hi' => ?_⟩
        simp only [dif_pos hi']
        exact ⟨_, Classical.choose_spec (Classical.choose_spec (hall i hi'))⟩
      obtain ⟨f, hf⟩ := hex
      have hspot : a.spot = none := by
        obtain ⟨cs', h1, _⟩ := hf 0 hpos
        obtain ⟨_, hcl, hat⟩ := World.cells?_some h1
        have h2 := hat 0 hsz
        rw [List.getElem?_eq_getElem (by omega)] at h2
        have := addr_none h2
        simpa [Addr.add] using this
      refine ⟨(List.range len).map f, _, rfl, some a, m, by simp, by simp; omega, ⟨by simp; omega, by omega, fun e => by cases e⟩, fun i x hx => ?_⟩
      rw [List.getElem?_map, Option.map_eq_some_iff] at hx
      obtain ⟨j, hj, rfl⟩ := hx
      have hil : i < len := by
        have := (List.getElem?_eq_some_iff.1 hj).1
        simpa using this
      have : j = i := by rw [List.getElem?_range hil] at hj; exact (Option.some.inj hj).symm
      subst this
      obtain ⟨cs', h1, h2⟩ := hf j hil
      obtain ⟨_, hcl, hat⟩ := World.cells?_some h1
      refine ⟨a.block, a.off, ?_, cs', hcl, fun q c hq => ?_, h2⟩
      · cases a; simp at hspot; subst hspot; rfl
      · have hql := (List.getElem?_eq_some_iff.1 hq).1
        have := hat q (by omega)
        rw [hq] at this
        have e : (a.add (j * sz)).add q = ⟨a.block, a.off + j * sz + q, none⟩ := by
          cases a; simp at hspot; subst hspot
          rw [add_none, add_none]
        rw [e] at this
        exact this

/-! ### The data of this program -/
/-- A plan. -/
abbrev Plan3 := Int × Int × Int
def RPlan : Rd Plan3 := fun _ cs p => cs = [.int .i64 p.1, .int .i64 p.2.1, .int .i64 p.2.2] ∧ I64 p.1 ∧ I64 p.2.1 ∧ I64 p.2.2
def RShare : Rd Sh := fun w cs s => ∃ v, cs = [.int .i64 s.1, v] ∧ IsInts w v s.2 ∧ I64 s.1

theorem cells_int : Try.prog.cellsOf 3 = 1 := by kernel_rfl
theorem cells_ints : Try.prog.cellsOf 26 = 1 := by kernel_rfl
theorem cells_plan : Try.prog.cellsOf 67 = 3 := by kernel_rfl
theorem cells_share : Try.prog.cellsOf 42 = 2 := by kernel_rfl
set_option maxRecDepth 100000 in
theorem reads_plan : Reads enc W 67 RPlan := by
  intro n cs x h hz
  obtain ⟨y0, y1, y2, k, rfl, hl, h0, h1, h2⟩ := trod_struct3 Try.underlying67 h
  rw [cells_plan] at hl
  simp only [cells_int] at h0 h1 h2
  match cs, hl with
  | [c0, c1, c2], _ =>
    simp only [List.drop_zero, List.drop_succ_cons, List.take_succ_cons, List.take_zero] at h0 h1 h2
    simp only [DataW.weights, Try.underlying67, List.map_cons, List.map_nil, DataW.weightsEach, List.mem_append] at hz
    obtain ⟨z0, e0, i0⟩ := reads_int Try.underlying3 k _ _ h0 (fun m hm => hz m (by simp [hm]))
    obtain ⟨z1, e1, i1⟩ := reads_int Try.underlying3 k _ _ h1 (fun m hm => hz m (by simp [hm]))
    obtain ⟨z2, e2, i2⟩ := reads_int Try.underlying3 k _ _ h2 (fun m hm => hz m (by simp [hm]))
    simp only [List.cons.injEq, and_true] at e0 e1 e2
    subst e0 e1 e2
    exact ⟨(z0, z1, z2), rfl, i0, i1, i2⟩
set_option maxRecDepth 100000 in
theorem reads_share : Reads enc W 42 RShare := by
  intro n cs x h hz
  obtain ⟨y0, y1, k, rfl, hl, h0, h1⟩ := trod_struct2 Try.underlying42 h
  rw [cells_share] at hl
  simp only [cells_int, cells_ints] at h0 h1
  match cs, hl with
  | [c0, c1], _ =>
    simp only [List.drop_zero, List.drop_succ_cons, List.take_succ_cons, List.take_zero] at h0 h1
    simp only [DataW.weights, Try.underlying42, List.map_cons, List.map_nil, DataW.weightsEach, List.mem_append] at hz
    obtain ⟨z0, e0, i0⟩ := reads_int Try.underlying3 k _ _ h0 (fun m hm => hz m (by simp [hm]))
    obtain ⟨z1, v1, e1, i1⟩ := reads_ints k _ _ h1 (fun m hm => hz m (by simp [hm]))
    simp only [List.cons.injEq, and_true] at e0 e1
    subst e0 e1
    exact ⟨(z0, z1), _, rfl, i1, i0⟩

theorem RShare.stays : RShare.Stays := by
  rintro w cs s ⟨v, rfl, h, i⟩ w' hw
  exact ⟨v, rfl, h.framed (fun _ _ _ => id) hw, i⟩
set_option maxRecDepth 100000 in
/-- The two words for slices of shares. -/
theorem isShares_of_row {w : World} {v : Value} {ls : List Sh} (h : IsRow 2 RShare w v ls) : IsShares w v ls := by
  obtain ⟨a, c, rfl, h1, h2, h3⟩ := h
  refine ⟨a, c, rfl, h1, h2, fun i hi => ?_⟩
  obtain ⟨b, off, rfl, cs, hl, hc, u, rfl, hu, hn⟩ := h3 i ls[i] (List.getElem?_eq_getElem hi)
  exact ⟨b, off, u, ls[i], rfl, hc 0 _ rfl, hc 1 _ rfl, hu, List.getElem?_eq_getElem hi, hn⟩
set_option maxRecDepth 100000 in
theorem row_of_isShares {w : World} {v : Value} {ls : List Sh} (h : IsShares w v ls) : IsRow 2 RShare w v ls := by
  obtain ⟨a, c, rfl, h1, h2, h3⟩ := h
  refine ⟨a, c, rfl, h1, h2, fun i x hx => ?_⟩
  obtain ⟨b, off, u, s, rfl, g1, g2, g3, g4, g5⟩ := h3 i (List.getElem?_eq_some_iff.1 hx).1
  rw [hx] at g4
  cases g4
  refine ⟨b, off, rfl, [.int .i64 x.1, u], rfl, fun j c hj => ?_, u, rfl, g3, g5⟩
  match j, hj with
  | 0, hj => simp at hj; subst hj; exact g1
  | 1, hj => simp at hj; subst hj; exact g2

variable {base : Nat} {v : Value} {d : DataW H} {ps : List MemPlace}
set_option maxRecDepth 100000 in
/-- A struct that is given by value. -/
theorem read_agg {T : TypeId} {fs : Array Field} {α : Type} {R : Rd α} (hs : Try.prog.underlying T = some (.struct fs)) (hR : Reads enc W T R) (hv : Value.okWide Try.prog W .any base T v) (h : DataW.Trod enc Try.prog W 0 (fun _ => true) true T v d ps) (hz : ∀ n ∈ d.weights Try.prog T, n ≤ reachBytes) :
    ∃ cs y, v = .agg cs ∧ R W cs.toList y := by
  obtain ⟨cs, rfl, _⟩ := okWide_struct hs hv
  obtain ⟨n, hn⟩ := h
  obtain ⟨y, hy⟩ := hR n _ _ hn hz
  exact ⟨cs, y, rfl, by simpa [Value.cells] using hy⟩
set_option maxRecDepth 100000 in
theorem read_slice {T e : TypeId} {α : Type} {R : Rd α} {sz : Nat} (hT : Try.prog.underlying T = some (.slice e)) (hR : Reads enc W T (fun w cs l => ∃ v, cs = [v] ∧ IsRow sz R w v l)) (hv : Value.okWide Try.prog W .any base T v) (h : DataW.Trod enc Try.prog W 0 (fun _ => true) true T v d ps) (hz : ∀ n ∈ d.weights Try.prog T, n ≤ reachBytes) :
    ∃ l, IsRow sz R W v l := by
  obtain ⟨a, len, cap, rfl⟩ := okWide_slice hT hv
  obtain ⟨n, hn⟩ := h
  obtain ⟨l, u, e, hl⟩ := hR n _ _ hn hz
  simp [Value.cells] at e
  subst e
  exact ⟨l, hl⟩
theorem agg_of_list {cs : Array Value} {l : List Value} (h : cs.toList = l) : cs = l.toArray := by rw [← h]

/-- The value is this plan. -/
def IsPlan (v : Value) (p : Plan3) : Prop := v = .agg #[.int .i64 p.1, .int .i64 p.2.1, .int .i64 p.2.2] ∧ I64 p.1 ∧ I64 p.2.1 ∧ I64 p.2.2
set_option maxRecDepth 100000 in
theorem read_plan (hv : Value.okWide Try.prog W .any base 67 v) (h : DataW.Trod enc Try.prog W 0 (fun _ => true) true 67 v d ps) (hz : ∀ n ∈ d.weights Try.prog 67, n ≤ reachBytes) : ∃ p, IsPlan v p := by
  obtain ⟨cs, p, rfl, h1, h2⟩ := read_agg Try.underlying67 reads_plan hv h hz
  exact ⟨p, by rw [agg_of_list h1], h2⟩
/-- The value is this share. -/
def IsShare (w : World) (v : Value) (s : Sh) : Prop := ∃ u, v = .agg #[.int .i64 s.1, u] ∧ IsInts w u s.2 ∧ I64 s.1
set_option maxRecDepth 100000 in
theorem read_share (hv : Value.okWide Try.prog W .any base 42 v) (h : DataW.Trod enc Try.prog W 0 (fun _ => true) true 42 v d ps) (hz : ∀ n ∈ d.weights Try.prog 42, n ≤ reachBytes) : ∃ s, IsShare W v s := by
  obtain ⟨cs, s, rfl, u, h1, h2⟩ := read_agg Try.underlying42 reads_share hv h hz
  exact ⟨s, u, by rw [agg_of_list h1], h2⟩
end
end Go.Proofs.Ytpjlngkndofjfaa
