/-
  Kept shares, peers: how they lie in memory, and the readings.
-/
import Derived.Test.YtpjlngkndofjfaaReadRow
namespace Go.Proofs.Ytpjlngkndofjfaa
open Go.ChangeShapes Go.WideShapes Go.ChangeAt Go.RowKit Go.Deep

/-- What is kept: its version, the share. -/
abbrev Kp := Int × Sh
/-- A peer: is it there, its room, what it keeps. -/
abbrev Pr := Bool × Int × List Kp
def RKept : Rd Kp := fun w cs x => ∃ v, cs = [.int .i64 x.1, .int .i64 x.2.1, v] ∧ IsInts w v x.2.2 ∧ I64 x.1 ∧ I64 x.2.1
theorem RKept.stays : RKept.Stays := by
  rintro w cs x ⟨v, rfl, h, i⟩ w' hw
  exact ⟨v, rfl, h.framed (fun _ _ _ => id) hw, i⟩
/-- The value is a slice of these kept shares. -/
abbrev IsKepts (w : World) (v : Value) (l : List Kp) : Prop := IsRow 3 RKept w v l
theorem kept_at {w : World} {a : Option Addr} {n cap : Nat} {l : List Kp} (h : IsKepts w (.slice a n cap) l) {i : Nat} {x : Kp} (hx : l[i]? = some x) :
    ∃ g off u c, a = some ⟨g, off, none⟩ ∧ w.cell? ⟨g, off + i * 3, none⟩ = some (.int .i64 x.1) ∧ w.cell? ⟨g, off + i * 3 + 1, none⟩ = some (.int .i64 x.2.1) ∧ w.cell? ⟨g, off + i * 3 + 2, none⟩ = some (.slice u x.2.2.length c) ∧ IsInts w (.slice u x.2.2.length c) x.2.2 ∧ I64 x.1 ∧ I64 x.2.1 := by
  obtain ⟨g, off, rfl, cs, hl, hc, v, rfl, hv, h1, h2⟩ := h.at hx
  obtain ⟨u, c, rfl, _⟩ := hv.opened
  exact ⟨g, off, u, c, rfl, hc 0 _ rfl, hc 1 _ rfl, hc 2 _ rfl, hv, h1, h2⟩
def RPeer : Rd Pr := fun w cs x => ∃ v, cs = [.bool x.1, .int .i64 x.2.1, v] ∧ IsKepts w v x.2.2 ∧ I64 x.2.1
theorem RPeer.stays : RPeer.Stays := by
  rintro w cs x ⟨v, rfl, h, i⟩ w' hw
  exact ⟨v, rfl, h.later RKept.stays hw, i⟩
/-- The value is a slice of these peers. -/
abbrev IsPeers (w : World) (v : Value) (l : List Pr) : Prop := IsRow 3 RPeer w v l
theorem peer_at {w : World} {a : Option Addr} {n cap : Nat} {l : List Pr} (h : IsPeers w (.slice a n cap) l) {i : Nat} {x : Pr} (hx : l[i]? = some x) :
    ∃ g off u c, a = some ⟨g, off, none⟩ ∧ w.cell? ⟨g, off + i * 3, none⟩ = some (.bool x.1) ∧ w.cell? ⟨g, off + i * 3 + 1, none⟩ = some (.int .i64 x.2.1) ∧ w.cell? ⟨g, off + i * 3 + 2, none⟩ = some (.slice u x.2.2.length c) ∧ IsKepts w (.slice u x.2.2.length c) x.2.2 ∧ I64 x.2.1 := by
  obtain ⟨g, off, rfl, cs, hl, hc, v, rfl, hv, h1⟩ := h.at hx
  obtain ⟨u, c, rfl, _⟩ := hv.opened
  exact ⟨g, off, u, c, rfl, hc 0 _ rfl, hc 1 _ rfl, hc 2 _ rfl, hv, h1⟩

section
variable {H : Type} {enc : TypeId × Value → H} {W : World} {base : Nat} {v : Value} {d : DataW H} {ps : List MemPlace}
theorem cells_kept : Try.prog.cellsOf 44 = 3 := by kernel_rfl
theorem cells_bool : Try.prog.cellsOf 4 = 1 := by kernel_rfl
theorem cells_kepts : Try.prog.cellsOf 35 = 1 := by kernel_rfl
theorem cells_peer : Try.prog.cellsOf 37 = 3 := by kernel_rfl
set_option maxRecDepth 100000 in
theorem reads_kept : Reads enc W 44 RKept := by
  intro n cs x h hz
  obtain ⟨y0, y1, k, rfl, hl, h0, h1⟩ := trod_struct2 Try.underlying44 h
  rw [cells_kept] at hl
  simp only [cells_int, cells_share] at h0 h1
  match cs, hl with
  | [c0, c1, c2], _ =>
    simp only [List.drop_zero, List.drop_succ_cons, List.take_succ_cons, List.take_zero] at h0 h1
    simp only [DataW.weights, Try.underlying44, List.map_cons, List.map_nil, DataW.weightsEach, List.mem_append] at hz
    obtain ⟨z0, e0, i0⟩ := reads_int Try.underlying3 k _ _ h0 (fun m hm => hz m (by simp [hm]))
    obtain ⟨z1, v1, e1, i1, j1⟩ := reads_share k _ _ h1 (fun m hm => hz m (by simp [hm]))
    simp only [List.cons.injEq, and_true] at e0 e1
    obtain ⟨rfl, rfl⟩ := e1
    subst e0
    exact ⟨(z0, z1), _, rfl, i1, i0, j1⟩
set_option maxRecDepth 100000 in
theorem reads_kepts : Reads enc W 35 (fun w cs l => ∃ v, cs = [v] ∧ IsKepts w v l) :=
  reads_row Try.underlying35 cells_kept (by omega) (by rw [show Try.prog.bytesOf 44 = 40 by kernel_rfl]; omega) reads_kept
set_option maxRecDepth 100000 in
theorem reads_peer : Reads enc W 37 RPeer := by
  intro n cs x h hz
  obtain ⟨y0, y1, y2, k, rfl, hl, h0, h1, h2⟩ := trod_struct3 Try.underlying37 h
  rw [cells_peer] at hl
  simp only [cells_int, cells_bool, cells_kepts] at h0 h1 h2
  match cs, hl with
  | [c0, c1, c2], _ =>
    simp only [List.drop_zero, List.drop_succ_cons, List.take_succ_cons, List.take_zero] at h0 h1 h2
    simp only [DataW.weights, Try.underlying37, List.map_cons, List.map_nil, DataW.weightsEach, List.mem_append] at hz
    obtain ⟨z0, e0⟩ := reads_bool Try.underlying4 k _ _ h0 (fun m hm => hz m (by simp [hm]))
    obtain ⟨z1, e1, i1⟩ := reads_int Try.underlying3 k _ _ h1 (fun m hm => hz m (by simp [hm]))
    obtain ⟨z2, v2, e2, i2⟩ := reads_kepts k _ _ h2 (fun m hm => hz m (by simp [hm]))
    simp only [RBool, List.cons.injEq, and_true] at e0 e1 e2
    subst e0 e1 e2
    exact ⟨(z0, z1, z2), _, rfl, i2, i1⟩
set_option maxRecDepth 100000 in
theorem reads_peers : Reads enc W 25 (fun w cs l => ∃ v, cs = [v] ∧ IsPeers w v l) :=
  reads_row Try.underlying25 cells_peer (by omega) (by rw [show Try.prog.bytesOf 37 = 40 by kernel_rfl]; omega) reads_peer
/-- The value is this kept share, this peer. -/
def IsKept (w : World) (v : Value) (x : Kp) : Prop := ∃ u, v = .agg #[.int .i64 x.1, .int .i64 x.2.1, u] ∧ IsInts w u x.2.2 ∧ I64 x.1 ∧ I64 x.2.1
def IsPeer (w : World) (v : Value) (x : Pr) : Prop := ∃ u, v = .agg #[.bool x.1, .int .i64 x.2.1, u] ∧ IsKepts w u x.2.2 ∧ I64 x.2.1
set_option maxRecDepth 100000 in
theorem read_kept (hv : Value.okWide Try.prog W .any base 44 v) (h : DataW.Trod enc Try.prog W 0 (fun _ => true) true 44 v d ps) (hz : ∀ n ∈ d.weights Try.prog 44, n ≤ reachBytes) : ∃ x, IsKept W v x := by
  obtain ⟨cs, x, rfl, u, h1, h2⟩ := read_agg Try.underlying44 reads_kept hv h hz
  exact ⟨x, u, by rw [agg_of_list h1], h2⟩
set_option maxRecDepth 100000 in
theorem read_peer (hv : Value.okWide Try.prog W .any base 37 v) (h : DataW.Trod enc Try.prog W 0 (fun _ => true) true 37 v d ps) (hz : ∀ n ∈ d.weights Try.prog 37, n ≤ reachBytes) : ∃ x, IsPeer W v x := by
  obtain ⟨cs, x, rfl, u, h1, h2⟩ := read_agg Try.underlying37 reads_peer hv h hz
  exact ⟨x, u, by rw [agg_of_list h1], h2⟩
set_option maxRecDepth 100000 in
theorem read_peers (hv : Value.okWide Try.prog W .any base 25 v) (h : DataW.Trod enc Try.prog W 0 (fun _ => true) true 25 v d ps) (hz : ∀ n ∈ d.weights Try.prog 25, n ≤ reachBytes) : ∃ l, IsPeers W v l :=
  read_slice Try.underlying25 reads_peers hv h hz
end
end Go.Proofs.Ytpjlngkndofjfaa
