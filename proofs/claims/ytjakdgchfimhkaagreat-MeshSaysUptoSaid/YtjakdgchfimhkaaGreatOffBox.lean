/-
  What is read is never in a box of two slices: there are no numbers in it.
-/
import Derived.Test.YtjakdgchfimhkaaGreatPut
namespace Go.Proofs.YtjakdgchfimhkaaGreat
open Go.RowKit

/-- A block of slices alone. -/
def MeshBox (w : World) (B : Nat) : Prop := ∀ (o : Nat) (c : Value), w.cell? ⟨B, o, none⟩ = some c → ∃ a n k, c = .slice a n k
theorem MeshBox.made (w : World) (a : Option Addr) (n c : Nat) (a' : Option Addr) (n' c' : Nat) (T : TypeId) : MeshBox (w.alloc (.cells #[.slice a n c, .slice a' n' c'] T)) w.heap.size := by
  intro o x h
  have e : (w.alloc (.cells #[.slice a n c, .slice a' n' c'] T)).cell? ⟨w.heap.size, o, none⟩ = (#[.slice a n c, .slice a' n' c'] : Array Value)[o]? := by
    unfold World.cell? World.alloc
    simp
  rw [e] at h
  match o, h with
  | 0, h => simp at h; exact ⟨_, _, _, h.symm⟩
  | 1, h => simp at h; exact ⟨_, _, _, h.symm⟩
  | o + 2, h => simp at h
theorem MeshBox.stays {w w' : World} {B : Nat} (h : MeshBox w B) (hb : Below w.heap.size w w') (hB : B < w.heap.size) : MeshBox w' B := fun o c hc =>
  h o c (by rw [← hc]; exact (World.cell?_of_block (a := ⟨B, o, none⟩) (hb.block B hB)).symm)
theorem MeshBox.off {w w' : World} {B : Nat} (h : MeshBox w B) {D : Nat → Prop} (hd : Dirty D w w') (hB : B < w.heap.size) (hn : ¬ D B) : MeshBox w' B := fun o c hc =>
  h o c (by rw [← hc]; exact (World.cell?_of_block (a := ⟨B, o, none⟩) (hd.2 B hB hn)).symm)
theorem MeshBox.set {w : World} {B i : Nat} (h : MeshBox w B) {u : Value} (hu : w.cell? ⟨B, i, none⟩ = some u) (a : Option Addr) (n k : Nat) : MeshBox (w.setCell ⟨B, i, none⟩ (.slice a n k)) B := fun o c hc => by
  by_cases ho : o = i
  · subst ho
    rw [World.cell?_setCell_same _ _ _ hu] at hc
    exact ⟨_, _, _, (Option.some.inj hc).symm⟩
  · rw [World.cell?_setCell_other _ _ _ _ (by intro e; simp only [Addr.mk.injEq] at e; exact ho e.2.1.symm)] at hc
    exact h o c hc
theorem rowS_of {w : World} {v : Value} {ls : List Sh} (h : IsShares w v ls) : IsRow 2 RShare w v ls := by
  obtain ⟨a, c, rfl, h1, h2, h3⟩ := h
  refine ⟨a, c, rfl, h1, h2, fun i x hx => ?_⟩
  obtain ⟨b, off, u, s, rfl, g1, g2, g3, g4, g5⟩ := h3 i (List.getElem?_eq_some_iff.1 hx).1
  rw [hx] at g4
  cases g4
  refine ⟨b, off, rfl, [.int .i64 x.1, u], rfl, fun j c hj => ?_, u, rfl, g3, g5⟩
  match j, hj with
  | 0, hj => simp at hj; subst hj; exact g1
  | 1, hj => simp at hj; subst hj; exact g2

section
variable {w w' : World} {B : Nat}
theorem IsInts.offBox {v : Value} {l : List Int} (h : IsInts w v l) (hb : MeshBox w B) (hd : Dirty (fun j => j = B) w w') : IsInts w' v l :=
  h.framed (fun k hk hne e => by
    obtain ⟨a, c, rfl, _, _, h3⟩ := h
    obtain ⟨y, n', c', e2, rfl⟩ := hk
    simp only [Value.slice.injEq] at e2
    obtain ⟨rfl, _⟩ := e2
    have h0 : 0 < l.length := List.length_pos_iff.2 hne
    obtain ⟨b, off, z, e3, hc, _⟩ := h3 0 h0
    cases e3
    simp only at e
    subst e
    obtain ⟨_, _, _, e4⟩ := hb _ _ hc
    cases e4) hd
theorem IsRow.offBox {α : Type} {R : Rd α} {sz : Nat} {v : Value} {l : List α} (h : IsRow sz R w v l) (hb : MeshBox w B) (hd : Dirty (fun j => j = B) w w')
    (hint : ∀ cs x, R w cs x → ∃ (j : Nat) (c : Value), cs[j]? = some c ∧ ∀ a n k, c ≠ .slice a n k) (hR : ∀ cs x, R w cs x → R w' cs x) : IsRow sz R w' v l := by
  obtain ⟨a, c, rfl, h1, h2, h3⟩ := h.opened
  refine ⟨a, c, rfl, h1, h2, fun i x hx => ?_⟩
  obtain ⟨b, off, e, cs, hl, hc, hr⟩ := h3 i x hx
  have hbB : b ≠ B := by
    obtain ⟨j, u, hj, hn⟩ := hint cs x hr
    intro e
    subst e
    obtain ⟨a, n, k, e2⟩ := hb _ _ (hc j u hj)
    exact hn a n k e2
  exact ⟨b, off, e, cs, hl, fun j u hj => hd.cell (hc j u hj) hbB, hR cs x hr⟩
theorem IsVers.offBox {v : Value} {l : List Ver} (h : IsVers w v l) (hb : MeshBox w B) (hd : Dirty (fun j => j = B) w w') : IsVers w' v l :=
  IsRow.offBox h hb hd (by
    rintro cs x ⟨u, rfl, _⟩
    exact ⟨1, _, rfl, fun _ _ _ e => by cases e⟩) (by
    rintro cs x ⟨u, rfl, hu, hi⟩
    exact ⟨u, rfl, hu.offBox hb hd, hi⟩)
theorem IsShares.offBox {v : Value} {l : List Sh} (h : IsShares w v l) (hb : MeshBox w B) (hd : Dirty (fun j => j = B) w w') : IsShares w' v l :=
  isShares_of_row (IsRow.offBox (rowS_of h) hb hd (by
    rintro cs x ⟨u, rfl, _⟩
    exact ⟨0, _, rfl, fun _ _ _ e => by cases e⟩) (by
    rintro cs x ⟨u, rfl, hu, hi⟩
    exact ⟨u, rfl, hu.offBox hb hd, hi⟩))
theorem IsKepts.offBox {v : Value} {l : List Kp} (h : IsKepts w v l) (hb : MeshBox w B) (hd : Dirty (fun j => j = B) w w') : IsKepts w' v l :=
  IsRow.offBox h hb hd (by
    rintro cs x ⟨u, rfl, _⟩
    exact ⟨0, _, rfl, fun _ _ _ e => by cases e⟩) (by
    rintro cs x ⟨u, rfl, hu, hi⟩
    exact ⟨u, rfl, hu.offBox hb hd, hi⟩)
theorem IsPeers.offBox {v : Value} {l : List Pr} (h : IsPeers w v l) (hb : MeshBox w B) (hd : Dirty (fun j => j = B) w w') : IsPeers w' v l :=
  IsRow.offBox h hb hd (by
    rintro cs x ⟨u, rfl, _⟩
    exact ⟨1, _, rfl, fun _ _ _ e => by cases e⟩) (by
    rintro cs x ⟨u, rfl, hu, hi⟩
    exact ⟨u, rfl, hu.offBox hb hd, hi⟩)
end
theorem dirty_set (w : World) (B i : Nat) (v : Value) : Dirty (fun j => j = B) w (w.setCell ⟨B, i, none⟩ v) :=
  (Dirty.of_grown (grown_setCell w ⟨B, i, none⟩ v)).mono fun j _ hj => by cases hj; rfl
end Go.Proofs.YtjakdgchfimhkaaGreat
