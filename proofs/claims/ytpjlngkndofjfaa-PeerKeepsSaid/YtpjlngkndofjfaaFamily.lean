/-
  The walk of the closed facts' family.
-/
import Derived.Test.YtpjlngkndofjfaaBook2
namespace Go.Proofs.Ytpjlngkndofjfaa
open Go.RowKit

theorem IsInts.one {w : World} {b : Nat} {z : Int} (h : w.cell? ⟨b, 0, none⟩ = some (.int .i64 z)) (hi : I64 z) : IsInts w (.slice (some ⟨b, 0, none⟩) 1 1) [z] := by
  refine ⟨_, 1, rfl, Nat.le_refl _, ⟨by simp, by omega, fun e => by cases e⟩, fun i hi' => ?_⟩
  have : i = 0 := by simp at hi'; exact hi'
  subst this
  exact ⟨b, 0, z, rfl, h, rfl, hi⟩
theorem IsInts.two {w : World} {b : Nat} {z y : Int} (h : w.cell? ⟨b, 0, none⟩ = some (.int .i64 z)) (hi : I64 z) (g : w.cell? ⟨b, 1, none⟩ = some (.int .i64 y)) (gi : I64 y) : IsInts w (.slice (some ⟨b, 0, none⟩) 2 2) [z, y] := by
  refine ⟨_, 2, rfl, Nat.le_refl _, ⟨by simp, by omega, fun e => by cases e⟩, fun i hi' => ?_⟩
  match i, hi' with
  | 0, _ => exact ⟨b, 0, z, rfl, h, rfl, hi⟩
  | 1, _ => exact ⟨b, 0, y, rfl, g, rfl, gi⟩
theorem elem_ver {w : World} {b o : Nat} {u : Value} {x : Ver} (h0 : w.cell? ⟨b, o, none⟩ = some u) (h1 : w.cell? ⟨b, o + 1, none⟩ = some (.int .i64 x.2.1)) (h2 : w.cell? ⟨b, o + 2, none⟩ = some (.int .i64 x.2.2.1)) (h3 : w.cell? ⟨b, o + 3, none⟩ = some (.int .i64 x.2.2.2))
    (hu : IsInts w u x.1) (i : I64 x.2.1 ∧ I64 x.2.2.1 ∧ I64 x.2.2.2) : ElemAt 4 RVer w b o x := by
  refine ⟨[u, .int .i64 x.2.1, .int .i64 x.2.2.1, .int .i64 x.2.2.2], rfl, fun j c hj => ?_, u, rfl, hu, i⟩
  match j, hj with
  | 0, hj => simp at hj; subst hj; exact h0
  | 1, hj => simp at hj; subst hj; exact h1
  | 2, hj => simp at hj; subst hj; exact h2
  | 3, hj => simp at hj; subst hj; exact h3

/-- The family of the closed facts. -/
def famL : List Ver := [([], 1, 1, 1), ([0], 1, 1, 1), ([0], 1, 1, 1), ([1, 2], 1, 1, 1), ([2], 1, 1, 1)]
theorem i64_small {z : Int} (h : 0 ≤ z ∧ z ≤ 1000) : I64 z := ⟨by omega, by omega⟩

set_option maxRecDepth 100000 in
set_option maxHeartbeats 4000000 in
theorem family_any (W : World) : Calls Try.prog 30 #[] W fun e w' => (∃ v, e = .returned (.agg #[v]) ∧ IsVers w' v famL) ∧ Below W.heap.size W w' := by
  go_enter Try.func30, Try.ntmps30
  go_wp2_with fail
  refine bodyPost_ret (v := .agg #[.slice (some ⟨W.heap.size + 6, 0, none⟩) 5 5]) (by simp [results, Try.results30, go_sem]) rfl ⟨⟨_, rfl, ?_⟩, ?_⟩
  · refine ⟨some ⟨W.heap.size + 1 + 1 + 1 + 1 + 1 + 1, 0, none⟩, 5, rfl, by decide, ⟨by decide, by omega, fun e => by cases e⟩, fun i x hx => ?_⟩
    match i, hx with
    | 0, hx =>
      simp only [famL, List.getElem?_cons_zero, Option.some.injEq] at hx
      subst hx
      refine ⟨_, 0, rfl, ?_⟩
      show ElemAt 4 RVer _ _ 0 _
      exact elem_ver (u := .slice none 0 0) (by go_simp) (by go_simp) (by go_simp) (by go_simp) (IsInts.nil _) ⟨i64_small (by decide), i64_small (by decide), i64_small (by decide)⟩
    | 1, hx =>
      simp only [famL, List.getElem?_cons_zero, List.getElem?_cons_succ, Option.some.injEq] at hx
      subst hx
      refine ⟨_, 0, rfl, ?_⟩
      show ElemAt 4 RVer _ _ 4 _
      exact elem_ver (u := .slice (some ⟨W.heap.size + 1 + 1, 0, none⟩) 1 1) (by go_simp) (by go_simp) (by go_simp) (by go_simp) (IsInts.one (by go_simp) (i64_small (by decide))) ⟨i64_small (by decide), i64_small (by decide), i64_small (by decide)⟩
    | 2, hx =>
      simp only [famL, List.getElem?_cons_zero, List.getElem?_cons_succ, Option.some.injEq] at hx
      subst hx
      refine ⟨_, 0, rfl, ?_⟩
      show ElemAt 4 RVer _ _ 8 _
      exact elem_ver (u := .slice (some ⟨W.heap.size + 1 + 1 + 1, 0, none⟩) 1 1) (by go_simp) (by go_simp) (by go_simp) (by go_simp) (IsInts.one (by go_simp) (i64_small (by decide))) ⟨i64_small (by decide), i64_small (by decide), i64_small (by decide)⟩
    | 3, hx =>
      simp only [famL, List.getElem?_cons_zero, List.getElem?_cons_succ, Option.some.injEq] at hx
      subst hx
      refine ⟨_, 0, rfl, ?_⟩
      show ElemAt 4 RVer _ _ 12 _
      exact elem_ver (u := .slice (some ⟨W.heap.size + 1 + 1 + 1 + 1, 0, none⟩) 2 2) (by go_simp) (by go_simp) (by go_simp) (by go_simp) (IsInts.two (by go_simp) (i64_small (by decide)) (by go_simp) (i64_small (by decide))) ⟨i64_small (by decide), i64_small (by decide), i64_small (by decide)⟩
    | 4, hx =>
      simp only [famL, List.getElem?_cons_zero, List.getElem?_cons_succ, Option.some.injEq] at hx
      subst hx
      refine ⟨_, 0, rfl, ?_⟩
      show ElemAt 4 RVer _ _ 16 _
      exact elem_ver (u := .slice (some ⟨W.heap.size + 1 + 1 + 1 + 1 + 1, 0, none⟩) 1 1) (by go_simp) (by go_simp) (by go_simp) (by go_simp) (IsInts.one (by go_simp) (i64_small (by decide))) ⟨i64_small (by decide), i64_small (by decide), i64_small (by decide)⟩
    | i + 5, hx => simp [famL] at hx
  · exact (((((((Since.refl W).alloc _).alloc _).alloc _).alloc _).alloc _).alloc _).alloc _ |>.below
end Go.Proofs.Ytpjlngkndofjfaa
