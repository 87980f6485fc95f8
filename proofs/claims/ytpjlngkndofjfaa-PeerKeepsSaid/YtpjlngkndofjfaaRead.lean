/-
  From what an argument reads as, to this proof's words for how it lies in memory.
-/
import Derived.Test.YtpjlngkndofjfaaRows
import Derived.Test.YtpjlngkndofjfaaLib
import Derived.ProofKit
import Derived.OpenShut
import Derived.SizedLaws
namespace Go.Proofs.Ytpjlngkndofjfaa
open Go.ChangeShapes Go.WideShapes Go.ChangeAt Go.RowKit
section
variable {H : Type} {enc : TypeId × Value → H} {W : World} {base : Nat} {v : Value} {d : DataW H} {ps : List MemPlace}

theorem I64_of_wf {n : Int} (h : (Lit.int .i64 n).wf = true) : I64 n := by
  have hmin : IntKind.i64.min = -9223372036854775808 := rfl
  have hmax : IntKind.i64.max = 9223372036854775807 := rfl
  simp only [Lit.wf, Bool.and_eq_true, decide_eq_true_eq] at h
  unfold I64
  omega

set_option maxRecDepth 100000 in
theorem read_int (hv : Value.okWide Try.prog W .any base 3 v) (h : DataW.Trod enc Try.prog W 0 (fun _ => true) true 3 v d ps) (_hz : ∀ n ∈ d.weights Try.prog 3, n ≤ reachBytes) :
    ∃ x, IsInt v x := by
  obtain ⟨x, rfl, rfl, rfl, wx⟩ := open_int Try.underlying3 hv h
  exact ⟨x, rfl, I64_of_wf wx⟩

theorem addr_none {w : World} {a : Addr} {v : Value} (h : w.cell? a = some v) : a.spot = none := World.cell?_spot h

set_option maxRecDepth 100000 in
/-- The cells of a slice of ints, as it was read. -/
theorem rd_ints {n : Nat} {cs : List Value} {x : DataW H × List MemPlace} (h : DataW.trod enc Try.prog W 0 (fun _ => true) true n 26 cs = some x) (hz : ∀ m ∈ x.1.weights Try.prog 26, m ≤ reachBytes) :
    ∃ v l, cs = [v] ∧ IsInts W v l := by
  rcases open_ints Try.underlying26 Try.underlying3 (by kernel_rfl) h with ⟨rfl, _⟩ | ⟨a, len, cap, zs, rfl, _, hl, hm, hzl, rfl, hc, hwf⟩
  · exact ⟨_, [], rfl, IsInts.nil W⟩
  · simp only [if_true] at hzl
    have hlen : (zs.take len).length = len := by simp; omega
    have hreach := hz ((len + (cap - len)) * Try.prog.bytesOf 3) (by simp [DataW.weights, Try.underlying26, lits, hzl, show min len cap = len by omega])
    rw [show Try.prog.bytesOf 3 = 8 by kernel_rfl] at hreach
    unfold reachBytes at hreach
    unfold maxLen at hm
    refine ⟨_, zs.take len, rfl, some a, cap, by rw [hlen], by omega, ⟨by omega, by omega, fun e => by cases e⟩, fun i hi => ?_⟩
    have hi' : i < zs.length := by omega
    have hc0 := hc i hi'
    have hs := addr_none (hc 0 (by omega))
    have hs0 : a.spot = none := by simpa [Addr.add] using hs
    refine ⟨a.block, a.off, zs[i], ?_, ?_, ?_, ?_⟩
    · cases a; simp at hs0; subst hs0; rfl
    · have e : a.add i = ⟨a.block, a.off + i, none⟩ := by cases a; simp at hs0; subst hs0; unfold Addr.add; split <;> simp_all
      rw [e] at hc0
      rw [hc0]
      simp [hi']
    · rw [List.getElem?_take, if_pos (by omega)]; simp [hi']
    · exact I64_of_wf (hwf _ (List.getElem_mem hi'))

set_option maxRecDepth 100000 in
theorem read_ints (_hv : Value.okWide Try.prog W .any base 26 v) (h : DataW.Trod enc Try.prog W 0 (fun _ => true) true 26 v d ps) (hz : ∀ n ∈ d.weights Try.prog 26, n ≤ reachBytes) :
    ∃ l, IsInts W v l := by
  obtain ⟨n, hn⟩ := h
  obtain ⟨v', l, e, hl⟩ := rd_ints hn hz
  obtain ⟨a, len, cap, rfl⟩ := okWide_slice Try.underlying26 _hv
  simp [Value.cells] at e
  subst e
  exact ⟨l, hl⟩

end
end Go.Proofs.Ytpjlngkndofjfaa
