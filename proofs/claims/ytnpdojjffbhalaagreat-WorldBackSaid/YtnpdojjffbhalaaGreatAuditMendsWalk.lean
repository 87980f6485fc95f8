/-
  Behind a repair nobody is to blame, and nothing lacks.
-/
import Derived.Test.YtnpdojjffbhalaaGreatJudged
import Derived.Test.YtnpdojjffbhalaaGreatReadMesh
import Derived.Test.YtnpdojjffbhalaaGreatRepairLaw
namespace Go.Proofs.YtnpdojjffbhalaaGreat
open Go.RowKit

/-- A mesh of which a version is whole. -/
theorem whole_audit {b : List Ver} {qs : List Pr} {k n o s : Nat} {pr D : List _} (hm : placeV b qs = 0) (hx : b[k]? = some (pr, (n : Int), (o : Int), (s : Int))) (hs : splitE n o s D = 0) (hw : Whole (k : Int) n o (rowsN n s) D qs) :
    restE (b, qs) (k : Int) = 0 ∧ restB (b, qs) (k : Int) = D ∧ restW (b, qs) (k : Int) = [] ∧ blamedE (b, qs) (k : Int) = 0 ∧ blamedC (b, qs) (k : Int) = [] ∧ lackV (b, qs) (k : Int) = 0 ∧ readyE (b, qs) (k : Int) = 0 := by
  have hp := planV_bd (splitE_ok hs).1
  obtain ⟨h1, h2, h3⟩ := rest_whole hm hx hs hw.mem (by rw [hw.len]; omega)
  have hpl : planAt (b, qs).1 (k : Int) = ((n : Int), (o : Int), (s : Int)) := planAt_get hx
  have h4 : blamedE (b, qs) (k : Int) = 0 := by unfold blamedE; rw [if_neg (by simpa using h1), hpl, h2]; exact hs
  have h5 : blamedC (b, qs) (k : Int) = [] := by
    unfold blamedC
    rw [if_pos h4, hpl, h2, splitL_ok hs]
    unfold blameF
    rw [List.take_length]
    apply List.eq_nil_of_length_eq_zero
    rw [idxF_len, List.countP_eq_zero]
    intro q hq
    rw [hw.clean q hq]
    simp
  have h6 := restE_ready h1
  refine ⟨h1, h2, h3, h4, h5, ?_, h6⟩
  rw [lackV_eq h6, hpl]
  simp only
  rw [hw.len]
  omega

end Go.Proofs.YtnpdojjffbhalaaGreat
