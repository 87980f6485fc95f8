/-
  The reference's BlamedIn, walked.
-/
import Derived.Test.YtjakdgchfimhkaaGreatThere3
import Derived.Test.YtjakdgchfimhkaaGreatLaws
import Derived.Test.YtjakdgchfimhkaaGreatRepair
import Derived.Deep.QuietTactic
import Derived.BigQuiet
import Derived.Deep.RegionHeld3
namespace Go.Proofs.YtjakdgchfimhkaaGreat
open Go.RowKit

theorem most_dataR {n o s : Nat} {ls : List Sh} (hR : Right n o s ls) (hE : mostE n o s ls = 0) : splitE n o s (mostB n o s ls) = 0 := by
  obtain ⟨c, hc, hj, h1, h2⟩ := most_some hR hE
  rw [h1]
  exact join_split (comb_right hR hc).1 hj
theorem rest_plan {b : List Ver} {ps : List Pr} {v : Int} (h : restE (b, ps) v = 0) : ∃ (k n o s : Nat) (pr : List Int), v = (k : Int) ∧ b[k]? = some (pr, (n : Int), (o : Int), (s : Int)) ∧ splitE n o s (restB (b, ps) v) = 0 ∧ planV n o s = 0 := by
  have hr := restE_ready h
  obtain ⟨hm, h0, h1⟩ := readyE_ok hr
  obtain ⟨k, rfl⟩ := Int.eq_ofNat_of_zero_le h0
  have hk : k < b.length := by simpa using h1
  have hg : b[k]? = some b[k] := List.getElem?_eq_getElem hk
  have hpl : planAt b (k : Int) = b[k].2 := by unfold planAt; simp [hg]
  have hE : mostE b[k].2.1 b[k].2.2.1 b[k].2.2.2 (sharesM (k : Int) ps) = 0 := by
    have : restE (b, ps) (k : Int) = mostE b[k].2.1 b[k].2.2.1 b[k].2.2.2 (sharesM (k : Int) ps) := by unfold restE; rw [if_neg (by simpa using hr)]; rw [show planAt (b, ps).1 (k : Int) = b[k].2 from hpl]
    rw [← this]; exact h
  have hB : restB (b, ps) (k : Int) = mostB b[k].2.1 b[k].2.2.1 b[k].2.2.2 (sharesM (k : Int) ps) := by unfold restB; rw [if_neg (by simpa using hr)]; rw [show planAt (b, ps).1 (k : Int) = b[k].2 from hpl]
  have hp := (bookV_ok.1 (placeV_ok.1 hm).1).plan k _ hg
  obtain ⟨n, o, s, e1, e2, e3⟩ := plan_nat hp
  have hc : checksL n o s (sharesM (k : Int) ps) = 0 := by
    rw [e1, e2, e3] at hE
    by_cases hc : checksL n o s (sharesM (k : Int) ps) = 0
    · exact hc
    · rw [mostE_chk hc] at hE; exact absurd hE hc
  rw [e1, e2, e3] at hE hB hp
  refine ⟨k, n, o, s, b[k].1, rfl, ?_, ?_, hp⟩
  · rw [hg, ← e1, ← e2, ← e3]
  · rw [hB]
    exact most_dataR (right_iff.1 hc) hE
theorem same_of {n o s m : Nat} {data : List Int} (h : splitE n o s data = 0) (hm : m < o) (l : List Int) : sameS (splitL n o s data) ((m : Int), l) = sameV (m : Int) (m : Int) l (shareL n data (rowsN n s) m).2 := by
  rw [splitL_ok h]
  unfold sameS
  simp [sharesL, hm, shareL]

end Go.Proofs.YtjakdgchfimhkaaGreat
