/-
  Behind a repair nobody is to blame, and nothing lacks.
-/
import Derived.Test.YtnpdojjffbhalaaJudged
import Derived.Test.YtnpdojjffbhalaaReadMesh
import Derived.Test.YtnpdojjffbhalaaRepairLaw
namespace Go.Proofs.Ytnpdojjffbhalaa
open Go.RowKit

/-- A mesh of which a version is whole. -/
theorem whole_audit {b : List Ver} {qs : List Pr} {k n o s : Nat} {pr D : List _} (hm : placeV b qs = 0) (hx : b[k]? = some (pr, (n : Int), (o : Int), (s : Int))) (hs : splitE n o s D = 0) (hw : Whole (k : Int) n o (rowsN n s) D qs) :
    restE (b, qs) (k : Int) = 0 ∧ restB (b, qs) (k : Int) = D ∧ restW (b, qs) (k : Int) = [] ∧ blamedE (b, qs) (k : Int) = 0 ∧ blamedC (b, qs) (k : Int) = [] ∧ lackV (b, qs) (k : Int) = 0 ∧ readyE (b, qs) (k : Int) = 0 := by
  have hp := planV_bd (splitE_ok hs).1
  obtain ⟨h1, h2, h3⟩ := rest_whole hm hx hs hw.mem (by rw [hw.len]; omega)
  have hpl : planAt (b, qs).1 (k : Int) = ((n : Int), (o : Int), (s : Int)) := planAt_get hx
  have h4 : blamedE (b, qs) (k : Int) = 0 := by unfold blamedE; rw [if_neg (by simpa using h1), hpl, h2]; exact hs
  have h5 : blamedC (b, qs) (k : Int) = [] := by
    unfold blamedC
    rw [if_pos h4, hpl, h2, splitL_ok hs]
    unfold blameF
    rw [List.take_length]
    apply List.eq_nil_of_length_eq_zero
    rw [idxF_len, List.countP_eq_zero]
    intro q hq
    rw [hw.clean q hq]
    simp
  have h6 := restE_ready h1
  refine ⟨h1, h2, h3, h4, h5, ?_, h6⟩
  rw [lackV_eq h6, hpl]
  simp only
  rw [hw.len]
  omega

set_option linter.unusedSimpArgs false in
set_option maxRecDepth 100000 in
set_option maxHeartbeats 4000000 in
theorem AuditMends_walk (vm : Value) (m : Me) (vn : Value) (v : Int) (W : World) (hm : IsMesh W vm m) (hn : IsInt vn v) :
    Calls Try.prog 10 #[vm, vn] W fun e w' => e = .returned (.bool true) ∧ Below W.heap.size W w' := by
  obtain ⟨vb, u, rfl, hb, hu⟩ := hm
  obtain ⟨rfl, hni⟩ := hn
  obtain ⟨b, ps⟩ := m
  simp only at hb hu
  obtain ⟨a, c, rfl, hcb, ⟨hbm, hbc, _⟩, _⟩ := hb.opened
  obtain ⟨a', c', rfl, hcu, ⟨hum, huc, _⟩, _⟩ := hu.opened
  have S0 := (Since.refl W).alloc (.cells #[.slice a b.length c, .slice a' ps.length c'] 53)
  have hb0 := hb.stays RVer.stays S0.below
  have hu0 := hu.stays RPeer.stays S0.below
  have c0 : (W.alloc (.cells #[.slice a b.length c, .slice a' ps.length c'] 53)).cell? ⟨W.heap.size, 0, none⟩ = some (.slice a b.length c) := by go_simp
  have c1 : (W.alloc (.cells #[.slice a b.length c, .slice a' ps.length c'] 53)).cell? ⟨W.heap.size, 1, none⟩ = some (.slice a' ps.length c') := by go_simp
  have HR := Lib.hid (Repair_any _ _ b ps v _ hb0 hu0 hni)
  clear hb hu
  by_cases hE : repairE (b, ps) v = 0
  · have hv0 : 0 ≤ v ∧ v < b.length := by
      have h0 : restE (b, ps) v = 0 := by
        by_cases h0 : restE (b, ps) v = 0
        · exact h0
        · unfold repairE at hE
          rw [if_pos h0] at hE
          exact absurd hE h0
      exact (readyE_ok (restE_ready h0)).2
    obtain ⟨k, rfl⟩ := Int.eq_ofNat_of_zero_le hv0.1
    obtain ⟨pr, n, o, s, D, qs, h1, h2, h3, h4, h5, h6, h7, h8, h9⟩ := repair_zero hE
    have HC := Lib.hid h6
    have HE := Lib.hid hE
    have HA := Lib.hid (whole_audit h7 h1 h2 h8)
    clear h1 h2 h3 h4 h5 h6 h7 h8 h9 hE hv0
    go_enter Try.func10, Try.ntmps10
    go_upto_region 1 with fail
    generalize W.alloc (.cells #[.slice a b.length c, .slice a' ps.length c'] 53) = w0 at *
    obtain ⟨B, hB⟩ : ∃ B, B = W.heap.size := ⟨_, rfl⟩
    rw [← hB] at c0 c1 ⊢
    clear hB
    go_upto_region 2 with (go_at_call 35; go_fit HR.out; rintro e w1 ⟨⟨u1, u2, rfl, ho1⟩, hb1⟩; rw [HE.out]; rw [HC.out] at ho1; obtain ⟨a1, k1, rfl, _⟩ := ho1.vers.opened; obtain ⟨a2, k2, rfl, _⟩ := ho1.peers.opened)
    have S1 := (S0.step hb1).alloc (.cells #[.slice a1 b.length k1, .slice a2 qs.length k2] 53)
    have ho2 := ho1.stays (below_alloc w1 (.cells #[.slice a1 b.length k1, .slice a2 qs.length k2] 53))
    have x0 : (w1.alloc (.cells #[.slice a1 b.length k1, .slice a2 qs.length k2] 53)).cell? ⟨w1.heap.size, 0, none⟩ = some (.slice a1 b.length k1) := by go_simp
    have x1 : (w1.alloc (.cells #[.slice a1 b.length k1, .slice a2 qs.length k2] 53)).cell? ⟨w1.heap.size, 1, none⟩ = some (.slice a2 qs.length k2) := by go_simp
    generalize w1.alloc (.cells #[.slice a1 b.length k1, .slice a2 qs.length k2] 53) = w2 at *
    obtain ⟨Bx, hBx⟩ : ∃ Bx, Bx = w1.heap.size := ⟨_, rfl⟩
    rw [← hBx] at x0 x1 ⊢
    have hv2 := Lib.hid ho2.vers
    have hp2 := Lib.hid ho2.peers
    clear hBx ho1 ho2 hb1 c0 c1 hb0 hu0 HR
    go_upto_region 4 with (first
      | (go_at_call 32; go_fit (judged_any w2); rintro e w3 ⟨rfl, hb3⟩))
    have S3 := S1.step hb3
    have x0 := below_cell hb3 x0
    have x1 := below_cell hb3 x1
    have hv3 := Lib.hid (hv2.out.stays RVer.stays hb3)
    have hp3 := Lib.hid (hp2.out.stays RPeer.stays hb3)
    clear hb3
    go_upto_region 5 with (go_at_call 33; go_fit (Blamed_any _ _ b qs (k : Int) w3 hv3.out hp3.out); rintro e w4 ⟨⟨z1, rfl, hi1, _⟩, hb4⟩; rw [HA.out.2.2.2.1]; rw [HA.out.2.2.2.2.1] at hi1; obtain ⟨ab, cb, rfl, _⟩ := hi1.opened; have x0 := below_cell hb4 x0; have x1 := below_cell hb4 x1)
    have S4 := S3.step hb4
    have hv4 := Lib.hid (hv3.out.stays RVer.stays hb4)
    have hp4 := Lib.hid (hp3.out.stays RPeer.stays hb4)
    clear hb4 hi1
    go_wp2_with (go_at_call 34; go_fit (Lacking_any _ b _ qs (k : Int) w4 hv4.out hp4.out); rintro e w5 ⟨rfl, hb5⟩; rw [HA.out.2.2.2.2.2.1, HA.out.2.2.2.2.2.2])
    go_ret
    exact ⟨rfl, (S4.step hb5).below⟩
  · go_enter Try.func10, Try.ntmps10
    go_upto_region 1 with fail
    generalize W.alloc (.cells #[.slice a b.length c, .slice a' ps.length c'] 53) = w0 at *
    obtain ⟨B, hB⟩ : ∃ B, B = W.heap.size := ⟨_, rfl⟩
    rw [← hB] at c0 c1 ⊢
    clear hB hb0 hu0
    go_wp2_with (first
      | (go_at_call 35; go_fit HR.out; rintro e w1 ⟨⟨u1, u2, rfl, ho1⟩, hb1⟩; obtain ⟨a1, k1, rfl, _⟩ := ho1.vers.opened; obtain ⟨a2, k2, rfl, _⟩ := ho1.peers.opened; have S1 := (S0.step hb1).alloc (.cells #[.slice a1 (repairC (b, ps) v).1.length k1, .slice a2 (repairC (b, ps) v).2.length k2] 53))
      | (go_at_call 32; go_fit (judged_any (w1.alloc (.cells #[.slice a1 (repairC (b, ps) v).1.length k1, .slice a2 (repairC (b, ps) v).2.length k2] 53))); rintro e w2 ⟨rfl, hb2⟩)
      | (go_at_call 32; go_fit (judged_any w2); rintro e w3 ⟨rfl, hb3⟩))
    go_ret
    exact ⟨rfl, ((S1.step hb2).step hb3).below⟩
end Go.Proofs.Ytnpdojjffbhalaa
