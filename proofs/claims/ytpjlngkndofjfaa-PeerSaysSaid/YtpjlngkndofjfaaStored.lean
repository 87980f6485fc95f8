/-
  The walk of the closed fact on what is kept and dropped.
-/
import Derived.Test.YtpjlngkndofjfaaChosen
import Derived.Test.YtpjlngkndofjfaaDrop
import Derived.Test.YtpjlngkndofjfaaPeerSame
namespace Go.Proofs.Ytpjlngkndofjfaa
open Go.RowKit

/-- A box in which a peer lies. -/
def PeerBox (w : World) (B : Nat) (p : Pr) : Prop := ∃ a c, w.cell? ⟨B, 0, none⟩ = some (.bool p.1) ∧ w.cell? ⟨B, 1, none⟩ = some (.int .i64 p.2.1) ∧ w.cell? ⟨B, 2, none⟩ = some (.slice a p.2.2.length c) ∧ (w.frozen? ⟨B, 0, none⟩ = false ∧ w.frozen? ⟨B, 1, none⟩ = false ∧ w.frozen? ⟨B, 2, none⟩ = false) ∧ IsKepts w (.slice a p.2.2.length c) p.2.2
theorem PeerBox.stays {w w' : World} {B : Nat} {p : Pr} (h : PeerBox w B p) (hb : Below w.heap.size w w') : PeerBox w' B p := by
  obtain ⟨a, c, h0, h1, h2, ⟨f0, f1, f2⟩, hk⟩ := h
  exact ⟨a, c, below_cell hb h0, below_cell hb h1, below_cell hb h2, ⟨below_free hb h0 f0, below_free hb h1 f1, below_free hb h2 f2⟩, hk.stays RKept.stays hb⟩
theorem peerBox_alloc {w : World} {p : Pr} {a : Option Addr} {c : Nat} (hk : IsKepts w (.slice a p.2.2.length c) p.2.2) : PeerBox (w.alloc (.cells #[.bool p.1, .int .i64 p.2.1, .slice a p.2.2.length c] 37)) w.heap.size p :=
  ⟨a, c, by go_simp, by go_simp, by go_simp, ⟨by go_simp, by go_simp, by go_simp⟩, hk.stays RKept.stays (below_alloc _ _)⟩
theorem zbox (w : World) : PeerBox (w.alloc (.cells #[.bool false, .int .i64 0, .slice none 0 0] 37)) w.heap.size (false, 0, []) := peerBox_alloc (p := (false, 0, [])) (IsRow.nil _)
theorem zcells (w w' : World) (B : Nat) (hB : B = w.heap.size) (h : Below (w.alloc (.cells #[.bool false, .int .i64 0, .slice none 0 0] 37)).heap.size (w.alloc (.cells #[.bool false, .int .i64 0, .slice none 0 0] 37)) w') :
    w'.cell? ⟨B, 0, none⟩ = some (.bool false) ∧ w'.cell? ⟨B, 1, none⟩ = some (.int .i64 0) ∧ w'.cell? ⟨B, 2, none⟩ = some (.slice none 0 0) ∧ w'.frozen? ⟨B, 0, none⟩ = false ∧ w'.frozen? ⟨B, 1, none⟩ = false ∧ w'.frozen? ⟨B, 2, none⟩ = false := by
  subst hB
  have h0 : (w.alloc (.cells #[.bool false, .int .i64 0, .slice none 0 0] 37)).cell? ⟨w.heap.size, 0, none⟩ = some (.bool false) := by go_simp
  have h1 : (w.alloc (.cells #[.bool false, .int .i64 0, .slice none 0 0] 37)).cell? ⟨w.heap.size, 1, none⟩ = some (.int .i64 0) := by go_simp
  have h2 : (w.alloc (.cells #[.bool false, .int .i64 0, .slice none 0 0] 37)).cell? ⟨w.heap.size, 2, none⟩ = some (.slice none 0 0) := by go_simp
  exact ⟨below_cell h h0, below_cell h h1, below_cell h h2, below_free h h0 (by go_simp), below_free h h1 (by go_simp), below_free h h2 (by go_simp)⟩
theorem below6 {w w' : World} (h : Below w.heap.size w w') {B : Nat} {x y z : Value} (hc : w.cell? ⟨B, 0, none⟩ = some x ∧ w.cell? ⟨B, 1, none⟩ = some y ∧ w.cell? ⟨B, 2, none⟩ = some z ∧ w.frozen? ⟨B, 0, none⟩ = false ∧ w.frozen? ⟨B, 1, none⟩ = false ∧ w.frozen? ⟨B, 2, none⟩ = false) :
    w'.cell? ⟨B, 0, none⟩ = some x ∧ w'.cell? ⟨B, 1, none⟩ = some y ∧ w'.cell? ⟨B, 2, none⟩ = some z ∧ w'.frozen? ⟨B, 0, none⟩ = false ∧ w'.frozen? ⟨B, 1, none⟩ = false ∧ w'.frozen? ⟨B, 2, none⟩ = false :=
  ⟨below_cell h hc.1, below_cell h hc.2.1, below_cell h hc.2.2.1, below_free h hc.1 hc.2.2.2.1, below_free h hc.2.1 hc.2.2.2.2.1, below_free h hc.2.2.1 hc.2.2.2.2.2⟩
/-- A box is written anew. -/
theorem peerBox_set {w : World} {B D : Nat} {p q : Pr} {v : Value} (h : PeerBox w B p) (ho : OwnRow 3 RKept (fun j => j < D) w 44 D v q.2.2) (hB : B < D) :
    PeerBox (((w.setCell ⟨B, 0, none⟩ (.bool q.1)).setCell ⟨B, 1, none⟩ (.int .i64 q.2.1)).setCell ⟨B, 2, none⟩ v) B q := by
  obtain ⟨a, c, h0, h1, h2, ⟨f0, f1, f2⟩, hk⟩ := h
  obtain ⟨a', c', rfl, _⟩ := ho.isRow.opened
  have hn : (Value.slice a' q.2.2.length c').ownBlock = none ∨ (Value.slice a' q.2.2.length c').ownBlock ≠ some B := by
    cases hq : (Value.slice a' q.2.2.length c').ownBlock with
    | none => exact Or.inl rfl
    | some j => right; intro e; cases e; have := (ho.lt _ hq).1; omega
  have hE : ∀ j, some B = some j → j < D := fun j hj => by cases hj; exact hB
  obtain ⟨g0, g1, g2⟩ := cells3 (w := w) (B := B) (x := .bool q.1) (y := .int .i64 q.2.1) (z := .slice a' q.2.2.length c') (by rw [h0]; rfl) (by rw [h1]; rfl) (by rw [h2]; rfl)
  exact ⟨a', c', g0, g1, g2, ⟨by simp only [World.frozen?_setCell]; exact f0, by simp only [World.frozen?_setCell]; exact f1, by simp only [World.frozen?_setCell]; exact f2⟩,
    (((ho.kept (grown_setCell w ⟨B, 0, none⟩ (.bool q.1)) hE hn).kept (grown_setCell _ ⟨B, 1, none⟩ (.int .i64 q.2.1)) hE hn).kept (grown_setCell _ ⟨B, 2, none⟩ (.slice a' q.2.2.length c')) hE hn).isRow⟩

set_option maxRecDepth 100000 in
set_option maxHeartbeats 8000000 in
theorem stored_any (W : World) : Calls Try.prog 16 #[] W fun e w' => e = .returned (.bool true) ∧ Below W.heap.size W w' := by
  have S := Since.refl W
  obtain ⟨FM, hFM⟩ : ∃ FM, FM = famL := ⟨_, rfl⟩
  obtain ⟨L1, hL1⟩ : ∃ L1 : List Kp, L1 = [(3, 0, [7])] := ⟨_, rfl⟩
  obtain ⟨L2, hL2⟩ : ∃ L2 : List Kp, L2 = [(1, 0, [7]), (3, 0, [7])] := ⟨_, rfl⟩
  obtain ⟨L3, hL3⟩ : ∃ L3 : List Kp, L3 = [(1, 0, [7])] := ⟨_, rfl⟩
  have E1 := Lib.hid (show keepE FM (false, 2, []) (3, 0, [7]) = 0 from by rw [hFM]; decide +kernel)
  have C1 := Lib.hid (show keepC FM (false, 2, []) (3, 0, [7]) = (false, 2, L1) from by rw [hFM, hL1]; decide +kernel)
  have E2 := Lib.hid (show keepE FM (false, 2, L1) (1, 0, [7]) = 0 from by rw [hFM, hL1]; decide +kernel)
  have C2 := Lib.hid (show keepC FM (false, 2, L1) (1, 0, [7]) = (false, 2, L2) from by rw [hFM, hL1, hL2]; decide +kernel)
  have E3 := Lib.hid (show keepE FM (false, 2, L2) (2, 0, [7]) = 8 from by rw [hFM, hL2]; decide +kernel)
  have C3 := Lib.hid (show keepC FM (false, 2, L2) (2, 0, [7]) = (false, 0, []) from keepC_no (by rw [E3.out]; decide))
  have E4 := Lib.hid (show peerV FM (false, 2, L2) = 0 from by rw [hFM, hL2]; decide +kernel)
  have C4 := Lib.hid (show dropC FM (false, 2, L2) 3 = (false, 2, L3) from by rw [hFM, hL2, hL3]; decide +kernel)
  have E5 := Lib.hid (show keepE FM (false, 2, L3) (1, 0, [7]) = 5 from by rw [hFM, hL3]; decide +kernel)
  have C5 := Lib.hid (show keepC FM (false, 2, L3) (1, 0, [7]) = (false, 0, []) from keepC_no (by rw [E5.out]; decide))
  have D1 := Lib.hid (show findV 3 L2 0 = 1 from by rw [hL2]; decide +kernel)
  have D2 := Lib.hid (show findV 3 L3 0 = -1 from by rw [hL3]; decide +kernel)
  have D3 := Lib.hid (show L3.length = 1 by rw [hL3]; rfl)
  have DQ := Lib.hid (prEq_self (false, 2, L2))
  have HFM := Lib.hid hFM.symm
  have i7 : I64 2 := i64_small (by decide)
  clear hFM hL1 hL2 hL3
  go_enter Try.func16, Try.ntmps16
  go_upto_region 2 with (first
    | (go_at_call 30; refine (family_any _).mono ?_; rintro e w1 ⟨⟨v1, rfl, hv1⟩, hb1⟩; rw [HFM.out] at hv1; have S1 := S.step hb1)
    | (go_at_call 29; refine (kept_any _ _).mono ?_; rintro e w2 ⟨⟨u2, rfl, hu2⟩, hb2⟩; have S2 := S1.step hb2; have hv2 := hv1.stays RVer.stays hb2)
    | (go_at_call 15; refine (Keep_any _ FM _ (false, 2, []) _ (3, 0, [7]) _ hv2 (IsRow.nil _) i7 hu2 (i64_small (by decide)) (i64_small (by decide))).mono ?_; rintro e w3 ⟨⟨v3, rfl, ho3⟩, hb3⟩; rw [E1.out]; rw [C1.out] at ho3 ⊢; have S3 := S2.step hb3; obtain ⟨a3, c3, rfl, _⟩ := ho3.isRow.opened))
  have hB4 := peerBox_alloc (p := (false, 2, L1)) ho3.isRow
  have S4 := S3.alloc (.cells #[.bool false, .int .i64 2, .slice a3 L1.length c3] 37)
  obtain ⟨B1, hB1⟩ : ∃ B1, B1 = w3.heap.size := ⟨_, rfl⟩
  have hWB : W.heap.size ≤ B1 := by have := S3.2; omega
  simp only at hB4
  rw [← hB1] at hB4 ⊢
  clear hb1 hb2 hb3 ho3 hv1 hv2 hu2 S1 S2 S3 hB1
  generalize w3.alloc (.cells #[.bool false, .int .i64 2, .slice a3 L1.length c3] 37) = w4 at *
  go_cut [3] (fun s3 wx => ∃ wz, wz = wx ∧ s3 = .int .i64 0 ∧ Since W.heap.size W wx ∧ PeerBox wx B1 (false, 2, L2))
  case first =>
    have P4 : PeerBox w4.drew B1 (false, 2, L1) := hB4
    have HP4 := Lib.hid P4
    have HS4 := Lib.hid S4.drew
    have hlt : B1 < w4.drew.heap.size := by obtain ⟨_, _, h, _⟩ := P4; exact cell_lt h
    obtain ⟨a, c, h0, h1, h2, ⟨f0, f1, f2⟩, hk⟩ := P4
    simp only at h0 h1 h2
    have HK4 := Lib.hid hk
    have HFR : Hid (∀ w', Below w4.drew.heap.size w4.drew w' → w'.cell? ⟨B1, 0, none⟩ = some (.bool false) ∧ w'.cell? ⟨B1, 1, none⟩ = some (.int .i64 2) ∧ w'.cell? ⟨B1, 2, none⟩ = some (.slice a L1.length c) ∧ w'.frozen? ⟨B1, 0, none⟩ = false ∧ w'.frozen? ⟨B1, 1, none⟩ = false ∧ w'.frozen? ⟨B1, 2, none⟩ = false) :=
      Lib.hid (fun w' q => ⟨below_cell q h0, below_cell q h1, below_cell q h2, below_free q h0 f0, below_free q h1 f1, below_free q h2 f2⟩)
    have HU4 := Lib.hid (Since.refl w4.drew)
    clear hB4 S4 S hk
    go_region_law (first
      | (go_simp; go_at_call 30; refine (family_any _).mono ?_; rintro e w5 ⟨⟨v5, rfl, hv5⟩, hb5⟩; rw [HFM.out] at hv5; have S5 := HU4.out.step hb5; obtain ⟨x0, x1, x2, _⟩ := HFR.out w5 S5.below)
      | (go_simp; go_at_call 29; refine (kept_any _ _).mono ?_; rintro e w6 ⟨⟨u6, rfl, hu6⟩, hb6⟩; have S6 := S5.step hb6; have hv6 := hv5.stays RVer.stays hb6; obtain ⟨y0, y1, y2, _⟩ := HFR.out w6 S6.below)
      | (go_simp; go_at_call 15; refine (Keep_any _ FM _ (false, 2, L1) _ (1, 0, [7]) _ hv6 (HK4.out.stays RKept.stays S6.below) i7 hu6 (i64_small (by decide)) (i64_small (by decide))).mono ?_; rintro e w7 ⟨⟨v7, rfl, ho7⟩, hb7⟩; rw [E2.out]; rw [C2.out] at ho7 ⊢; have S7 := S6.step hb7; obtain ⟨a7, c7, rfl, _⟩ := ho7.isRow.opened; obtain ⟨z0, z1, z2, z3, z4, z5⟩ := HFR.out w7 S7.below))
    all_goals
      have HB := Lib.hid (peerBox_set (q := (false, 2, L2)) (HP4.out.stays S7.below) ho7 (Nat.lt_of_lt_of_le hlt S6.2))
      have HS7 := Lib.hid ((((HS4.out.step S7.below).setCell (a := ⟨B1, 0, none⟩) hWB (.bool false)).setCell (a := ⟨B1, 1, none⟩) hWB (.int .i64 2)).setCell (a := ⟨B1, 2, none⟩) hWB (.slice a7 L2.length c7))
      clear hb5 hb6 hb7 ho7 hv5 hv6 hu6 S5 S6 S7 x0 x1 x2 y0 y1 y2 z0 z1 z2 z3 z4 z5 HK4 HFR HU4 HP4 h0 h1 h2 f0 f1 f2
      go_wp2_with fail
      go_meet
      exact ⟨_, rfl, rfl, HS7.out, HB.out⟩
  case rest =>
    obtain ⟨w5, rfl, rfl, S5, hB5⟩ := hcut
    clear hB4 S4 S
    go_upto_region 3 with fail
    go_cut [5] (fun s5 wx => ∃ wz, wz = wx ∧ s5 = .int .i64 8 ∧ Since w5.heap.size w5 wx)
    case first =>
      obtain ⟨a, c, h0, h1, h2, _, hk⟩ := hB5
      simp only at h0 h1 h2 hk
      have p0 := (Since.refl w5).drew
      have HK5 := Lib.hid hk
      have HS : Hid (∀ w', Since w5.heap.size w5 w' → w'.cell? ⟨B1, 0, none⟩ = some (.bool false) ∧ w'.cell? ⟨B1, 1, none⟩ = some (.int .i64 2) ∧ w'.cell? ⟨B1, 2, none⟩ = some (.slice a L2.length c)) := Lib.hid (fun w' q => ⟨below_cell q.below h0, below_cell q.below h1, below_cell q.below h2⟩)
      have s0 := HS.out _ p0
      have hlt := cell_lt h0
      clear h0 h1 h2 hk
      go_region_held3 (fun w' => w'.cell? ⟨B1, 0, none⟩ = some (.bool false) ∧ w'.cell? ⟨B1, 1, none⟩ = some (.int .i64 2) ∧ w'.cell? ⟨B1, 2, none⟩ = some (.slice a L2.length c)) (first | exact s0 | exact HS.out _ pQ | exact HS.out _ pK | exact HS.out _ pF | exact HS.out _ (p0.alloc _) | exact HS.out _ (pF.alloc _) | exact HS.out _ (pK.alloc _) | exact HS.out _ (pQ.alloc _) | exact HS.out _ (((pQ.setCell (Nat.le_refl _) _).setCell (Nat.le_refl _) _).setCell (Nat.le_refl _) _) | exact HS.out _ (((pQ.setCell pF.2 _).setCell pF.2 _).setCell pF.2 _) | exact HS.out _ (((pQ.setCell pK.2 _).setCell pK.2 _).setCell pK.2 _)) (first
        | (go_at_call 30; refine (family_any w5.drew).mono ?_; rintro e wF ⟨⟨vF, rfl, hvF⟩, hbF⟩; rw [HFM.out] at hvF; have pF : Since w5.heap.size w5 wF := p0.step hbF)
        | (go_at_call 30; refine (family_any (w5.drew.alloc (.cells #[.bool false, .int .i64 0, .slice none 0 0] 37))).mono ?_; rintro e wF ⟨⟨vF, rfl, hvF⟩, hbF⟩; rw [HFM.out] at hvF; have pF : Since w5.heap.size w5 wF := (p0.alloc _).step hbF; have zF := zcells w5.drew wF w5.heap.size rfl hbF)
        | (go_at_call 29; refine (kept_any _ (wF.alloc (.cells #[.bool false, .int .i64 0, .slice none 0 0] 37))).mono ?_; rintro e wK ⟨⟨uK, rfl, huK⟩, hbK⟩; have pK : Since w5.heap.size w5 wK := (pF.alloc _).step hbK; have hvK : IsVers wK vF FM := (hvF.stays RVer.stays (below_alloc _ _)).stays RVer.stays hbK; have zK := zcells wF wK wF.heap.size rfl hbK)
        | (go_at_call 29; refine (kept_any _ wF).mono ?_; rintro e wK ⟨⟨uK, rfl, huK⟩, hbK⟩; have pK : Since w5.heap.size w5 wK := pF.step hbK; have hvK : IsVers wK vF FM := hvF.stays RVer.stays hbK; have zK := below6 hbK zF)
        | (go_at_call 29; refine (kept_any _ wF).mono ?_; rintro e wK ⟨⟨uK, rfl, huK⟩, hbK⟩; have pK : Since w5.heap.size w5 wK := pF.step hbK; have hvK : IsVers wK vF FM := hvF.stays RVer.stays hbK)
        | (go_at_call 15; refine (Keep_any _ FM _ (false, 2, L2) _ (2, 0, [7]) (wK.alloc (.cells #[.bool false, .int .i64 0, .slice none 0 0] 37)) (hvK.stays RVer.stays (below_alloc _ _)) (HK5.out.stays RKept.stays (pK.alloc _).below) i7 (huK.stays (below_alloc _ _)) (i64_small (by decide)) (i64_small (by decide))).mono ?_; rintro e wQ ⟨⟨vQ, rfl, hoQ⟩, hbQ⟩; rw [E3.out]; rw [C3.out] at hoQ ⊢; obtain ⟨aQ, cQ, rfl, _⟩ := hoQ.isRow.opened; have pQ : Since w5.heap.size w5 wQ := (pK.alloc _).step hbQ; obtain ⟨zc0, zc1, zc2, zf0, zf1, zf2⟩ := zcells wK wQ wK.heap.size rfl hbQ)
        | (go_at_call 15; refine (Keep_any _ FM _ (false, 2, L2) _ (2, 0, [7]) wK hvK (HK5.out.stays RKept.stays pK.below) i7 huK (i64_small (by decide)) (i64_small (by decide))).mono ?_; rintro e wQ ⟨⟨vQ, rfl, hoQ⟩, hbQ⟩; rw [E3.out]; rw [C3.out] at hoQ ⊢; obtain ⟨aQ, cQ, rfl, _⟩ := hoQ.isRow.opened; have pQ : Since w5.heap.size w5 wQ := pK.step hbQ; have zQ := below6 hbQ zK; obtain ⟨zc0, zc1, zc2, zf0, zf1, zf2⟩ := zQ)
        | (go_at_call 15; refine (Keep_any _ FM _ (false, 2, L2) _ (2, 0, [7]) wK hvK (HK5.out.stays RKept.stays pK.below) i7 huK (i64_small (by decide)) (i64_small (by decide))).mono ?_; rintro e wQ ⟨⟨vQ, rfl, hoQ⟩, hbQ⟩; rw [E3.out]; rw [C3.out] at hoQ ⊢; obtain ⟨aQ, cQ, rfl, _⟩ := hoQ.isRow.opened; have pQ : Since w5.heap.size w5 wQ := pK.step hbQ))
      all_goals
        first
          | (have HSN := Lib.hid (((pQ.setCell (a := ⟨wK.heap.size, 0, none⟩) pK.2 (.bool false)).setCell (a := ⟨wK.heap.size, 1, none⟩) pK.2 (.int .i64 0)).setCell (a := ⟨wK.heap.size, 2, none⟩) pK.2 (.slice aQ ([] : List Kp).length cQ)); go_wp2_with fail; go_meet; exact ⟨_, rfl, rfl, HSN.out⟩)
          | (have HSN := Lib.hid (((pQ.setCell (a := ⟨wF.heap.size, 0, none⟩) pF.2 (.bool false)).setCell (a := ⟨wF.heap.size, 1, none⟩) pF.2 (.int .i64 0)).setCell (a := ⟨wF.heap.size, 2, none⟩) pF.2 (.slice aQ ([] : List Kp).length cQ)); go_wp2_with fail; go_meet; exact ⟨_, rfl, rfl, HSN.out⟩)
          | (have HSN := Lib.hid (((pQ.setCell (a := ⟨w5.heap.size, 0, none⟩) (Nat.le_refl _) (.bool false)).setCell (a := ⟨w5.heap.size, 1, none⟩) (Nat.le_refl _) (.int .i64 0)).setCell (a := ⟨w5.heap.size, 2, none⟩) (Nat.le_refl _) (.slice aQ ([] : List Kp).length cQ)); go_wp2_with fail; go_meet; exact ⟨_, rfl, rfl, HSN.out⟩)
          | (have HSN := Lib.hid (pQ.alloc (.cells #[.bool false, .int .i64 0, .slice aQ ([] : List Kp).length cQ] 37)); go_wp2_with fail; go_meet; exact ⟨_, rfl, rfl, HSN.out⟩)
    case rest =>
      obtain ⟨w6, rfl, rfl, S56⟩ := hcut
      have hB6 := hB5.stays S56.below
      have S6 := S5.step ((Since.refl w5).step (S56.below)).below
      go_upto_region 4 with fail
      go_cut [6, 7] (fun s6 s7 wx => ∃ wz B6, wz = wx ∧ s6 = .pointer (some ⟨B6, 0, none⟩) ∧ s7 = .int .i64 0 ∧ Since w6.heap.size w6 wx ∧ PeerBox wx B6 (false, 2, L3))
      case first =>
        obtain ⟨a, c, h0, h1, h2, _, hk⟩ := hB6
        simp only at h0 h1 h2 hk
        have p0 := (Since.refl w6).drew
        have HK6 := Lib.hid hk
        have HS : Hid (∀ w', Since w6.heap.size w6 w' → w'.cell? ⟨B1, 0, none⟩ = some (.bool false) ∧ w'.cell? ⟨B1, 1, none⟩ = some (.int .i64 2) ∧ w'.cell? ⟨B1, 2, none⟩ = some (.slice a L2.length c)) := Lib.hid (fun w' q => ⟨below_cell q.below h0, below_cell q.below h1, below_cell q.below h2⟩)
        have s0 := HS.out _ p0
        have hlt := cell_lt h0
        clear h0 h1 h2 hk
        go_region_held3 (fun w' => w'.cell? ⟨B1, 0, none⟩ = some (.bool false) ∧ w'.cell? ⟨B1, 1, none⟩ = some (.int .i64 2) ∧ w'.cell? ⟨B1, 2, none⟩ = some (.slice a L2.length c)) (first | exact s0 | exact HS.out _ pQ | exact HS.out _ pF | exact HS.out _ (p0.alloc _) | exact HS.out _ (pF.alloc _) | exact HS.out _ (pQ.alloc _) | exact HS.out _ (((pQ.setCell (Nat.le_refl _) _).setCell (Nat.le_refl _) _).setCell (Nat.le_refl _) _) | exact HS.out _ (((pQ.setCell pF.2 _).setCell pF.2 _).setCell pF.2 _)) (first
          | (go_at_call 30; refine (family_any w6.drew).mono ?_; rintro e wF ⟨⟨vF, rfl, hvF⟩, hbF⟩; rw [HFM.out] at hvF; have pF : Since w6.heap.size w6 wF := p0.step hbF)
          | (go_at_call 30; refine (family_any (w6.drew.alloc (.cells #[.bool false, .int .i64 0, .slice none 0 0] 37))).mono ?_; rintro e wF ⟨⟨vF, rfl, hvF⟩, hbF⟩; rw [HFM.out] at hvF; have pF : Since w6.heap.size w6 wF := (p0.alloc _).step hbF; have zF := zcells w6.drew wF w6.heap.size rfl hbF)
          | (go_at_call 19; refine (Drop_any _ FM _ (false, 2, L2) 3 (wF.alloc (.cells #[.bool false, .int .i64 0, .slice none 0 0] 37)) (hvF.stays RVer.stays (below_alloc _ _)) (HK6.out.stays RKept.stays (pF.alloc _).below) i7).mono ?_; rintro e wQ ⟨⟨vQ, rfl, hoQ⟩, hbQ⟩; rw [E4.out]; rw [C4.out] at hoQ ⊢; obtain ⟨aQ, cQ, rfl, _⟩ := hoQ.isRow.opened; have pQ : Since w6.heap.size w6 wQ := (pF.alloc _).step hbQ; obtain ⟨zc0, zc1, zc2, zf0, zf1, zf2⟩ := zcells wF wQ wF.heap.size rfl hbQ)
          | (go_at_call 19; refine (Drop_any _ FM _ (false, 2, L2) 3 wF hvF (HK6.out.stays RKept.stays pF.below) i7).mono ?_; rintro e wQ ⟨⟨vQ, rfl, hoQ⟩, hbQ⟩; rw [E4.out]; rw [C4.out] at hoQ ⊢; obtain ⟨aQ, cQ, rfl, _⟩ := hoQ.isRow.opened; have pQ : Since w6.heap.size w6 wQ := pF.step hbQ; have zQ := below6 hbQ zF; obtain ⟨zc0, zc1, zc2, zf0, zf1, zf2⟩ := zQ)
          | (go_at_call 19; refine (Drop_any _ FM _ (false, 2, L2) 3 wF hvF (HK6.out.stays RKept.stays pF.below) i7).mono ?_; rintro e wQ ⟨⟨vQ, rfl, hoQ⟩, hbQ⟩; rw [E4.out]; rw [C4.out] at hoQ ⊢; obtain ⟨aQ, cQ, rfl, _⟩ := hoQ.isRow.opened; have pQ : Since w6.heap.size w6 wQ := pF.step hbQ))
        all_goals
          first
            | (have HR := Lib.hid (peerBox_set (q := (false, 2, L3)) ((zbox wF).stays hbQ) hoQ (by simp)); have HSN := Lib.hid (((pQ.setCell (a := ⟨wF.heap.size, 0, none⟩) pF.2 (.bool false)).setCell (a := ⟨wF.heap.size, 1, none⟩) pF.2 (.int .i64 2)).setCell (a := ⟨wF.heap.size, 2, none⟩) pF.2 (.slice aQ L3.length cQ)); go_wp2_with fail; go_meet; exact ⟨_, _, rfl, rfl, rfl, HSN.out, HR.out⟩)
            | (have HR := Lib.hid (peerBox_set (q := (false, 2, L3)) (((zbox w6.drew).stays hbF).stays hbQ) hoQ (Nat.lt_of_lt_of_le (by simp) hbF.size)); have HSN := Lib.hid (((pQ.setCell (a := ⟨w6.heap.size, 0, none⟩) (Nat.le_refl _) (.bool false)).setCell (a := ⟨w6.heap.size, 1, none⟩) (Nat.le_refl _) (.int .i64 2)).setCell (a := ⟨w6.heap.size, 2, none⟩) (Nat.le_refl _) (.slice aQ L3.length cQ)); go_wp2_with fail; go_meet; exact ⟨_, _, rfl, rfl, rfl, HSN.out, HR.out⟩)
            | (have HR := Lib.hid (peerBox_alloc (p := (false, 2, L3)) hoQ.isRow); have HSN := Lib.hid (pQ.alloc (.cells #[.bool false, .int .i64 2, .slice aQ L3.length cQ] 37)); go_wp2_with fail; go_meet; exact ⟨_, _, rfl, rfl, rfl, HSN.out, HR.out⟩)
      case rest =>
        obtain ⟨w7, B6, rfl, rfl, rfl, S67, hB7⟩ := hcut
        have hC7 := hB6.stays S67.below
        have S7 := S6.step ((Since.refl w6).step S67.below).below
        clear hB5 hB6 S56
        go_upto_region 5 with fail
        go_cut [9] (fun s9 wx => ∃ wz, wz = wx ∧ s9 = .int .i64 5 ∧ Since w7.heap.size w7 wx)
        case first =>
          obtain ⟨a, c, h0, h1, h2, _, hk⟩ := hB7
          simp only at h0 h1 h2 hk
          have p0 := (Since.refl w7).drew
          have HK7 := Lib.hid hk
          have HS : Hid (∀ w', Since w7.heap.size w7 w' → w'.cell? ⟨B6, 0, none⟩ = some (.bool false) ∧ w'.cell? ⟨B6, 1, none⟩ = some (.int .i64 2) ∧ w'.cell? ⟨B6, 2, none⟩ = some (.slice a L3.length c)) := Lib.hid (fun w' q => ⟨below_cell q.below h0, below_cell q.below h1, below_cell q.below h2⟩)
          have s0 := HS.out _ p0
          have hlt := cell_lt h0
          clear h0 h1 h2 hk
          go_region_held3 (fun w' => w'.cell? ⟨B6, 0, none⟩ = some (.bool false) ∧ w'.cell? ⟨B6, 1, none⟩ = some (.int .i64 2) ∧ w'.cell? ⟨B6, 2, none⟩ = some (.slice a L3.length c)) (first | exact s0 | exact HS.out _ pQ | exact HS.out _ pK | exact HS.out _ pF | exact HS.out _ (p0.alloc _) | exact HS.out _ (pF.alloc _) | exact HS.out _ (pK.alloc _) | exact HS.out _ (pQ.alloc _) | exact HS.out _ (((pQ.setCell (Nat.le_refl _) _).setCell (Nat.le_refl _) _).setCell (Nat.le_refl _) _) | exact HS.out _ (((pQ.setCell pF.2 _).setCell pF.2 _).setCell pF.2 _) | exact HS.out _ (((pQ.setCell pK.2 _).setCell pK.2 _).setCell pK.2 _)) (first
            | (go_at_call 30; refine (family_any w7.drew).mono ?_; rintro e wF ⟨⟨vF, rfl, hvF⟩, hbF⟩; rw [HFM.out] at hvF; have pF : Since w7.heap.size w7 wF := p0.step hbF)
            | (go_at_call 30; refine (family_any (w7.drew.alloc (.cells #[.bool false, .int .i64 0, .slice none 0 0] 37))).mono ?_; rintro e wF ⟨⟨vF, rfl, hvF⟩, hbF⟩; rw [HFM.out] at hvF; have pF : Since w7.heap.size w7 wF := (p0.alloc _).step hbF; have zF := zcells w7.drew wF w7.heap.size rfl hbF)
            | (go_at_call 29; refine (kept_any _ (wF.alloc (.cells #[.bool false, .int .i64 0, .slice none 0 0] 37))).mono ?_; rintro e wK ⟨⟨uK, rfl, huK⟩, hbK⟩; have pK : Since w7.heap.size w7 wK := (pF.alloc _).step hbK; have hvK : IsVers wK vF FM := (hvF.stays RVer.stays (below_alloc _ _)).stays RVer.stays hbK; have zK := zcells wF wK wF.heap.size rfl hbK)
            | (go_at_call 29; refine (kept_any _ wF).mono ?_; rintro e wK ⟨⟨uK, rfl, huK⟩, hbK⟩; have pK : Since w7.heap.size w7 wK := pF.step hbK; have hvK : IsVers wK vF FM := hvF.stays RVer.stays hbK; have zK := below6 hbK zF)
            | (go_at_call 29; refine (kept_any _ wF).mono ?_; rintro e wK ⟨⟨uK, rfl, huK⟩, hbK⟩; have pK : Since w7.heap.size w7 wK := pF.step hbK; have hvK : IsVers wK vF FM := hvF.stays RVer.stays hbK)
            | (go_at_call 15; refine (Keep_any _ FM _ (false, 2, L3) _ (1, 0, [7]) (wK.alloc (.cells #[.bool false, .int .i64 0, .slice none 0 0] 37)) (hvK.stays RVer.stays (below_alloc _ _)) (HK7.out.stays RKept.stays (pK.alloc _).below) i7 (huK.stays (below_alloc _ _)) (i64_small (by decide)) (i64_small (by decide))).mono ?_; rintro e wQ ⟨⟨vQ, rfl, hoQ⟩, hbQ⟩; rw [E5.out]; rw [C5.out] at hoQ ⊢; obtain ⟨aQ, cQ, rfl, _⟩ := hoQ.isRow.opened; have pQ : Since w7.heap.size w7 wQ := (pK.alloc _).step hbQ; obtain ⟨zc0, zc1, zc2, zf0, zf1, zf2⟩ := zcells wK wQ wK.heap.size rfl hbQ)
            | (go_at_call 15; refine (Keep_any _ FM _ (false, 2, L3) _ (1, 0, [7]) wK hvK (HK7.out.stays RKept.stays pK.below) i7 huK (i64_small (by decide)) (i64_small (by decide))).mono ?_; rintro e wQ ⟨⟨vQ, rfl, hoQ⟩, hbQ⟩; rw [E5.out]; rw [C5.out] at hoQ ⊢; obtain ⟨aQ, cQ, rfl, _⟩ := hoQ.isRow.opened; have pQ : Since w7.heap.size w7 wQ := pK.step hbQ; have zQ := below6 hbQ zK; obtain ⟨zc0, zc1, zc2, zf0, zf1, zf2⟩ := zQ)
            | (go_at_call 15; refine (Keep_any _ FM _ (false, 2, L3) _ (1, 0, [7]) wK hvK (HK7.out.stays RKept.stays pK.below) i7 huK (i64_small (by decide)) (i64_small (by decide))).mono ?_; rintro e wQ ⟨⟨vQ, rfl, hoQ⟩, hbQ⟩; rw [E5.out]; rw [C5.out] at hoQ ⊢; obtain ⟨aQ, cQ, rfl, _⟩ := hoQ.isRow.opened; have pQ : Since w7.heap.size w7 wQ := pK.step hbQ))
          all_goals
            first
              | (have HSN := Lib.hid (((pQ.setCell (a := ⟨wK.heap.size, 0, none⟩) pK.2 (.bool false)).setCell (a := ⟨wK.heap.size, 1, none⟩) pK.2 (.int .i64 0)).setCell (a := ⟨wK.heap.size, 2, none⟩) pK.2 (.slice aQ ([] : List Kp).length cQ)); go_wp2_with fail; go_meet; exact ⟨_, rfl, rfl, HSN.out⟩)
              | (have HSN := Lib.hid (((pQ.setCell (a := ⟨wF.heap.size, 0, none⟩) pF.2 (.bool false)).setCell (a := ⟨wF.heap.size, 1, none⟩) pF.2 (.int .i64 0)).setCell (a := ⟨wF.heap.size, 2, none⟩) pF.2 (.slice aQ ([] : List Kp).length cQ)); go_wp2_with fail; go_meet; exact ⟨_, rfl, rfl, HSN.out⟩)
              | (have HSN := Lib.hid (((pQ.setCell (a := ⟨w7.heap.size, 0, none⟩) (Nat.le_refl _) (.bool false)).setCell (a := ⟨w7.heap.size, 1, none⟩) (Nat.le_refl _) (.int .i64 0)).setCell (a := ⟨w7.heap.size, 2, none⟩) (Nat.le_refl _) (.slice aQ ([] : List Kp).length cQ)); go_wp2_with fail; go_meet; exact ⟨_, rfl, rfl, HSN.out⟩)
              | (have HSN := Lib.hid (pQ.alloc (.cells #[.bool false, .int .i64 0, .slice aQ ([] : List Kp).length cQ] 37)); go_wp2_with fail; go_meet; exact ⟨_, rfl, rfl, HSN.out⟩)
        case rest =>
          obtain ⟨w8, rfl, rfl, S78⟩ := hcut
          obtain ⟨a, c, h0, h1, h2, _, hk⟩ := hC7.stays S78.below
          obtain ⟨a', c', h0', h1', h2', _, hk'⟩ := hB7.stays S78.below
          have S8 := S7.step ((Since.refl w7).step S78.below).below
          simp only at h0 h1 h2 hk h0' h1' h2' hk'
          have p0 := (Since.refl w8).drew
          have HK8 := Lib.hid hk
          have HK8' := Lib.hid hk'
          have HS : Hid (∀ w', Since w8.heap.size w8 w' → w'.cell? ⟨B1, 0, none⟩ = some (.bool false) ∧ w'.cell? ⟨B1, 1, none⟩ = some (.int .i64 2) ∧ w'.cell? ⟨B1, 2, none⟩ = some (.slice a L2.length c) ∧ w'.cell? ⟨B6, 0, none⟩ = some (.bool false) ∧ w'.cell? ⟨B6, 1, none⟩ = some (.int .i64 2) ∧ w'.cell? ⟨B6, 2, none⟩ = some (.slice a' L3.length c')) :=
            Lib.hid (fun w' q => ⟨below_cell q.below h0, below_cell q.below h1, below_cell q.below h2, below_cell q.below h0', below_cell q.below h1', below_cell q.below h2'⟩)
          have s0 := HS.out _ p0
          have hl3 : ((L3.length : Int) == 1) = true := by rw [D3.out]; rfl
          clear h0 h1 h2 hk h0' h1' h2' hk' hB7 hC7
          go_upto_region 6 with fail
          go_region_held3 (fun w' => w'.cell? ⟨B1, 0, none⟩ = some (.bool false) ∧ w'.cell? ⟨B1, 1, none⟩ = some (.int .i64 2) ∧ w'.cell? ⟨B1, 2, none⟩ = some (.slice a L2.length c) ∧ w'.cell? ⟨B6, 0, none⟩ = some (.bool false) ∧ w'.cell? ⟨B6, 1, none⟩ = some (.int .i64 2) ∧ w'.cell? ⟨B6, 2, none⟩ = some (.slice a' L3.length c')) (first | exact s0 | exact s9 | exact s10 | exact s11 | exact s12 | exact s13) (first
            | (go_at_call 14; refine (Find_any false 2 _ L2 3 _ (HK8.out.stays RKept.stays p0.below)).mono ?_; rintro e w9 ⟨rfl, hb9⟩; rw [D1.out]; have p9 := p0.step hb9; have s9 := HS.out w9 p9)
            | (go_at_call 14; refine (Find_any false 2 _ L3 3 _ (HK8'.out.stays RKept.stays p9.below)).mono ?_; rintro e w10 ⟨rfl, hb10⟩; rw [D2.out]; have p10 := p9.step hb10; have s10 := HS.out w10 p10)
            | (go_at_call 30; refine (family_any w10).mono ?_; rintro e w11 ⟨⟨v11, rfl, hv11⟩, hb11⟩; rw [HFM.out] at hv11; have p11 := p10.step hb11; have s11 := HS.out w11 p11)
            | (go_at_call 17; refine (peerCheck_any _ FM _ (false, 2, L2) _ hv11 (HK8.out.stays RKept.stays p11.below) i7).mono ?_; rintro e w12 ⟨rfl, hb12⟩; rw [E4.out]; have p12 := p11.step hb12; have s12 := HS.out w12 p12)
            | (go_at_call 20; refine (SamePr_any _ _ (false, 2, L2) (false, 2, L2) _ ⟨_, rfl, HK8.out.stays RKept.stays p12.below, i7⟩ ⟨_, rfl, HK8.out.stays RKept.stays p12.below, i7⟩).mono ?_; rintro e w13 ⟨rfl, hb13⟩; rw [DQ.out]; have p13 := p12.step hb13; have s13 := HS.out w13 p13))
          all_goals
            have SF := S8.step p13.below
            go_wp2_with fail
            go_ret
            exact ⟨rfl, SF.below⟩

end Go.Proofs.Ytpjlngkndofjfaa
