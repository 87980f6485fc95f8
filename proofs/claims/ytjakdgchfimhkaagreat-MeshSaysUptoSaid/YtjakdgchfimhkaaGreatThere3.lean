/-
  The reference's Restored and LackingIn, walked.
-/
import Derived.Test.YtjakdgchfimhkaaGreatThere2
import Derived.Test.YtjakdgchfimhkaaGreatElect
import Derived.Deep.RegionHeld3
namespace Go.Proofs.YtjakdgchfimhkaaGreat
open Go.RowKit

theorem ret_vvE' {x y : Value} {a b : Int} (h : a = b) : Ending.returned (.tuple #[x, y, .int .i64 a]) = .returned (.tuple #[x, y, .int .i64 b]) := by rw [h]
set_option linter.unusedSimpArgs false in
set_option maxRecDepth 100000 in
set_option maxHeartbeats 4000000 in
theorem Restored_any (vb u : Value) (b : List Ver) (ps : List Pr) (v : Int) (W : World) (hb : IsVers W vb b) (hu : IsPeers W u ps) :
    Calls Tryz.prog 9 #[.agg #[vb, u], .int .i64 v] W fun e w' => (∃ y1 y2, e = .returned (.tuple #[y1, y2, .int .i64 (restE (b, ps) v)]) ∧ IsInts w' y1 (restB (b, ps) v) ∧ IsInts w' y2 (restW (b, ps) v)) ∧ Below W.heap.size W w' := by
  obtain ⟨a, c, rfl, hcb, ⟨hbm, hbc, _⟩, _⟩ := hb.opened
  obtain ⟨a', c', rfl, hcu, ⟨hum, huc, _⟩, _⟩ := hu.opened
  have S0 := (Since.refl W).alloc (.cells #[.slice a b.length c, .slice a' ps.length c'] 27)
  have hb0 := hb.stays RVer.stays S0.below
  have hu0 := hu.stays RPeer.stays S0.below
  have c0 : (W.alloc (.cells #[.slice a b.length c, .slice a' ps.length c'] 27)).cell? ⟨W.heap.size, 0, none⟩ = some (.slice a b.length c) := by go_simp
  have c1 : (W.alloc (.cells #[.slice a b.length c, .slice a' ps.length c'] 27)).cell? ⟨W.heap.size, 1, none⟩ = some (.slice a' ps.length c') := by go_simp
  clear hb hu
  go_enter Tryz.func9, Tryz.ntmps9
  go_upto_region 1 with fail
  generalize W.alloc (.cells #[.slice a b.length c, .slice a' ps.length c'] 27) = w0 at *
  obtain ⟨B, hB⟩ : ∃ B, B = W.heap.size := ⟨_, rfl⟩
  rw [← hB] at c0 c1 ⊢
  clear hB
  go_upto_region 2 with (go_at_call 28; go_fit (version_any _ b _ ps v _ hb0 hu0); rintro e w1 ⟨rfl, hb1⟩)
  have S1 := S0.step hb1
  have d0 := below_cell hb1 c0
  have d1 := below_cell hb1 c1
  have HB1 := Lib.hid (hb0.stays RVer.stays hb1)
  have HU1 := Lib.hid (hu0.stays RPeer.stays hb1)
  clear c0 c1 hb1 hb0 hu0
  by_cases h0 : readyE (b, ps) v = 0
  · obtain ⟨hm0, hv0, hvb⟩ := readyE_ok h0
    have hp8 : ps.length ≤ 8 := (placeV_ok.1 hm0).2.1
    have HPK : Hid (∀ p ∈ ps, PeerOk b p) := Lib.hid (placeV_ok.1 hm0).2.2
    rw [h0]
    obtain ⟨kv, rfl⟩ := Int.eq_ofNat_of_zero_le hv0
    have hkv : kv < b.length := by simpa using hvb
    have hget := List.getElem?_eq_getElem hkv
    have hpl : planAt b (kv : Int) = b[kv].2 := by unfold planAt; simp [hget]
    have HE : Hid (restE (b, ps) (kv : Int) = mostE b[kv].2.1 b[kv].2.2.1 b[kv].2.2.2 (sharesM (kv : Int) ps)) := Lib.hid (by unfold restE; rw [if_neg (by simpa using h0)]; rw [show planAt (b, ps).1 (kv : Int) = b[kv].2 from hpl])
    have HBB : Hid (restB (b, ps) (kv : Int) = mostB b[kv].2.1 b[kv].2.2.1 b[kv].2.2.2 (sharesM (kv : Int) ps)) := Lib.hid (by unfold restB; rw [if_neg (by simpa using h0)]; rw [show planAt (b, ps).1 (kv : Int) = b[kv].2 from hpl])
    have HWW : Hid (restW (b, ps) (kv : Int) = mostW b[kv].2.1 b[kv].2.2.1 b[kv].2.2.2 (sharesM (kv : Int) ps)) := Lib.hid (by unfold restW; rw [if_neg (by simpa using h0)]; rw [show planAt (b, ps).1 (kv : Int) = b[kv].2 from hpl])
    obtain ⟨gv, ov, uv, cv, ea, k0, k1, k2, k3, _, i1, i2, i3⟩ := vers_at HB1.out hget
    subst ea
    generalize b[kv] = x at *
    have hkI : (kv : Int) < (b.length : Int) := by omega
    have hkI0 : (0 : Int) ≤ (kv : Int) := by omega
    have HS : Hid (∀ w', Since w1.heap.size w1 w' → w'.cell? ⟨B, 0, none⟩ = some (.slice (some ⟨gv, ov, none⟩) b.length c) ∧ w'.cell? ⟨B, 1, none⟩ = some (.slice a' ps.length c') ∧ w'.cell? ⟨gv, ov + kv * 4 + 1, none⟩ = some (.int .i64 x.2.1) ∧ w'.cell? ⟨gv, ov + kv * 4 + 2, none⟩ = some (.int .i64 x.2.2.1) ∧ w'.cell? ⟨gv, ov + kv * 4 + 3, none⟩ = some (.int .i64 x.2.2.2)) := Lib.hid (fun w' q => ⟨below_cell q.below d0, below_cell q.below d1, below_cell q.below k1, below_cell q.below k2, below_cell q.below k3⟩)
    have s3 := HS.out w1.drew (Since.refl w1).drew
    clear h0 hm0 hv0 hvb hget hpl d0 d1 k0 k1 k2 k3
    go_upto_region 4 with fail
    go_region_held3 (fun w' => w'.cell? ⟨B, 0, none⟩ = some (.slice (some ⟨gv, ov, none⟩) b.length c) ∧ w'.cell? ⟨B, 1, none⟩ = some (.slice a' ps.length c') ∧ w'.cell? ⟨gv, ov + kv * 4 + 1, none⟩ = some (.int .i64 x.2.1) ∧ w'.cell? ⟨gv, ov + kv * 4 + 2, none⟩ = some (.int .i64 x.2.2.1) ∧ w'.cell? ⟨gv, ov + kv * 4 + 3, none⟩ = some (.int .i64 x.2.2.2)) (first | exact s3 | exact s4 | exact s5) (first
      | (go_at_call 30; refine (There_any _ _ b ps (kv : Int) _ (HB1.out.stays RVer.stays (Since.refl w1).drew.below) (HU1.out.stays RPeer.stays (Since.refl w1).drew.below) HPK.out hp8).mono ?_; rintro e w4 ⟨⟨v4, rfl, hi4⟩, hb4⟩; have p4 := (Since.refl w1).drew.step hb4; have s4 := HS.out w4 p4)
      | (go_at_call 29; refine (Elect_any x.2.1 x.2.2.1 x.2.2.2 _ (sharesM (kv : Int) ps) _ hi4).mono ?_; rintro e w5 ⟨⟨y1, y2, rfl, hi5, hi6⟩, hb5⟩; have p5 := p4.step hb5; have s5 := HS.out w5 p5; have HI5 := Lib.hid hi5; have HI6 := Lib.hid hi6))
    all_goals
      clear s3 s4 s5
      go_wp2_with fail
      go_ret3
      exact ⟨⟨_, _, ret_vvE' HE.out.symm, by rw [HBB.out]; exact HI5.out, by rw [HWW.out]; exact HI6.out⟩, (S1.step p5.below).below⟩
  · have HE : Hid (restE (b, ps) v = readyE (b, ps) v) := Lib.hid (by unfold restE; rw [if_pos h0])
    have HBB : Hid (restB (b, ps) v = []) := Lib.hid (by unfold restB; rw [if_pos h0])
    have HWW : Hid (restW (b, ps) v = []) := Lib.hid (by unfold restW; rw [if_pos h0])
    have hne : (readyE (b, ps) v != 0) = true := by simpa using h0
    clear h0 d0 d1
    go_wp2_with fail
    go_ret3
    exact ⟨⟨_, _, ret_vvE' HE.out.symm, by rw [HBB.out]; exact IsInts.nil _, by rw [HWW.out]; exact IsInts.nil _⟩, S1.below⟩

end Go.Proofs.YtjakdgchfimhkaaGreat
