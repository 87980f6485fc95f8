/-
  What those keep who aren't there doesn't matter, nor how much room there is.
-/
import Derived.Test.YtnpdojjffbhalaaWovens
import Derived.Test.YtnpdojjffbhalaaReadMesh
import Derived.Test.YtnpdojjffbhalaaLaws
import Derived.Deep.RegionHeld3
namespace Go.Proofs.Ytnpdojjffbhalaa
open Go.RowKit

def awayP (p : Pr) : Pr := (p.1, 20, if p.1 then p.2.2 else [])
theorem away_pick (v : Int) (p : Pr) : pickS v (awayP p) = pickS v p := by
  unfold pickS awayP
  cases p.1 <;> rfl
theorem away_peer {b : List Ver} {p : Pr} (h : PeerOk b p) : PeerOk b (awayP p) := by
  have h1 := h.room
  have h2 := h.few
  unfold awayP
  cases p.1
  · exact ⟨h.book, ⟨by simp, by simp⟩, by simp, by simp, by simp⟩
  · exact ⟨h.book, ⟨by simp, by simp⟩, by simp only [if_true]; omega, h.each, h.rise⟩
theorem away_rest {b : List Ver} {ps : List Pr} (h : meshV (b, ps) = 0) (v : Int) : restE (b, ps.map awayP) v = restE (b, ps) v ∧ restB (b, ps.map awayP) v = restB (b, ps) v ∧ restW (b, ps.map awayP) v = restW (b, ps) v := by
  obtain ⟨h1, h2, h3⟩ := placeV_ok.1 h
  have h4 : meshV (b, ps.map awayP) = 0 := placeV_ok.2 ⟨h1, by simpa using h2, fun p hp => by
    obtain ⟨q, hq, rfl⟩ := List.mem_map.1 hp
    exact away_peer (h3 q hq)⟩
  have h5 : sharesM v (ps.map awayP) = sharesM v ps := sharesM_congr (by rw [List.map_map]; exact List.map_congr_left fun p _ => away_pick v p)
  have h6 : readyE (b, ps.map awayP) v = readyE (b, ps) v := by unfold readyE; rw [h, h4]
  unfold restE restB restW
  rw [h6]
  simp only [h5, and_self]
def awayL (ps : List Pr) (k : Nat) : List Pr := (ps.take k).map awayP ++ ps.drop k
theorem awayL_zero (ps : List Pr) : awayL ps 0 = ps := by simp [awayL]
theorem awayL_all (ps : List Pr) : awayL ps ps.length = ps.map awayP := by simp [awayL]
theorem awayL_len (ps : List Pr) (k : Nat) : (awayL ps k).length = ps.length := by simp [awayL]; omega
theorem awayL_get {ps : List Pr} {k : Nat} {p : Pr} (h : ps[k]? = some p) : (awayL ps k)[k]? = some p := by
  have hk := (List.getElem?_eq_some_iff.1 h).1
  unfold awayL
  rw [List.getElem?_append_right (by simp; omega), List.length_map, List.length_take, Nat.min_eq_left (by omega), Nat.sub_self, List.getElem?_drop]
  exact h
theorem awayL_step {ps : List Pr} {k : Nat} {p : Pr} (h : ps[k]? = some p) : (awayL ps k).set k (awayP p) = awayL ps (k + 1) := by
  have hk := (List.getElem?_eq_some_iff.1 h).1
  unfold awayL
  rw [List.set_append_right _ _ (by simp; omega), List.length_map, List.length_take, Nat.min_eq_left (by omega), Nat.sub_self, drop_get h, List.set_cons_zero, take_get h]
  simp
theorem RPeer.one : RPeer.One := by
  rintro w cs x ⟨v, rfl, h, _⟩ u hu
  obtain ⟨a, c, rfl, _⟩ := h.opened
  simp at hu
  rcases hu with rfl | rfl | rfl <;> rfl
theorem mesh_room {b : List Ver} {ps : List Pr} (h : meshV (b, ps) = 0) : ∀ p ∈ ps, 0 ≤ p.2.1 ∧ p.2.1 ≤ 20 := fun p hp => ((placeV_ok.1 h).2.2 p hp).room

/-- A peer of an own row, as it was read in one world. -/
theorem ownAt_peer {E : Nat → Prop} {w W : World} {e : TypeId} {base : Nat} {v : Value} {l : List Pr} (h : OwnRow 3 (RAt W RPeer) E w e base v l) {i : Nat} {x : Pr} (hx : l[i]? = some x) :
    ∃ g cap u cu, v = .slice (some ⟨g, 0, none⟩) l.length cap ∧ base ≤ g ∧ g < w.heap.size ∧ w.cell? ⟨g, i * 3, none⟩ = some (.bool x.1) ∧ w.cell? ⟨g, i * 3 + 1, none⟩ = some (.int .i64 x.2.1) ∧ w.cell? ⟨g, i * 3 + 2, none⟩ = some (.slice u x.2.2.length cu) ∧ I64 x.2.1 ∧ (∀ j, w.frozen? ⟨g, j, none⟩ = false) ∧
      OwnRow 3 (RAt W RPeer) E (w.setCell ⟨g, i * 3 + 2, none⟩ (.slice none 0 0)) e base v (l.set i (x.1, x.2.1, [])) ∧ ∀ r, I64 r → OwnRow 3 (RAt W RPeer) E (w.setCell ⟨g, i * 3 + 1, none⟩ (.int .i64 r)) e base v (l.set i (x.1, r, x.2.2)) := by
  obtain ⟨r, g, hg, hl, h1, hc, hf⟩ := h.get hx
  rcases h.shape with ⟨rfl, rfl⟩ | ⟨g', cap, cur, rfl, hb, hlt, _⟩
  · simp at hx
  · simp only [Value.ownBlock, Option.some.injEq] at hg
    subst hg
    obtain ⟨u, rfl, hu, hi⟩ := (hf.now : RPeer W r x)
    obtain ⟨a, c, rfl, _⟩ := hu.opened
    exact ⟨g', cap, a, c, rfl, hb, hlt, hc 0 _ rfl, hc 1 _ rfl, hc 2 _ rfl, hi, fun j => h.free rfl j, h.set (j := 2) hx rfl hl hc (by omega) rfl (fun _ _ => show RPeer W [.bool x.1, .int .i64 x.2.1, .slice none 0 0] (x.1, x.2.1, []) from ⟨_, rfl, IsRow.nil _, hi⟩), fun z hz => h.set (j := 1) hx rfl hl hc (by omega) rfl (fun _ _ => show RPeer W [.bool x.1, .int .i64 z, .slice a x.2.2.length c] (x.1, z, x.2.2) from ⟨_, rfl, hu, hz⟩)⟩

set_option linter.unusedSimpArgs false in
set_option maxRecDepth 100000 in
set_option maxHeartbeats 4000000 in
theorem MeshAway_walk (vm : Value) (m : Me) (vn : Value) (n : Int) (W : World) (hm : IsMesh W vm m) (hn : IsInt vn n) :
    Calls Try.prog 8 #[vm, vn] W fun e w' => e = .returned (.bool true) ∧ Below W.heap.size W w' := by
  obtain ⟨vb, u, rfl, hb, hu⟩ := hm
  obtain ⟨rfl, hni⟩ := hn
  obtain ⟨b, ps⟩ := m
  simp only at hb hu
  obtain ⟨a, c, rfl, hcb, ⟨hbm, hbc, _⟩, _⟩ := hb.opened
  obtain ⟨a', c', rfl, hcu, ⟨hum, huc, _⟩, _⟩ := hu.opened
  have S0 := (Since.refl W).alloc (.cells #[.slice a b.length c, .slice a' ps.length c'] 53)
  have hb0 := hb.stays RVer.stays S0.below
  have hu0 := hu.stays RPeer.stays S0.below
  have c0 : (W.alloc (.cells #[.slice a b.length c, .slice a' ps.length c'] 53)).cell? ⟨W.heap.size, 0, none⟩ = some (.slice a b.length c) := by go_simp
  have c1 : (W.alloc (.cells #[.slice a b.length c, .slice a' ps.length c'] 53)).cell? ⟨W.heap.size, 1, none⟩ = some (.slice a' ps.length c') := by go_simp
  clear hb hu
  go_enter Try.func8, Try.ntmps8
  go_upto_region 1 with fail
  generalize W.alloc (.cells #[.slice a b.length c, .slice a' ps.length c'] 53) = w0 at *
  obtain ⟨B, hB⟩ : ∃ B, B = W.heap.size := ⟨_, rfl⟩
  rw [← hB] at c0 c1 ⊢
  clear hB
  go_upto_region 2 with (go_at_call 29; go_fit (Restore_any _ b _ ps n w0 hb0 hu0); rintro e w1 ⟨⟨y1, y2, rfl, hi1, hi2⟩, hb1⟩; obtain ⟨aa, ca, rfl, _⟩ := hi1.opened; obtain ⟨ab, cb, rfl, _⟩ := hi2.opened)
  have S1 := S0.step hb1
  have d0 := below_cell hb1 c0
  have d1 := below_cell hb1 c1
  have HB1 := Lib.hid (hb0.stays RVer.stays hb1)
  have HU1 := Lib.hid (hu0.stays RPeer.stays hb1)
  clear c0 c1 hb1 hb0 hu0
  by_cases h0 : meshV (b, ps) = 0
  · have HR := Lib.hid (away_rest h0 n)
    have HM := Lib.hid (mesh_room h0)
    have hp8 : ps.length ≤ 8 := (placeV_ok.1 h0).2.1
    have HI1 := Lib.hid hi1
    have HI2 := Lib.hid hi2
    generalize restE (b, ps) n = E at *
    generalize restB (b, ps) n = D at *
    generalize restW (b, ps) n = Q at *
    clear hi1 hi2
    go_upto_region 4 with (first
      | (go_at_call 27; go_fit (woven_any w1); rintro e w2 ⟨rfl, hb2⟩; have e0 := below_cell hb2 d0; have e1 := below_cell hb2 d1; have k0 := HB1.out.stays RVer.stays hb2; have k1 := HU1.out.stays RPeer.stays hb2)
      | (go_at_call 28; go_fit (meshCheck_any _ b _ ps w2 k0 k1); rintro e w3 ⟨rfl, hb3⟩; rw [h0]))
    have S3 := (S1.step hb2).step hb3
    have HI1 := Lib.hid ((HI1.out.stays hb2).stays hb3)
    have HI2 := Lib.hid ((HI2.out.stays hb2).stays hb3)
    have HB3 := Lib.hid (k0.stays RVer.stays hb3)
    have HU3 := Lib.hid (k1.stays RPeer.stays hb3)
    have f0 := below_cell hb3 e0
    have f1 := below_cell hb3 e1
    clear d0 d1 e0 e1 k0 k1 hb2 hb3 h0 HB1 HU1
    have hl0 := cell_lt f0
    simp only at hl0
    have hBn : B ≠ w3.heap.size := by omega
    have HUA : Hid (IsRow 3 (RAt w3 RPeer) w3 (.slice a' ps.length c') ps) := Lib.hid HU3.out
    go_cut [8] (fun s8 wx => ∃ B8 aq cq, s8 = .pointer (some ⟨B8, 0, none⟩) ∧ Since w3.heap.size w3 wx ∧ wx.cell? ⟨B8, 0, none⟩ = some (.slice a b.length c) ∧ wx.cell? ⟨B8, 1, none⟩ = some (.slice aq ps.length cq) ∧ OwnRow 3 (RAt w3 RPeer) (fun _ => False) wx 61 w3.heap.size (.slice aq ps.length cq) ps ∧ (Value.slice aq ps.length cq).ownBlock ≠ some B8)
    case first =>
      have s3 : w3.drew.cell? ⟨B, 0, none⟩ = some (.slice a b.length c) ∧ w3.drew.cell? ⟨B, 1, none⟩ = some (.slice a' ps.length c') := ⟨f0, f1⟩
      have HU := Lib.hid (Since.refl w3).drew
      have q3 := (below_alloc w3.drew (.cells #[.slice none 0 0, .slice none 0 0] 53))
      clear f0 f1
      go_region_held3 (fun w' => w'.cell? ⟨B, 0, none⟩ = some (.slice a b.length c) ∧ w'.cell? ⟨B, 1, none⟩ = some (.slice a' ps.length c')) (first | exact s3 | exact ⟨alloc_cell s3.1 _, alloc_cell s3.2 _⟩ | exact s5 | exact ⟨alloc_cell s5.1 _, alloc_cell s5.2 _⟩ | exact ⟨((cell_set_other _ _ _ _ hBn).trans (cell_set_other _ _ _ _ hBn)).trans s5.1, ((cell_set_other _ _ _ _ hBn).trans (cell_set_other _ _ _ _ hBn)).trans s5.2⟩) (first
        | (go_simp; go_at_call 31; refine (ClonePeersR_any RAt.stays (RAt.one RPeer.one) _ ps w3 w3.drew (Dirty.old HU.out.below _) HUA.out (by omega)).mono ?_; rintro e w5 ⟨⟨v5, rfl, ho5⟩, hb5⟩; obtain ⟨a5, c5, rfl, _⟩ := ho5.isRow.opened; have q5 := HU.out.step hb5; have s5 : w5.cell? ⟨B, 0, none⟩ = some (.slice a b.length c) ∧ w5.cell? ⟨B, 1, none⟩ = some (.slice a' ps.length c') := ⟨below_cell hb5 s3.1, below_cell hb5 s3.2⟩)
        | (go_simp; go_at_call 31; refine (ClonePeersR_any RAt.stays (RAt.one RPeer.one) _ ps w3 (w3.drew.alloc (.cells #[.slice none 0 0, .slice none 0 0] 53)) (Dirty.old (HU.out.alloc _).below _) HUA.out (by omega)).mono ?_; rintro e w5 ⟨⟨v5, rfl, ho5⟩, hb5⟩; obtain ⟨a5, c5, rfl, _⟩ := ho5.isRow.opened; have q5 := (HU.out.alloc (.cells #[.slice none 0 0, .slice none 0 0] 53)).step hb5; have s5 : w5.cell? ⟨B, 0, none⟩ = some (.slice a b.length c) ∧ w5.cell? ⟨B, 1, none⟩ = some (.slice a' ps.length c') := ⟨below_cell hb5 (alloc_cell s3.1 _), below_cell hb5 (alloc_cell s3.2 _)⟩; have z0 := below_cell hb5 (show (w3.drew.alloc (.cells #[.slice none 0 0, .slice none 0 0] 53)).cell? ⟨w3.heap.size, 0, none⟩ = some (.slice none 0 0) by go_simp); have z1 := below_cell hb5 (show (w3.drew.alloc (.cells #[.slice none 0 0, .slice none 0 0] 53)).cell? ⟨w3.heap.size, 1, none⟩ = some (.slice none 0 0) by go_simp); have y0 := below_free hb5 (show (w3.drew.alloc (.cells #[.slice none 0 0, .slice none 0 0] 53)).cell? ⟨w3.heap.size, 0, none⟩ = some (.slice none 0 0) by go_simp) (by go_simp); have y1 := below_free hb5 (show (w3.drew.alloc (.cells #[.slice none 0 0, .slice none 0 0] 53)).cell? ⟨w3.heap.size, 1, none⟩ = some (.slice none 0 0) by go_simp) (by go_simp)))
      all_goals
        go_wp2_with fail
        go_meet
        first
          | (exact ⟨_, _, _, rfl, q5.alloc _, by go_simp, by go_simp, (OwnRow.anyE (ho5.mono (Nat.le_refl _))).stays (below_alloc _ _), fun e => by have := (ho5.lt _ e).2; omega⟩)
          | (exact ⟨_, _, _, rfl, (q5.setCell (a := ⟨w3.heap.size, 0, none⟩) (Nat.le_refl _) _).setCell (a := ⟨w3.heap.size, 1, none⟩) (Nat.le_refl _) _, by go_simp, by go_simp, (OwnRow.anyE (E' := fun k => k = w3.heap.size) (ho5.mono (by simp))).later ((Dirty.of_grown ((grown_setCell w5 ⟨w3.heap.size, 0, none⟩ _).trans (grown_setCell _ ⟨w3.heap.size, 1, none⟩ _))).mono fun k _ hk => by cases hk; rfl) (fun k hk e => by have := (ho5.lt _ hk).1; simp at this; omega) |> OwnRow.anyE, fun e => absurd (ho5.lt _ e).1 (by simp)⟩)
    case rest =>
      obtain ⟨B8, aq, cq, rfl, S8, x0, x1, ho, hoff⟩ := hcut
      have hcq : ps.length ≤ cq := by obtain ⟨_, _, e, h, _⟩ := ho.isRow.opened; simp only [Value.slice.injEq, true_and] at e; omega
      have hcq2 : cq ≤ 9223372036854775807 := by obtain ⟨_, _, e, _, ⟨_, h, _⟩, _⟩ := ho.isRow.opened; simp only [Value.slice.injEq, true_and] at e; omega
      clear f0 f1
      go_wp2_with fail
      have HX : Hid (∀ w', Since w3.heap.size w3 w' → IsVers w' (.slice a b.length c) b) := Lib.hid (fun w' q => HB3.out.stays RVer.stays q.below)
      have hB8 := cell_lt x0
      simp only at hB8
      go_loopw [38] (fun i wr => ∃ k : Nat, k ≤ ps.length ∧ i = .int .i64 k ∧ Since w3.heap.size w3 wr ∧ wr.cell? ⟨B8, 0, none⟩ = some (.slice a b.length c) ∧ wr.cell? ⟨B8, 1, none⟩ = some (.slice aq ps.length cq) ∧ OwnRow 3 (RAt w3 RPeer) (fun _ => False) wr 61 w3.heap.size (.slice aq ps.length cq) (awayL ps k)) (fun i _ => ps.length - (intOf i).toNat)
      case atStart => exact ⟨0, by omega, rfl, S8, x0, x1, by rw [awayL_zero]; exact ho⟩
      case round =>
        obtain ⟨k, hk, rfl, hS, z0, z1, ho2⟩ := hrel
        clear x0 x1 ho S8
        by_cases hlt : k < ps.length
        · have hget := List.getElem?_eq_getElem hlt
          obtain ⟨g, cg, u, cu, ev, hg1, hg2, k0, k1, k2, hi, fz, hnil, hroom⟩ := ownAt_peer ho2 (awayL_get hget)
          simp only [Value.slice.injEq] at ev
          obtain ⟨rfl, hq9, rfl⟩ := ev
          clear hq9
          have hB8g : B8 ≠ g := fun e => hoff (by rw [e]; rfl)
          have HST := Lib.hid (awayL_step hget)
          have hr := HM.out _ (List.getElem_mem hlt)
          generalize ps[k] = p at *
          obtain ⟨t, r, ks⟩ := p
          simp only at k0 k1 k2 hi hr hnil hroom
          have BB := below_alloc wr (.cells #[.bool t, .int .i64 r, .slice u ks.length cu] 61)
          have S1 := hS.alloc (.cells #[.bool t, .int .i64 r, .slice u ks.length cu] 61)
          have p0 : (wr.alloc (.cells #[.bool t, .int .i64 r, .slice u ks.length cu] 61)).cell? ⟨wr.heap.size, 0, none⟩ = some (.bool t) := by go_simp
          have p1 : (wr.alloc (.cells #[.bool t, .int .i64 r, .slice u ks.length cu] 61)).cell? ⟨wr.heap.size, 1, none⟩ = some (.int .i64 r) := by go_simp
          have ho3 := ho2.stays BB
          have z0 := below_cell BB z0
          have z1 := below_cell BB z1
          obtain ⟨g2, cg2, u2, cu2, ev, _, _, q0, q1, q2, _, fz, hnil, hroom⟩ := ownAt_peer ho3 (awayL_get hget)
          simp only [Value.slice.injEq, Option.some.injEq, Addr.mk.injEq, and_true, true_and] at ev
          obtain ⟨rfl, hq9, rfl⟩ := ev
          clear hq9
          simp only at q0 q1 q2 hnil hroom
          go_upto_region 8 with fail
          clear k0 k1 k2 ho2 ho3
          generalize wr.alloc (.cells #[.bool t, .int .i64 r, .slice u ks.length cu] 61) = wa at *
          obtain ⟨Bp, hBp⟩ : ∃ Bp, Bp = wr.heap.size := ⟨_, rfl⟩
          rw [← hBp] at p0 p1 hg2 ⊢
          have hBpg : Bp ≠ g := by omega
          clear hBp
          have hmx : max r 20 = 20 := by omega
          cases t with
          | true =>
            have f1 := fz (k * 3 + 1)
            have x0 : (wa.setCell ⟨g, k * 3 + 1, none⟩ (.int .i64 20)).cell? ⟨B8, 0, none⟩ = some (.slice a b.length c) := (cell_set_other _ _ _ _ hB8g).trans z0
            have x1 : (wa.setCell ⟨g, k * 3 + 1, none⟩ (.int .i64 20)).cell? ⟨B8, 1, none⟩ = some (.slice (some ⟨g, 0, none⟩) ps.length cq) := (cell_set_other _ _ _ _ hB8g).trans z1
            have S2 := S1.setCell (a := ⟨g, k * 3 + 1, none⟩) hg1 (.int .i64 20)
            have HO := Lib.hid (hroom 20 ⟨by decide, by decide⟩)
            rw [show ((true, (20 : Int), ks) : Pr) = awayP (true, r, ks) from rfl, HST.out] at HO
            clear fz hnil hroom
            go_wp2_with fail
            clear f1 z0 z1 q0 q1 q2
            go_roundw
            case rel => exact ⟨k + 1, by omega, by go_num, S2, x0, x1, HO.out⟩
            case measure => simp [intOf]; omega
          | false =>
            have f2 := fz (k * 3 + 2)
            have x0 : (wa.setCell ⟨g, k * 3 + 2, none⟩ (.slice none 0 0)).cell? ⟨B8, 0, none⟩ = some (.slice a b.length c) := (cell_set_other _ _ _ _ hB8g).trans z0
            have x1 : (wa.setCell ⟨g, k * 3 + 2, none⟩ (.slice none 0 0)).cell? ⟨B8, 1, none⟩ = some (.slice (some ⟨g, 0, none⟩) ps.length cq) := (cell_set_other _ _ _ _ hB8g).trans z1
            have x2 : (wa.setCell ⟨g, k * 3 + 2, none⟩ (.slice none 0 0)).cell? ⟨Bp, 1, none⟩ = some (.int .i64 r) := (cell_set_other _ _ _ _ hBpg).trans p1
            have S2 := S1.setCell (a := ⟨g, k * 3 + 2, none⟩) hg1 (.slice none 0 0)
            have hkl : k < (awayL ps k).length := by rw [awayL_len]; exact hlt
            obtain ⟨g2, cg2, u2, cu2, ev, _, _, _, r1, _, _, fz2, _, hroom2⟩ := ownAt_peer hnil (by rw [List.getElem?_set, if_pos rfl, if_pos hkl])
            simp only [Value.slice.injEq, Option.some.injEq, Addr.mk.injEq, and_true, true_and] at ev
            obtain ⟨rfl, hq9, rfl⟩ := ev
            clear hq9
            simp only at r1
            have HO := Lib.hid (hroom2 20 ⟨by decide, by decide⟩)
            rw [List.set_set, show ((false, (20 : Int), []) : Pr) = awayP (false, r, ks) from rfl, HST.out] at HO
            have f1 := fz2 (k * 3 + 1)
            clear fz hnil hroom hroom2 fz2
            go_upto_region 10 with fail
            clear f2 z0 z1 q0 q1 q2 p0 p1
            generalize wa.setCell ⟨g, k * 3 + 2, none⟩ (.slice none 0 0) = wb at *
            have x3 : (wb.setCell ⟨g, k * 3 + 1, none⟩ (.int .i64 20)).cell? ⟨B8, 0, none⟩ = some (.slice a b.length c) := (cell_set_other _ _ _ _ hB8g).trans x0
            have x4 : (wb.setCell ⟨g, k * 3 + 1, none⟩ (.int .i64 20)).cell? ⟨B8, 1, none⟩ = some (.slice (some ⟨g, 0, none⟩) ps.length cq) := (cell_set_other _ _ _ _ hB8g).trans x1
            have S3 := S2.setCell (a := ⟨g, k * 3 + 1, none⟩) hg1 (.int .i64 20)
            go_wp2_with fail
            clear f1 x0 x1 x2 r1
            go_roundw
            case rel => exact ⟨k + 1, by omega, by go_num, S3, x3, x4, HO.out⟩
            case measure => simp [intOf]; omega
        · obtain rfl : ps.length = k := by omega
          rw [awayL_all] at ho2
          have hup : IsPeers wr (.slice aq ps.length cq) (ps.map awayP) := ho2.isRow.ofAt RPeer.stays (Dirty.old hS.below _)
          have hbv := HX.out wr hS
          have HI1 := Lib.hid (HI1.out.stays hS.below)
          have HI2 := Lib.hid (HI2.out.stays hS.below)
          have HSW := Lib.hid (S3.step hS.below)
          have hE : (E == E) = true := by simp
          have HD : Hid (eqInts D D = true) := Lib.hid (by simp [eqInts])
          have HQ : Hid (eqInts Q Q = true) := Lib.hid (by simp [eqInts])
          have HR1 := Lib.hid HR.out.1
          have HR2 := Lib.hid HR.out.2.1
          have HR3 := Lib.hid HR.out.2.2
          clear hlt hk ho2 S3
          go_upto_region 13 with (go_at_call 29; go_fit (Restore_any _ b _ (ps.map awayP) n wr hbv hup); rintro e w5 ⟨⟨y3, y4, rfl, hi3, hi4⟩, hb5⟩; rw [HR1.out]; rw [HR2.out] at hi3; rw [HR3.out] at hi4; obtain ⟨ac, cc, rfl, _⟩ := hi3.opened; obtain ⟨ad, cd, rfl, _⟩ := hi4.opened)
          have S5 := HSW.out.step hb5
          have g1 := HI1.out.stays hb5
          have g2 := HI2.out.stays hb5
          clear z0 z1 hb5
          go_wp2_with fail
          refine (Equal_ints _ _ D D _ g1 hi3).mono ?_
          rintro e w6 ⟨rfl, hb6⟩
          rw [HD.out]
          have S6 := S5.step hb6
          have g3 := g2.stays hb6
          have g4 := hi4.stays hb6
          clear g1 g2 hi3 hi4 hb6
          go_wp2_with fail
          refine (Equal_ints _ _ Q Q _ g3 g4).mono ?_
          rintro e w7 ⟨rfl, hb7⟩
          rw [HQ.out]
          have S7 := S6.step hb7
          go_wp2_with fail
          go_ret
          exact ⟨rfl, S7.below⟩
  · clear hi1 hi2
    go_wp2_with (first
      | (go_at_call 27; go_fit (woven_any w1); rintro e w2 ⟨rfl, hb2⟩; have e0 := below_cell hb2 d0; have e1 := below_cell hb2 d1; have k0 := HB1.out.stays RVer.stays hb2; have k1 := HU1.out.stays RPeer.stays hb2)
      | (go_at_call 28; go_fit (meshCheck_any _ b _ ps w2 k0 k1); rintro e w3 ⟨rfl, hb3⟩)
      | (go_at_call 27; go_fit (woven_any w3); rintro e w4 ⟨rfl, hb4⟩))
    go_ret
    exact ⟨rfl, (((S1.step hb2).step hb3).step hb4).below⟩
end Go.Proofs.Ytnpdojjffbhalaa
