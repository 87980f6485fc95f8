/-
  The walk of CurveFlat.
-/
import Derived.Test.YtbodfbpikpkkbaaCurve2
namespace Go.Proofs.Ytbodfbpikpkkbaa
open Go.RowKit

set_option maxRecDepth 100000 in
set_option maxHeartbeats 2000000 in
theorem CurveFlat_walk (v0 : Value) (x : List Int) (v1 : Value) (x1 : Int) (v2 : Value) (x2 : Int) (v3 : Value) (x3 : Int) (W : World) (hx : IsInts W v0 x) (w1 : IsInt v1 x1) (w2 : IsInt v2 x2) (w3 : IsInt v3 x3) :
    Calls Try.prog 7 #[v0, v1, v2, v3] W fun e w' => e = .returned (.bool true) ∧ Below W.heap.size W w' := by
  obtain ⟨rfl, i1, j1⟩ := w1
  obtain ⟨rfl, i2, j2⟩ := w2
  obtain ⟨rfl, i3, j3⟩ := w3
  have hx0 := hx
  obtain ⟨ax, cx, rfl, hcx, ⟨hm1, hm2, hm3⟩, hx⟩ := hx.opened
  have ha := modV_bd x1 (n := 31) (by omega)
  have hb := modV_bd x2 (n := 31) (by omega)
  have hp := modV_bd x3 (n := 31) (by omega)
  go_enter Try.func7, Try.ntmps7
  go_wp2_with fail
  refine (at_any _ _ _ (by omega) (by omega) (by omega) (by omega)).mono ?_
  rintro e w' ⟨rfl, rfl⟩
  go_wp2_with fail
  refine (at_any _ _ _ (by omega) (by omega) (by omega) (by omega)).mono ?_
  rintro e w' ⟨rfl, rfl⟩
  go_wp2_with fail
  refine (at_any _ _ _ (by omega) (by omega) (by omega) (by omega)).mono ?_
  rintro e w' ⟨rfl, rfl⟩
  generalize modV x1 31 = a at *
  generalize modV x2 31 = b at *
  generalize modV x3 31 = p at *
  obtain ⟨a0, a1⟩ := ha
  obtain ⟨bb0, bb1⟩ := hb
  obtain ⟨p0, p1⟩ := hp
  clear i1 i2 i3 j1 j2 j3 hm3
  go_wp2_with (first | (at_make; refine wpList_make_ints rfl (.tmp 24) (.tmp 24) 24 rfl 3 Try.underlying24 info_int W.heap.size _ x.length rfl rfl rfl hm1 (Nat.le_refl _) ?_; intro w1 ho1 hg1; have hs1 := hg1.size; have hb1 : Below W.heap.size W w1 := (Below.refl _ _).grown hg1 (Nat.le_refl _) (fun k hk => by cases hk)) | (at_make; refine wpList_make_ints rfl (.tmp 27) (.tmp 27) 24 rfl 3 Try.underlying24 info_int W.heap.size _ x.length rfl rfl rfl hm1 hs1 ?_; intro w2 ho2 hg2))
  have hs2 := hg2.size
  have hb2 : Below W.heap.size W w2 := hb1.grown hg2 hs1 (fun k hk => by cases hk)
  have ho1' := ho1.kept hg2 (by simp [Value.ownBlock])
  have hlt1 : W.heap.size < w1.heap.size := ((ho1.1.lt _ rfl)).2
  have hlt2 : w1.heap.size < w2.heap.size := ((ho2.1.lt _ rfl)).2
  generalize hg1e : W.heap.size = g1 at *
  have HG1 := Lib.hid hg1e
  clear hg1e
  generalize hg2e : w1.heap.size = g2 at *
  clear hg2e hg1 hg2 hb1 ho1
  go_loopw [31] (fun i wr => ∃ k : Nat, k ≤ x.length ∧ i = .int .i64 k ∧ Below g1 W wr ∧ OwnInts wr 3 g1 (.slice (some ⟨g1, 0, none⟩) x.length x.length) ((x.take k).map (fun _ => a) ++ List.replicate (x.length - k) 0) ∧
    OwnInts wr 3 g1 (.slice (some ⟨g2, 0, none⟩) x.length x.length) ((x.take k).map (lineV a b) ++ List.replicate (x.length - k) 0)) (fun i _ => x.length - (intOf i).toNat)
  case atStart => exact ⟨0, by omega, rfl, hb2, by simpa using ho1', by simpa using ho2⟩
  case round =>
    obtain ⟨k, hk, rfl, hb, hf, hl⟩ := hrel
    by_cases hlt : k < x.length
    · obtain ⟨b1, o1, z1, rfl, hc1, hz1, hi1⟩ := (hx.stays (by rw [HG1.out]; exact hb)) k hlt
      have HT : Hid (x.take (k + 1) = x.take k ++ [z1]) := Lib.hid (take_get hz1)
      clear hz1
      have hz := modV_bd z1 (n := 31) (by omega)
      obtain ⟨hz0, hz3⟩ := hz
      have hmb := mul_bd bb0 bb1 hz0 hz3
      obtain ⟨mb0, mb1⟩ := hmb
      obtain ⟨hi0, hi1'⟩ := hi1
      have hf1 := hf.free k
      have hl1 := hl.free k
      have hcf := hf.cell k (by simp; omega)
      have hcl := hl.cell k (by simp; omega)
      obtain ⟨q1, hq1⟩ : ∃ q, q = (((x.take k).map (fun _ => a) ++ List.replicate (x.length - k) 0)).getD k 0 := ⟨_, rfl⟩
      obtain ⟨q2, hq2⟩ : ∃ q, q = (((x.take k).map (lineV a b) ++ List.replicate (x.length - k) 0)).getD k 0 := ⟨_, rfl⟩
      rw [← hq1] at hcf
      rw [← hq2] at hcl
      clear hq1 hq2
      have hgg : ¬ g1 = g2 := by omega
      go_wp2_with (go_at_call 23; refine (at_any _ _ _ (by omega) (by omega) (by omega) (by omega)).mono ?_; rintro e w' ⟨rfl, rfl⟩)
      go_roundw
      case rel =>
        refine ⟨k + 1, by omega, by go_num, (hb.setCell (by show g1 ≤ g1; exact Nat.le_refl _) _).setCell (by show g1 ≤ g2; omega) _, ?_, ?_⟩
        · rw [← fill_step HT.out hlt]
          exact (hf.stored k a ⟨by omega, by omega⟩).kept (grown_setCell _ _ _) (by simp [Value.ownBlock, hgg])
        · rw [← fill_step HT.out hlt]
          exact (hl.kept (grown_setCell _ _ _) (by simp [Value.ownBlock]; omega)).stored k (lineV a b z1) ⟨by unfold lineV; omega, by unfold lineV; omega⟩
      case measure => simp [intOf]; omega
    · obtain rfl : k = x.length := by omega
      rw [List.take_length, Nat.sub_self, List.replicate_zero, List.append_nil] at hf hl
      have HF := hf.isInts
      have HL := hl.isInts
      have hxw := hx0.stays (by rw [HG1.out]; exact hb)
      have hS : Since g1 W wr := ⟨hb, Nat.le_of_lt (hf.1.lt _ rfl).2⟩
      clear hf hl hk hlt hx0 hx ho1' ho2 hb2 hb
      by_cases hok : ptsV x (x.map fun _ => a) = 0
      · have HK := Lib.hid hok
        have hP := ptsV_ok.1 hok
        have HK2 := Lib.hid (ptsV_ok.2 (hP.other (z := x.map (lineV a b)) (by simp) (by intro z hz; obtain ⟨c, _, rfl⟩ := List.mem_map.1 hz; unfold lineV; omega)))
        have HV := Lib.hid (atV_flat hP a0 a1 p)
        have HV2 : Hid (2 ≤ x.length → atV x (x.map (lineV a b)) p = (a + b * p) % 31) := Lib.hid (fun h => atV_line hP h p)
        have hpos := hP.pos
        have hmb := mul_bd bb0 bb1 p0 p1
        obtain ⟨mb0, mb1⟩ := hmb
        clear hok hP
        go_wp2_with fail
        refine (curved_any _).mono ?_
        rintro e w3 ⟨rfl, hb3⟩
        have hc3 := hS.step hb3
        have HF3 := HF.stays hb3
        have HL3 := HL.stays hb3
        have hx3 := hxw.stays hb3
        clear hS hb3 HF HL hxw
        go_wp2_with fail
        refine (ptsCheck_any _ _ x (x.map fun _ => a) _ hx3 HF3).mono ?_
        rintro e w4 ⟨rfl, hb4⟩
        rw [HK.out]
        have hc4 := hc3.step hb4
        have HF4 := HF3.stays hb4
        have HL4 := HL3.stays hb4
        have hx4 := hx3.stays hb4
        clear hc3 hb4 HF3 HL3 hx3
        go_wp2_with fail
        refine (At_ok _ _ x (x.map fun _ => a) p _ hx4 HF4 HK.out p0 p1).mono ?_
        rintro e w5 ⟨rfl, hb5⟩
        rw [HV.out]
        have hc5 := hc4.step hb5
        have HL5 := HL4.stays hb5
        have hx5 := hx4.stays hb5
        clear hc4 hb5 HF4 HL4 hx4
        go_wp2_with fail
        refine (At_ok _ _ x (x.map (lineV a b)) p _ hx5 HL5 HK2.out p0 p1).mono ?_
        rintro e w6 ⟨rfl, hb6⟩
        have hc6 := hc5.step hb6
        clear hc5 hb6 HL5 hx5
        have haa : (a == a) = true := by simp
        by_cases h1 : x.length = 1
        · have hlen : ((x.length : Int) == 1) = true := by rw [h1]; rfl
          clear h1
          go_wp2_with fail
          go_ret
          exact ⟨rfl, by rw [HG1.out]; exact hc6.below⟩
        · have hlen : ((x.length : Int) == 1) = false := by simp; omega
          rw [HV2.out (by omega)]
          have hvv : ((a + b * p) % 31 == (a + b * p) % 31) = true := by simp
          go_wp2_with fail
          go_ret
          exact ⟨rfl, by rw [HG1.out]; exact hc6.below⟩
      · have hne : (ptsV x (x.map fun _ => a) != 0) = true := by simpa using hok
        clear hok
        go_wp2_with fail
        refine (curved_any _).mono ?_
        rintro e w3 ⟨rfl, hb3⟩
        have hc3 := hS.step hb3
        have HF3 := HF.stays hb3
        have hx3 := hxw.stays hb3
        clear hS hb3 HF HL hxw
        go_wp2_with fail
        refine (ptsCheck_any _ _ x (x.map fun _ => a) _ hx3 HF3).mono ?_
        rintro e w4 ⟨rfl, hb4⟩
        have hc4 := hc3.step hb4
        clear hc3 hb4 HF3 hx3
        go_wp2_with fail
        refine (curved_any _).mono ?_
        rintro e w5 ⟨rfl, hb5⟩
        have hc5 := hc4.step hb5
        clear hc4 hb5
        go_wp2_with fail
        go_ret
        exact ⟨rfl, by rw [HG1.out]; exact hc5.below⟩

end Go.Proofs.Ytbodfbpikpkkbaa
