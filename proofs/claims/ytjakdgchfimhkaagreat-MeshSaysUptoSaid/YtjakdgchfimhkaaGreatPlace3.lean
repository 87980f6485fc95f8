/-
  The walk of place.For.
-/
import Derived.Test.YtjakdgchfimhkaaGreatCopies
namespace Go.Proofs.YtjakdgchfimhkaaGreat
open Go.RowKit

theorem ret_vE {v : Value} {a b : Int} (h : a = b) : Ending.returned (.tuple #[v, .int .i64 a]) = .returned (.tuple #[v, .int .i64 b]) := by rw [h]

theorem hS5' {g : Nat} {W w w' : World} (h : Since g W w) (hb : Below w.heap.size w w') : g ≤ w'.heap.size := (h.step hb).2

theorem nil_lies {n c k : Nat} (h : Value.lies (.slice none n c) k) {P : Prop} : P := by obtain ⟨_, _, _, e, _⟩ := h; cases e
set_option maxRecDepth 100000 in
set_option maxHeartbeats 2000000 in
theorem For_lies (vb : Value) (b : List Ver) (u : Value) (l : List Pr) (v many : Int) (W : World) (hb : IsVers W vb b) (hu : IsPeers W u l) :
    Calls Tryz.prog 62 #[.agg #[vb], u, .int .i64 v, .int .i64 many] W fun e w' => (∃ v', e = .returned (.tuple #[v', .int .i64 (forE b l v many)]) ∧ IsInts w' v' (forC b l v many) ∧ ∀ k, Value.lies v' k → W.heap.size ≤ k) ∧ Below W.heap.size W w' := by
  obtain ⟨ab, cb, rfl, hcb, ⟨hbm, hbc, _⟩, _⟩ := hb.opened
  obtain ⟨al, cl, rfl, hcl, ⟨hlm, hlc, _⟩, _⟩ := hu.opened
  have S0 := ((Since.refl W).alloc (.cells #[.slice ab b.length cb] 24)).alloc (.cells #[.slice al l.length cl] 25)
  have hb0 := hb.stays RVer.stays S0.below
  have hu0 := hu.stays RPeer.stays S0.below
  have c1 : ((W.alloc (.cells #[.slice ab b.length cb] 24)).alloc (.cells #[.slice al l.length cl] 25)).cell? ⟨W.heap.size + 1, 0, none⟩ = some (.slice al l.length cl) := by go_simp
  clear hb hu
  go_enter Tryz.func62, Tryz.ntmps62
  go_wp2_with fail
  generalize (W.alloc (.cells #[.slice ab b.length cb] 24)).alloc (.cells #[.slice al l.length cl] 25) = w0 at *
  obtain ⟨B, hB⟩ : ∃ B, B = W.heap.size + 1 := ⟨_, rfl⟩
  rw [← hB] at c1 ⊢
  have HB := Lib.hid hB
  clear hB
  refine (placeCheck_any _ b _ l _ hb0 hu0).mono ?_
  rintro e w1 ⟨rfl, hb1⟩
  have T1 := (Since.refl w0).step hb1
  have HVK := Lib.hid (hu0.stays RPeer.stays hb1)
  have d1 := below_cell hb1 c1
  clear c1 hb1 hb0 hu0
  by_cases h0 : placeV b l = 0
  · have hok := placeV_ok.1 h0
    have HROOM := Lib.hid (fun p hp => peer_left (hok.2.2 p hp))
    have hl8 := hok.2.1
    have H0 := Lib.hid h0
    rw [h0]
    clear h0 hok
    by_cases hr : many < 0 ∨ 8 < many
    · have H := Lib.hid (forE_range (v := v) H0.out hr)
      obtain ⟨T, hT⟩ : ∃ T : Bool, T = decide (many < 0) := ⟨_, rfl⟩
      cases T with
      | true =>
        have hm : many < 0 := by simpa using hT.symm
        clear hT hr
        go_wp2_with (go_quiet (fail))
        go_ret2
        exact ⟨⟨_, ret_vE H.out.symm, by rw [forC_no (by rw [H.out]; simp)]; exact IsInts.nil _, fun _ h => nil_lies h⟩, (S0.step ((T1.step (Below.refl _ _)).below)).below⟩
      | false =>
        have hm : ¬ many < 0 := by simpa using hT.symm
        have hm2 : 8 < many := by omega
        clear hT hr
        go_wp2_with (go_quiet (fail))
        go_ret2
        exact ⟨⟨_, ret_vE H.out.symm, by rw [forC_no (by rw [H.out]; simp)]; exact IsInts.nil _, fun _ h => nil_lies h⟩, (S0.step ((T1.step (Below.refl _ _)).below)).below⟩
    · have HR := Lib.hid hr
      have hm1 : ¬ many < 0 := by omega
      have hm2 : ¬ 8 < many := by omega
      clear hr
      have HS : Hid (∀ w', Since w1.heap.size w1 w' → w'.cell? ⟨B, 0, none⟩ = some (.slice al l.length cl)) := Lib.hid (fun w' q => below_cell q.below d1)
      go_wp2_with (go_quiet (fail))
      go_loopw [28, 11] (fun i o wr => ∃ k : Nat, k ≤ l.length ∧ i = .int .i64 k ∧ Since w1.heap.size w1 wr ∧ OwnInts wr 3 w1.heap.size o (candL v l k)) (fun i _ _ => l.length - (intOf i).toNat)
      case atStart => exact ⟨0, by omega, rfl, Since.refl w1, by simpa [candL, numsL] using OwnInts.nil _ _ _⟩
      case round =>
        obtain ⟨k, hk, rfl, hS, ho⟩ := hrel
        clear d1
        by_cases hlt : k < l.length
        · have hget := List.getElem?_eq_getElem hlt
          obtain ⟨g, off, u, cu, rfl, k0, k1, k2, hp, i1⟩ := peer_at (HVK.out.later RPeer.stays (Dirty.old hS.below _)) hget
          have HCS := Lib.hid (candL_step v l hget)
          have hol := candL_len v l k
          have ik : I64 (k : Int) := ⟨by omega, by omega⟩
          generalize l[k] = p at *
          obtain ⟨t, r, ks⟩ := p
          simp only at k0 k1 k2 hp i1
          have S1 := hS.alloc (.cells #[.bool t, .int .i64 r, .slice u ks.length cu] 45)
          have S1' := (Since.refl wr).alloc (.cells #[.bool t, .int .i64 r, .slice u ks.length cu] 45)
          have ho1 := ho.stays S1'.below
          have HPI := Lib.hid (hp.stays RKept.stays S1'.below)
          clear hp S1' hget
          by_cases hyes : t = true ∧ (ks.length : Int) < r
          · obtain ⟨rfl, hroom⟩ := hyes
            go_upto_region 10 with fail
            have f0 : (wr.alloc (.cells #[.bool true, .int .i64 r, .slice u ks.length cu] 45)).cell? ⟨wr.heap.size, 0, none⟩ = some (.bool true) := by go_simp
            have f1 : (wr.alloc (.cells #[.bool true, .int .i64 r, .slice u ks.length cu] 45)).cell? ⟨wr.heap.size, 1, none⟩ = some (.int .i64 r) := by go_simp
            have f2 : (wr.alloc (.cells #[.bool true, .int .i64 r, .slice u ks.length cu] 45)).cell? ⟨wr.heap.size, 2, none⟩ = some (.slice u ks.length cu) := by go_simp
            obtain ⟨Bk, hBk⟩ : ∃ Bk, Bk = wr.heap.size := ⟨_, rfl⟩
            rw [← hBk] at f0 f1 f2 ⊢
            have HO1 := Lib.hid ho1
            clear hBk k0 k1 k2 hS ho ho1
            generalize wr.alloc (.cells #[.bool true, .int .i64 r, .slice u ks.length cu] 45) = w2 at *
            have HCV := Lib.hid (show canV v (true, r, ks) = decide (findV v ks 0 < 0) by simp [canV, hroom])
            have q2 := Since.refl w2
            by_cases hf : findV v ks 0 < 0
            · go_wp2_with (first
                | (go_at_call 23; refine (Find_any _ _ _ ks v _ (HPI.out.stays RKept.stays (Below.refl _ _))).mono ?_; rintro e w5 ⟨rfl, hb5⟩; have hgs := hS5' S1 hb5; have ho5 := (HO1.out.stays hb5).stays (below_alloc w5 (.cells #[.int .i64 (k : Int)] 3)))
                | (at_builtin; refine wpList_append_int rfl _ _ 28 rfl 3 Tryz.underlying28 info_int w1.heap.size _ _ rfl ho5 ⟨w5.heap.size, 0, none⟩ 1 (k : Int) rfl (by simp) ik (by omega) (by simp; omega) ?_; intro v' w6 ho6 hg6))
              have S6 := ((S1.step hb5).alloc (.cells #[.int .i64 (k : Int)] 3)).own ho5 hg6
              have HO6 := Lib.hid ho6
              clear ho6 hg6 ho5 hb5
              go_roundw
              case rel => exact ⟨k + 1, by omega, by go_num, S6, by rw [HCS.out, HCV.out]; simpa [hf] using HO6.out⟩
              case measure => simp [intOf]; omega
            · have HNF := Lib.hid (show canV v (true, r, ks) = false by rw [HCV.out]; exact decide_eq_false hf)
              go_wp2_with (go_at_call 23; refine (Find_any _ _ _ ks v _ (HPI.out.stays RKept.stays (Below.refl _ _))).mono ?_; rintro e w5 ⟨rfl, hb5⟩)
              have S5 := S1.step hb5
              have HO5 := Lib.hid (HO1.out.stays hb5)
              clear hb5
              go_roundw
              case rel => exact ⟨k + 1, by omega, by go_num, S5, by rw [HCS.out, HNF.out]; simpa using HO5.out⟩
              case measure => simp [intOf]; omega
          · have HNO := Lib.hid (show canV v (t, r, ks) = false by simp only [canV, Bool.and_eq_false_iff, decide_eq_false_iff_not]; cases t <;> simp_all)
            cases t with
            | false => 
              go_wp2_with (go_quiet (fail))
              go_roundw
              case rel => exact ⟨k + 1, by omega, by go_num, S1, by rw [HCS.out, HNO.out]; simpa using ho1⟩
              case measure => simp [intOf]; omega
            | true =>
              have hroom : ¬ (ks.length : Int) < r := fun h => hyes ⟨rfl, h⟩
              clear hyes
              go_wp2_with (go_quiet (fail))
              go_roundw
              case rel => exact ⟨k + 1, by omega, by go_num, S1, by rw [HCS.out, HNO.out]; simpa using ho1⟩
              case measure => simp [intOf]; omega
        · obtain rfl : l.length = k := by omega
          have hcl := candL_len v l l.length
          obtain ⟨a', c', rfl, hcap, ⟨_, hcc, _⟩, _⟩ := ho.isInts.opened
          have d1 := HS.out wr hS
          have HE := Lib.hid (places_len v l)
          have hsort : Calls Tryz.prog 100 #[.slice a' (candL v l l.length).length c', .func (.func 101) #[] #[.pointer (some ⟨B, 0, none⟩)]] wr fun e w' => e = .returned (.tuple #[]) ∧ OwnInts w' 3 w1.heap.size (.slice a' (candL v l l.length).length c') (gotL v l) ∧ Since w1.heap.size w1 w' := by
            by_cases h1 : 1 ≤ (candL v l l.length).length
            · obtain ⟨g, cp, e1, hg, _⟩ := ho.shape h1
              simp only [Value.slice.injEq] at e1
              obtain ⟨rfl, _, rfl⟩ := e1
              refine (SortStable_any 101 (fun _ _ => rfl) #[.pointer (some ⟨B, 0, none⟩)] (cfP l) w1.heap.size g _ (candL v l l.length) wr ho (by omega) (fun x y w hx hy hw => ?_)).mono ?_
              · have hd := dirty_own hS hw hg
                exact ForCmp_any B al cl l x y w (hd.cell (HS.out w1 (Since.refl w1)) (fun h => h)) (HVK.out.later RPeer.stays hd) (mem_candL.1 hx).1 (mem_candL.1 hy).1 HROOM.out
              · rintro e w6 ⟨rfl, ho6, hg6⟩
                exact ⟨rfl, ho6, hS.own ho hg6⟩
            · have h2 : (candL v l l.length).length = 0 := by omega
              rw [h2] at ho ⊢
              refine (SortStable_nil 101 _ a' c' wr).mono ?_
              rintro e w6 ⟨rfl, rfl⟩
              have h4 : gotL v l = [] := List.eq_nil_of_length_eq_zero (by rw [places_len]; exact h2)
              have h3 : gotL v l = candL v l l.length := by rw [h4, List.eq_nil_of_length_eq_zero h2]
              exact ⟨rfl, by rw [h3]; exact ho, hS⟩
          clear ho
          generalize hN : (candL v l l.length).length = N at *
          have HN := Lib.hid hN
          have HSORT := Lib.hid hsort
          clear hsort hN
          go_wp2_with fail
          refine HSORT.out.mono ?_
          rintro e w6 ⟨rfl, ho6, hS6⟩
          have HO6 := Lib.hid ho6
          clear ho6 d1
          by_cases hshort : (N : Int) < many
          · have H := Lib.hid (forE_short H0.out HR.out (by rw [HN.out]; exact hshort))
            go_wp2_with fail
            go_ret2
            exact ⟨⟨_, ret_vE H.out.symm, by rw [forC_no (by rw [H.out]; simp)]; exact IsInts.nil _, fun _ h => nil_lies h⟩, (S0.step (T1.step hS6.below).below).below⟩
          · have H := Lib.hid (forE_ok H0.out HR.out (by rw [HN.out]; exact hshort))
            obtain ⟨m, rfl⟩ := Int.eq_ofNat_of_zero_le (show 0 ≤ many by omega)
            have hm : m ≤ N := by omega
            have hmc : m ≤ c' := by omega
            have HI := Lib.hid (HO6.out.isInts.take m (by first | exact hm | (rw [HE.out]; exact hm) | (rw [HE.out, HN.out]; exact hm)))
            go_wp2_with fail
            go_ret2
            exact ⟨⟨_, ret_vE H.out.symm, by rw [forC_ok H.out]; exact HI.out, fun k hk => by obtain ⟨x, n, c, e, rfl⟩ := hk; cases e; exact Nat.le_trans S0.2 (Nat.le_trans T1.2 (HO6.out.lies _ ⟨_, _, _, rfl, rfl⟩).1)⟩, (S0.step (T1.step hS6.below).below).below⟩
  · have H := Lib.hid (forE_chk v many h0)
    have hne : (placeV b l != 0) = true := by simpa using h0
    have HN := Lib.hid h0
    clear h0
    go_wp2_with fail
    go_ret2
    exact ⟨⟨_, ret_vE H.out.symm, by rw [forC_no (by rw [H.out]; exact HN.out)]; exact IsInts.nil _, fun _ h => nil_lies h⟩, (S0.step T1.below).below⟩
end Go.Proofs.YtjakdgchfimhkaaGreat
