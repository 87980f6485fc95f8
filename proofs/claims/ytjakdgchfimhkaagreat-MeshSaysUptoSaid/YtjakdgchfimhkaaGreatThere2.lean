/-
  The reference's There, walked.
-/
import Derived.Test.YtjakdgchfimhkaaGreatThere
namespace Go.Proofs.YtjakdgchfimhkaaGreat
open Go.RowKit

theorem foldT_step {α β : Type} (f : α → β → α) {l : List β} {k : Nat} {c : β} (h : l[k]? = some c) (a : α) : (l.take (k + 1)).foldl f a = f ((l.take k).foldl f a) c := by
  rw [List.take_add_one, h]
  simp
theorem there_yes {v : Int} {l : List Sh} {x : Kp} (hx : x.1 = v) (ha : (l.any fun s => decide (s.1 = x.2.1)) = false) : thereK true v l x = l ++ [x.2] := by
  unfold thereK
  rw [if_pos ⟨rfl, hx, ha⟩]
theorem there_no {t : Bool} {v : Int} {l : List Sh} {x : Kp} (h : ¬ (t = true ∧ x.1 = v ∧ (l.any fun s => decide (s.1 = x.2.1)) = false)) : thereK t v l x = l := by
  unfold thereK
  rw [if_neg h]
theorem saw_none (w : World) : SawAt (w.alloc (.cells #[.bool false, .bool false, .bool false, .bool false, .bool false, .bool false, .bool false, .bool false] 67)) w.heap.size [] := by
  intro j hj
  refine ⟨?_, by go_simp⟩
  have h := fresh_cellsU w [.bool false, .bool false, .bool false, .bool false, .bool false, .bool false, .bool false, .bool false] 67 w.heap.size rfl j (.bool false)
  rw [add_zero'] at h
  refine h ?_
  have : j = 0 ∨ j = 1 ∨ j = 2 ∨ j = 3 ∨ j = 4 ∨ j = 5 ∨ j = 6 ∨ j = 7 := by omega
  rcases this with rfl | rfl | rfl | rfl | rfl | rfl | rfl | rfl <;> rfl
theorem sharesT_len (v : Int) : ∀ (ps : List Pr) (l : List Sh), (ps.foldl (fun l p => addS l (pickS v p)) l).length ≤ l.length + ps.length
  | [], l => by simp
  | p :: ps, l => by
    rw [List.foldl_cons]
    have h1 := sharesT_len v ps (addS l (pickS v p))
    have h2 := addS_len l (pickS v p)
    simp only [List.length_cons]
    omega

set_option linter.unusedSimpArgs false in
set_option maxRecDepth 100000 in
set_option maxHeartbeats 4000000 in
theorem There_any (vb u : Value) (b : List Ver) (ps : List Pr) (v : Int) (W : World) (hb : IsVers W vb b) (hu : IsPeers W u ps) (hok : ∀ p ∈ ps, PeerOk b p) (hp8 : ps.length ≤ 8) :
    Calls Tryz.prog 30 #[.agg #[vb, u], .int .i64 v] W fun e w' => (∃ v', e = .returned v' ∧ IsShares w' v' (sharesM v ps)) ∧ Below W.heap.size W w' := by
  obtain ⟨a, c, rfl, hcb, ⟨hbm, hbc, _⟩, _⟩ := hb.opened
  obtain ⟨a', c', rfl, hcu, ⟨hum, huc, _⟩, _⟩ := hu.opened
  have S0 := (Since.refl W).alloc (.cells #[.slice a b.length c, .slice a' ps.length c'] 27)
  have hu0 := hu.stays RPeer.stays S0.below
  have c1 : (W.alloc (.cells #[.slice a b.length c, .slice a' ps.length c'] 27)).cell? ⟨W.heap.size, 1, none⟩ = some (.slice a' ps.length c') := by go_simp
  have HOK := Lib.hid hok
  clear hb hu hok
  go_enter Tryz.func30, Tryz.ntmps30
  go_upto_region 2 with fail
  generalize W.alloc (.cells #[.slice a b.length c, .slice a' ps.length c'] 27) = w0 at *
  obtain ⟨B, hB⟩ : ∃ B, B = W.heap.size := ⟨_, rfl⟩
  rw [← hB] at c1 ⊢
  clear hB
  have BS := below_alloc w0 (.cells #[.bool false, .bool false, .bool false, .bool false, .bool false, .bool false, .bool false, .bool false] 67)
  have T1 := (Since.refl w0).alloc (.cells #[.bool false, .bool false, .bool false, .bool false, .bool false, .bool false, .bool false, .bool false] 67)
  have d1 := below_cell BS c1
  have hsaw0 := saw_none w0
  have HU : Hid (∀ w', Since w0.heap.size w0 w' → IsPeers w' (.slice a' ps.length c') ps) := Lib.hid (fun w' q => hu0.stays RPeer.stays q.below)
  clear hu0 BS c1
  go_upto_region 3 with fail
  generalize w0.alloc (.cells #[.bool false, .bool false, .bool false, .bool false, .bool false, .bool false, .bool false, .bool false] 67) = w1 at *
  obtain ⟨q, hq⟩ : ∃ q, q = w0.heap.size := ⟨_, rfl⟩
  rw [← hq] at hsaw0 ⊢
  have HQ := Lib.hid hq
  clear hq
  go_wp2_with fail
  clear d1
  go_loopw [14, 5] (fun i vl wr => ∃ k : Nat, k ≤ ps.length ∧ i = .int .i64 k ∧ Since w0.heap.size w0 wr ∧ SawAt wr q (sharesM v (ps.take k)) ∧ OwnRow 2 RShare (fun z => z = q) wr 58 (q + 1) vl (sharesM v (ps.take k))) (fun i _ _ => ps.length - (intOf i).toNat)
  case atStart => exact ⟨0, by omega, rfl, T1, hsaw0, OwnRow.nil _ _ _⟩
  case round =>
    clear hsaw0
    obtain ⟨k, hk, rfl, hS, hsaw, ho⟩ := hrel
    by_cases hlt : k < ps.length
    · have hget := List.getElem?_eq_getElem hlt
      obtain ⟨g, off, uu, cu, rfl, k0, k1, k2, hp, j1⟩ := peer_at (HU.out w0 (Since.refl w0)) hget
      have k0 := below_cell hS.below k0
      have k1 := below_cell hS.below k1
      have k2 := below_cell hS.below k2
      have HST := Lib.hid (sharesM_step v hget)
      have HPO := Lib.hid (HOK.out _ (List.getElem_mem hlt))
      have hsl : (sharesM v (ps.take k)).length ≤ 8 := by
        have h1 := sharesT_len v (ps.take k) []
        have h2 : (ps.take k).length ≤ ps.length := by rw [List.length_take]; omega
        simp only [List.length_nil] at h1
        unfold sharesM
        omega
      generalize hSK : sharesM v (ps.take (k + 1)) = NX at *
      have HSK := Lib.hid hSK
      clear hSK
      generalize sharesM v (ps.take k) = L at *
      generalize ps[k] = p at *
      obtain ⟨t, r, ks⟩ := p
      simp only at k0 k1 k2 hp j1
      have hks : ks.length ≤ 20 := by have h1 := HPO.out.few; have h2 := HPO.out.room; simp only at h1 h2; omega
      have HTP : Hid (ks.foldl (thereK t v) L = NX) := Lib.hid ((there_peer HPO.out.rise).trans HST.out.symm)
      have HP : Hid (∀ w', Since w0.heap.size w0 w' → IsKepts w' (.slice uu ks.length cu) ks) := Lib.hid (fun w' h => hp.stays RKept.stays h.below)
      have BB := below_alloc wr (.cells #[.bool t, .int .i64 r, .slice uu ks.length cu] 45)
      have S4 := hS.alloc (.cells #[.bool t, .int .i64 r, .slice uu ks.length cu] 45)
      have f0 : (wr.alloc (.cells #[.bool t, .int .i64 r, .slice uu ks.length cu] 45)).cell? ⟨wr.heap.size, 0, none⟩ = some (.bool t) := by go_simp
      have f2 : (wr.alloc (.cells #[.bool t, .int .i64 r, .slice uu ks.length cu] 45)).cell? ⟨wr.heap.size, 2, none⟩ = some (.slice uu ks.length cu) := by go_simp
      have HSW := Lib.hid (hsaw.stays BB)
      have HO := Lib.hid (ho.stays BB)
      have hlt1 : ∀ z, Value.ownBlock u5 = some z → z ≠ wr.heap.size := fun z h e => by have := (ho.lt z h).2; omega
      go_upto_region 6 with fail
      generalize wr.alloc (.cells #[.bool t, .int .i64 r, .slice uu ks.length cu] 45) = wa at *
      obtain ⟨Bp, hBp⟩ : ∃ Bp, Bp = wr.heap.size := ⟨_, rfl⟩
      rw [← hBp] at f0 f2 hlt1 ⊢
      have hBq : q < Bp := by rw [hBp]; exact hsaw.lt
      clear hBp k0 k1 k2 hp ho hsaw HST BB
      have hBa := cell_lt f0
      go_wp2_with fail
      clear f2
      go_loopw [21, 5] (fun i vy wr => ∃ j : Nat, j ≤ ks.length ∧ i = .int .i64 j ∧ Since w0.heap.size w0 wr ∧ wr.cell? ⟨Bp, 0, none⟩ = some (.bool t) ∧ SawAt wr q ((ks.take j).foldl (thereK t v) L) ∧ OwnRow 2 RShare (fun z => z = q) wr 58 (q + 1) vy ((ks.take j).foldl (thereK t v) L) ∧ ∀ z, vy.ownBlock = some z → z ≠ Bp) (fun i _ _ => ks.length - (intOf i).toNat)
      case atStart => exact ⟨0, by omega, rfl, S4, f0, HSW.out, HO.out, hlt1⟩
      case round =>
        clear f0 hlt1
        obtain ⟨j, hj, rfl, hS2, y0, hsaw2, ho2, hne2⟩ := hrel
        by_cases hlj : j < ks.length
        · have hx := List.getElem?_eq_getElem hlj
          obtain ⟨gk, ok, uk, ck, ek, x0, x1, x2, hxi, ix0, ix1⟩ := kept_at (HP.out w0 (Since.refl w0)) hx
          subst ek
          have x0 := below_cell hS2.below x0
          have x1 := below_cell hS2.below x1
          have x2 := below_cell hS2.below x2
          have hblt := hxi.block_lt
          have hxr := hxi.stays hS2.below
          have hnum := kept_num HPO.out (List.mem_of_getElem? hx)
          have HFS := Lib.hid (foldT_step (thereK t v) hx L)
          have hll : ((ks.take j).foldl (thereK t v) L).length ≤ 28 := by
            have h1 := there_len t v (ks.take j) L
            have h2 : (ks.take j).length ≤ ks.length := by rw [List.length_take]; omega
            omega
          obtain ⟨NL, hNL⟩ : ∃ NL, NL = (ks.take (j + 1)).foldl (thereK t v) L := ⟨_, rfl⟩
          rw [← hNL] at HFS
          have HNL := Lib.hid hNL
          clear hNL
          generalize (ks.take j).foldl (thereK t v) L = LL at *
          generalize ks[j] = x at *
          obtain ⟨xv, xn, xl⟩ := x
          simp only at x0 x1 x2 hxr hnum ix0 ix1 hblt
          obtain ⟨m, rfl⟩ := Int.eq_ofNat_of_zero_le hnum.1
          have hm8 : m < 8 := by omega
          have BB := below_alloc wr (.cells #[.int .i64 xv, .int .i64 (m : Int), .slice uk xl.length ck] 60)
          have S3 := hS2.alloc (.cells #[.int .i64 xv, .int .i64 (m : Int), .slice uk xl.length ck] 60)
          have e0 : (wr.alloc (.cells #[.int .i64 xv, .int .i64 (m : Int), .slice uk xl.length ck] 60)).cell? ⟨wr.heap.size, 0, none⟩ = some (.int .i64 xv) := by go_simp
          have e1 : (wr.alloc (.cells #[.int .i64 xv, .int .i64 (m : Int), .slice uk xl.length ck] 60)).cell? ⟨wr.heap.size, 1, none⟩ = some (.int .i64 (m : Int)) := by go_simp
          have e2 : (wr.alloc (.cells #[.int .i64 xv, .int .i64 (m : Int), .slice uk xl.length ck] 60)).cell? ⟨wr.heap.size, 2, none⟩ = some (.slice uk xl.length ck) := by go_simp
          have y0' := below_cell BB y0
          have hsaw3 := hsaw2.stays BB
          have ho3 := ho2.stays BB
          have hxi3 := hxr.stays BB
          have hneK : ∀ z, Value.ownBlock u5 = some z → z ≠ wr.heap.size := fun z h e => by have := (ho2.lt z h).2; omega
          have hqK : q < wr.heap.size := hsaw2.lt
          have hpK : Bp < wr.heap.size := cell_lt y0
          go_upto_region 9 with fail
          clear x0 x1 x2 hx hxi hxr y0 hsaw2 ho2
          generalize wr.alloc (.cells #[.int .i64 xv, .int .i64 (m : Int), .slice uk xl.length ck] 60) = wb at *
          obtain ⟨Bk, hBk⟩ : ∃ Bk, Bk = wr.heap.size := ⟨_, rfl⟩
          rw [← hBk] at e0 e1 e2 hneK hqK hpK ⊢
          clear hBk BB
          have s0 := (hsaw3 m hm8).1
          have s1 := (hsaw3 m hm8).2
          obtain ⟨A, hA⟩ : ∃ A, A = LL.any fun s => decide (s.1 = (m : Int)) := ⟨_, rfl⟩
          rw [← hA] at s0
          have HA := Lib.hid hA.symm
          clear hA
          by_cases hC : t = true ∧ xv = v ∧ A = false
          · obtain ⟨rfl, rfl, rfl⟩ := hC
            have HY := Lib.hid (show NL = LL ++ [((m : Int), xl)] from HFS.out.trans (there_yes (x := (xv, (m : Int), xl)) rfl HA.out))
            have hsaw4 := hsaw3.set (s := ((m : Int), xl)) hm8 rfl
            have hdq : Dirty (fun z => z = q) wb (wb.setCell ⟨q, m, none⟩ (.bool true)) := (Dirty.of_grown (grown_setCell wb ⟨q, m, none⟩ (.bool true))).mono fun z _ hz => by cases hz; rfl
            have ho4 := ho3.later hdq (fun z h e => by have := (ho3.lt z h).1; omega)
            have hxi4 : ∀ w', Dirty (fun z => Value.ownBlock u5 = some z ∨ z = q) (wb.setCell ⟨q, m, none⟩ (.bool true)) w' → IsInts w' (.slice uk xl.length ck) xl := fun w' hw' => hxi3.framed (fun z hz hne => by
              have h3 := hblt z hz hne
              have h4 := HQ.out
              rintro (h | h)
              · have := (ho3.lt z h).1; omega
              · omega) ((hdq.mono fun z _ h => Or.inr h).trans hw')
            have S5 := S3.setCell (a := ⟨q, m, none⟩) (by rw [HQ.out]; exact Nat.le_refl _) (.bool true)
            have y1 : (wb.setCell ⟨q, m, none⟩ (.bool true)).cell? ⟨Bp, 0, none⟩ = some (.bool true) := hdq.cell y0' (fun h => by simp at h; omega)
            have e0' : (wb.setCell ⟨q, m, none⟩ (.bool true)).cell? ⟨Bk, 0, none⟩ = some (.int .i64 xv) := hdq.cell e0 (fun h => by simp at h; omega)
            have e1' : (wb.setCell ⟨q, m, none⟩ (.bool true)).cell? ⟨Bk, 1, none⟩ = some (.int .i64 (m : Int)) := hdq.cell e1 (fun h => by simp at h; omega)
            have e2' : (wb.setCell ⟨q, m, none⟩ (.bool true)).cell? ⟨Bk, 2, none⟩ = some (.slice uk xl.length ck) := hdq.cell e2 (fun h => by simp at h; omega)
            go_upto_region 11 with fail
            generalize wb.setCell ⟨q, m, none⟩ (.bool true) = wc at *
            clear s0 s1 hsaw3 ho3 y0' e0 e1 e2 hdq
            obtain ⟨ay, cy, rfl, _⟩ := ho4.isRow.opened
            have BC := below_alloc wc (.cells #[.int .i64 (m : Int), .slice uk xl.length ck] 58)
            have HFR : Hid (Framed (fun z => (Value.slice ay LL.length cy).ownBlock = some z ∨ (fun z => z = q) z) RShare (wc.alloc (.cells #[.int .i64 (m : Int), .slice uk xl.length ck] 58)) [.int .i64 (m : Int), .slice uk xl.length ck] ((m : Int), xl)) := Lib.hid (fun w' hw' => ⟨_, rfl, hxi4 w' ((Dirty.old BC _).trans hw'), ⟨by omega, by omega⟩⟩)
            have hqc : q + 1 ≤ wc.heap.size := hsaw4.lt
            have hpc : Bp < wc.heap.size := cell_lt y1
            go_wp2_with (at_builtin; refine wpList_append_row rfl _ _ 50 rfl 2 (fun z => z = q) 58 Tryz.underlying50 _ 32 info_shareT rfl (by omega) (by omega) (q + 1) _ _ rfl (ho4.stays (below_alloc _ _)) ⟨wc.heap.size, 0, none⟩ 1 [.int .i64 (m : Int), .slice uk xl.length ck] ((m : Int), xl) rfl rfl (by intro w hw; simp at hw; rcases hw with rfl | rfl <;> rfl) (fresh_cellsU wc [.int .i64 (m : Int), .slice uk xl.length ck] 58 _ rfl) HFR.out (by omega) (by simp; omega) ?_; intro v6 w6 ho6 hg6 hat6)
            have S6 := (S5.alloc (.cells #[.int .i64 (m : Int), .slice uk xl.length ck] 58)).grown hg6 (fun z hz => by have := (ho4.lt z hz).1; have := HQ.out; omega)
            have hsaw6 := (hsaw4.stays BC).grown hg6 (fun h => by have := (ho4.lt q h).1; omega)
            have y6 := (Dirty.of_grown hg6).cell (below_cell BC y1) (fun h => hne2 _ h rfl)
            have hne6 : ∀ z, v6.ownBlock = some z → z ≠ Bp := fun z hz => by
              rcases hat6 with h | h
              · exact hne2 z (h.symm.trans hz)
              · have h2 := h.symm.trans hz
                simp at h2
                omega
            have HX := Lib.hid (And.intro y6 (And.intro hsaw6 (And.intro ho6 hne6)))
            clear y6 hsaw6 ho6 hne6 hg6 hat6 hsaw4 ho4 hxi4 y1 e0' e1' e2' BC
            go_roundw
            case rel => exact ⟨j + 1, by omega, by go_num, S6, HX.out.1, by rw [← HNL.out, HY.out]; exact HX.out.2.1, by rw [← HNL.out, HY.out]; exact HX.out.2.2.1, HX.out.2.2.2⟩
            case measure => simp [intOf]; omega
          · have HN := Lib.hid (show NL = LL from HFS.out.trans (there_no (x := (xv, (m : Int), xl)) (fun h => hC ⟨h.1, h.2.1, HA.out.symm.trans h.2.2⟩)))
            have HRES := Lib.hid (And.intro y0' (And.intro hsaw3 (And.intro ho3 hne2)))
            clear hsaw3 ho3 hne2
            cases t with
            | false =>
              go_wp2_with fail
              go_roundw
              case rel => exact ⟨j + 1, by omega, by go_num, S3, HRES.out.1, by rw [← HNL.out, HN.out]; exact HRES.out.2.1, by rw [← HNL.out, HN.out]; exact HRES.out.2.2.1, HRES.out.2.2.2⟩
              case measure => simp [intOf]; omega
            | true =>
              by_cases hxv : xv = v
              · have hAt : A = true := by
                  cases A with
                  | true => rfl
                  | false => exact absurd ⟨rfl, hxv, rfl⟩ hC
                subst hAt
                have hxe : (xv == v) = true := by simpa using hxv
                clear hC
                go_wp2_with fail
                go_roundw
                case rel => exact ⟨j + 1, by omega, by go_num, S3, HRES.out.1, by rw [← HNL.out, HN.out]; exact HRES.out.2.1, by rw [← HNL.out, HN.out]; exact HRES.out.2.2.1, HRES.out.2.2.2⟩
                case measure => simp [intOf]; omega
              · have hxe : (xv == v) = false := by simpa using hxv
                clear hC
                go_wp2_with fail
                go_roundw
                case rel => exact ⟨j + 1, by omega, by go_num, S3, HRES.out.1, by rw [← HNL.out, HN.out]; exact HRES.out.2.1, by rw [← HNL.out, HN.out]; exact HRES.out.2.2.1, HRES.out.2.2.2⟩
                case measure => simp [intOf]; omega
        · obtain rfl : ks.length = j := by omega
          rw [List.take_length, HTP.out] at hsaw2 ho2
          have HR2 := Lib.hid (And.intro hsaw2 ho2)
          clear hsaw2 ho2
          go_wp2_with fail
          go_roundw
          case rel => exact ⟨k + 1, by omega, by go_num, hS2, by rw [HSK.out]; exact HR2.out.1, by rw [HSK.out]; exact HR2.out.2⟩
          case measure => simp [intOf]; omega
    · obtain rfl : ps.length = k := by omega
      rw [List.take_length] at ho
      have HI := Lib.hid (isShares_of_row ho.isRow)
      clear ho hsaw
      go_wp2_with fail
      go_ret
      exact ⟨⟨_, rfl, HI.out⟩, (S0.step hS.below).below⟩
end Go.Proofs.YtjakdgchfimhkaaGreat
