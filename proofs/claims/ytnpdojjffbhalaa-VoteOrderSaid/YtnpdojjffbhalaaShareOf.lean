/-
  The walks of the reference's places and ShareOf.
-/
import Derived.Test.YtnpdojjffbhalaaSplit2
import Derived.Test.YtnpdojjffbhalaaJoinMath
import Derived.Test.YtnpdojjffbhalaaShareLaw
import Derived.Test.YtnpdojjffbhalaaPicked
import Derived.Test.YtnpdojjffbhalaaBooks
namespace Go.Proofs.Ytnpdojjffbhalaa
open Go.RowKit

theorem placesL_step (k : Nat) : placesL (k + 1) = placesL k ++ [(k : Int)] := by simp [placesL, List.range_succ]

set_option maxRecDepth 100000 in
set_option maxHeartbeats 1000000 in
theorem places_any (n : Nat) (W : World) (hn : n ≤ 8) :
    Calls Try.prog 107 #[.int .i64 n] W fun e w' => (∃ v', e = .returned v' ∧ OwnInts w' 3 W.heap.size v' (placesL n)) ∧ Below W.heap.size W w' := by
  go_enter Try.func107, Try.ntmps107
  go_wp2_with fail
  go_loopw [6, 3] (fun i o wr => ∃ k : Nat, k ≤ n ∧ i = .int .i64 k ∧ Since W.heap.size W wr ∧ OwnInts wr 3 W.heap.size o (placesL k)) (fun i _ _ => n - (intOf i).toNat)
  case atStart => exact ⟨0, by omega, rfl, Since.refl W, by simpa [placesL] using OwnInts.nil _ _ _⟩
  case round =>
    obtain ⟨k, hk, rfl, hS, ho⟩ := hrel
    have HST := Lib.hid (placesL_step k)
    have hll : (placesL k).length ≤ 8 := by rw [placesL_len]; omega
    by_cases hlt : k < n
    · have ik : I64 (k : Int) := ⟨by omega, by omega⟩
      have hgs := hS.2
      go_wp2_with (at_builtin; refine wpList_append_int rfl _ _ 24 rfl 3 Try.underlying24 info_int W.heap.size _ _ rfl (ho.stays (below_alloc wr _)) ⟨wr.heap.size, 0, none⟩ 1 (k : Int) rfl (by simp) ik (by omega) (by simp; omega) ?_; intro v' w2 ho2 hg2)
      have S2 := (hS.alloc (.cells #[.int .i64 (k : Int)] 3)).own (ho.stays (below_alloc wr _)) hg2
      have HO2 := Lib.hid ho2
      clear ho2 hg2 ho
      go_roundw
      case rel => exact ⟨k + 1, by omega, by go_num, S2, by rw [HST.out]; exact HO2.out⟩
      case measure => simp [intOf]; omega
    · obtain rfl : k = n := by omega
      have HO := Lib.hid ho
      clear ho
      go_wp2_with fail
      go_ret
      exact ⟨⟨_, rfl, HO.out⟩, hS.below⟩

theorem rowL_get_lt {n : Nat} {data : List Int} {r j : Nat} {z : Int} (h : data[r * n + j]? = some z) : data.getD (r * n + j) 0 = z := by simp [List.getD_eq_getElem?_getD, h]
/-- On the way: the first m of a row are filled. -/
def fillL (n : Nat) (data : List Int) (r m : Nat) : List Int := (List.range m).map (fun j => data.getD (r * n + j) 0) ++ List.replicate (n - m) 0
theorem fillL_zero (n : Nat) (data : List Int) (r : Nat) : fillL n data r 0 = List.replicate n 0 := by simp [fillL]
theorem fillL_all (n : Nat) (data : List Int) (r : Nat) : fillL n data r n = rowL n data r := by simp [fillL, rowL]
theorem fillL_len {n m : Nat} (data : List Int) (r : Nat) (h : m ≤ n) : (fillL n data r m).length = n := by simp [fillL]; omega
theorem fillL_step {n m : Nat} (data : List Int) (r : Nat) (h : m < n) {z : Int} (hz : data.getD (r * n + m) 0 = z) : (fillL n data r m).set m z = fillL n data r (m + 1) := by
  subst hz
  have hl : ((List.range m).map (fun j => data.getD (r * n + j) 0)).length = m := by simp
  unfold fillL
  rw [List.set_append_right _ _ (by rw [hl]; exact Nat.le_refl _), hl, Nat.sub_self, show n - m = (n - (m + 1)) + 1 by omega, List.replicate_succ, List.set_cons_zero, List.range_succ, List.map_append]
  simp
theorem fillL_skip {n m : Nat} (data : List Int) (r : Nat) (h : m < n) (hz : data.length ≤ r * n + m) : fillL n data r m = fillL n data r (m + 1) := by
  have h1 : data.getD (r * n + m) 0 = 0 := by simp [List.getD_eq_getElem?_getD, List.getElem?_eq_none hz]
  have h2 := fillL_step data r h h1
  rw [← h2]
  symm
  apply List.ext_getElem?
  intro j
  rw [List.getElem?_set]
  by_cases hj : m = j
  · subst hj
    have hl : ((List.range m).map (fun j => data.getD (r * n + j) 0)).length = m := by simp
    rw [if_pos rfl, if_pos (by rw [fillL_len data r (by omega)]; exact h)]
    unfold fillL
    rw [List.getElem?_append_right (by rw [hl]; exact Nat.le_refl _), hl, Nat.sub_self, List.getElem?_replicate, if_pos (by omega)]
  · rw [if_neg hj]

def ShS (B3 B6 B7 : Nat) (n k : Int) (vv : Value) (w : World) : Prop :=
  w.cell? ⟨B3, 0, none⟩ = some (.int .i64 n) ∧ w.cell? ⟨B6, 0, none⟩ = some (.int .i64 0) ∧ w.cell? ⟨B6, 1, none⟩ = some (.slice none 0 0) ∧ w.frozen? ⟨B6, 0, none⟩ = false ∧ w.frozen? ⟨B6, 1, none⟩ = false ∧
  w.cell? ⟨B7, 0, none⟩ = some (.int .i64 k) ∧ w.cell? ⟨B7, 1, none⟩ = some vv ∧ w.frozen? ⟨B7, 1, none⟩ = false ∧ w.frozen? ⟨B7, 0, none⟩ = false
section
variable {B3 B6 B7 : Nat} {n k : Int} {vv : Value} {w w' : World}
theorem ShS.grown {row : Option Nat} (h : ShS B3 B6 B7 n k vv w) (hg : w.grownBy w' row) (n3 : some B3 ≠ row) (n6 : some B6 ≠ row) (n7 : some B7 ≠ row) : ShS B3 B6 B7 n k vv w' := by
  obtain ⟨h0, h1, h2, h3, h4, h5, h6, h7, h8⟩ := h
  exact ⟨hg.cell h0 n3, hg.cell h1 n6, hg.cell h2 n6, grown_free hg h1 h3 n6, grown_free hg h2 h4 n6, hg.cell h5 n7, hg.cell h6 n7, grown_free hg h6 h7 n7, grown_free hg h5 h8 n7⟩
theorem ShS.below (h : ShS B3 B6 B7 n k vv w) (hb : Below w.heap.size w w') : ShS B3 B6 B7 n k vv w' := h.grown (grown_of_below hb) (by simp) (by simp) (by simp)
theorem ShS.set7 (h : ShS B3 B6 B7 n k vv w) (n3 : B3 ≠ B7) (n6 : B6 ≠ B7) (v : Value) : ShS B3 B6 B7 n k v (w.setCell ⟨B7, 1, none⟩ v) := by
  obtain ⟨h0, h1, h2, h3, h4, h5, h6, h7, h8⟩ := h
  exact ⟨(cell_set_other w B7 1 v n3).trans h0, (cell_set_other w B7 1 v n6).trans h1, (cell_set_other w B7 1 v n6).trans h2, (free_set_other w B7 1 v n6).trans h3, (free_set_other w B7 1 v n6).trans h4, by go_simp, by go_simp, by go_simp, by go_simp⟩
end

set_option maxRecDepth 100000 in
set_option maxHeartbeats 2000000 in
theorem ShareOf_any (n o s : Nat) (v : Value) (data : List Int) (k : Nat) (W : World) (hd : IsInts W v data) (hp : planV n o s = 0) (hnum : ∀ z ∈ data, 0 ≤ z ∧ z < 31) (hk : k ≤ 8) :
    Calls Try.prog 63 #[.agg #[.int .i64 n, .int .i64 o, .int .i64 s], v, .int .i64 k] W fun e w' => (∃ v', e = .returned (.agg #[.int .i64 k, v']) ∧ OwnInts w' 3 W.heap.size v' (shareL n data (rowsN n s) k).2) ∧ Below W.heap.size W w' := by
  obtain ⟨p1, p2, p3, p4, p5, p6⟩ := planV_bd hp
  obtain ⟨r1, r2, r3⟩ := rowsN_bd (n := n) (s := s) (by omega) (by omega) (by omega) (by omega)
  have HLO := Lib.hid (longV_nat hp)
  have HN := Lib.hid hnum
  obtain ⟨a, c, rfl, hca, ⟨hma, hma', _⟩, _⟩ := hd.opened
  clear hp hnum
  have HD := Lib.hid hd
  go_enter Try.func63, Try.ntmps63
  go_upto_region 2 with fail
  obtain ⟨w0, hw0⟩ : ∃ w0, w0 = ((W.alloc (.cells #[.int .i64 n, .int .i64 o, .int .i64 s] 23)).alloc (.cells #[.int .i64 0, .slice none 0 0] 33)).alloc (.cells #[.int .i64 k, .slice none 0 0] 33) := ⟨_, rfl⟩
  have S0 : Since W.heap.size W w0 := by rw [hw0]; exact (((Since.refl W).alloc _).alloc _).alloc _
  have c1 : w0.cell? ⟨W.heap.size, 1, none⟩ = some (.int .i64 o) := by rw [hw0]; go_simp
  have c2 : w0.cell? ⟨W.heap.size, 2, none⟩ = some (.int .i64 s) := by rw [hw0]; go_simp
  have hsh : ShS W.heap.size (W.heap.size + 1) (W.heap.size + 1 + 1) n k (.slice none 0 0) w0 := by
    rw [hw0]
    exact ⟨by go_simp, by go_simp, by go_simp, by go_simp, by go_simp, by go_simp, by go_simp, by go_simp, by go_simp⟩
  have hz0 : w0.heap.size = W.heap.size + 1 + 1 + 1 := by rw [hw0]; simp
  rw [← hw0]
  clear hw0
  obtain ⟨B7, hB7⟩ : ∃ B, B = W.heap.size + 1 + 1 := ⟨_, rfl⟩
  obtain ⟨B6, hB6⟩ : ∃ B, B = W.heap.size + 1 := ⟨_, rfl⟩
  obtain ⟨B3, hB3⟩ : ∃ B, B = W.heap.size := ⟨_, rfl⟩
  rw [← hB7, ← hB6, ← hB3] at hsh
  rw [← hB7, ← hB6, ← hB3]
  rw [← hB3] at c1 c2
  have hb3 : W.heap.size ≤ B3 := by omega
  have hb6 : W.heap.size ≤ B6 := by omega
  have hb7 : W.heap.size ≤ B7 := by omega
  have h37 : B3 ≠ B7 := by omega
  have h67 : B6 ≠ B7 := by omega
  have h3l : B3 < w0.heap.size := by omega
  have h6l : B6 < w0.heap.size := by omega
  have h7l : B7 < w0.heap.size := by omega
  clear hB7 hB6 hB3 hz0
  have hsh0 := hsh
  obtain ⟨k30, _⟩ := hsh0
  go_wp2_with fail
  refine (RowsOf_any n o s _).mono ?_
  rintro e w1 ⟨rfl, hb1⟩
  rw [HLO.out]
  have S1 := S0.step hb1
  have hsh1 := hsh.below hb1
  have hsz1 : w0.heap.size ≤ w1.heap.size := hb1.size
  clear hb1 hsh c1 c2 k30 S0
  generalize hR : rowsN n s = R at *
  have HR := Lib.hid hR
  clear hR
  go_wp2_with fail
  go_loopw [16] (fun i wr => ∃ r : Nat, ∃ vv : Value, r ≤ R ∧ i = .int .i64 r ∧ Since W.heap.size W wr ∧ w0.heap.size ≤ wr.heap.size ∧ ShS B3 B6 B7 n k vv wr ∧ OwnInts wr 3 w0.heap.size vv ((List.range r).map (partV n data k))) (fun i _ => R - (intOf i).toNat)
  case atStart => exact ⟨0, _, by omega, rfl, S1, hsz1, hsh1, by simpa using OwnInts.nil _ _ _⟩
  case round =>
    obtain ⟨r, vv, hr, rfl, hS, hsz, hsh, hv⟩ := hrel
    clear hsh1 hsz1 S1
    have hsh0 := hsh
    obtain ⟨k30, k60, k61, f60, f61, k70, k71, f71, _⟩ := hsh0
    by_cases hlt : r < R
    · obtain ⟨av, cv, rfl, _⟩ := hv.isInts.opened
      have HSH := Lib.hid hsh
      have HV := Lib.hid hv
      clear hsh hv k60 k61 f60 f61 k70 k71 f71
      have hb2 : w0.heap.size ≤ wr.heap.size := hsz
      go_wp2_with (refine wpList_make_ints rfl _ _ _ rfl 3 Try.underlying24 info_int w0.heap.size _ n rfl rfl rfl (by omega) hb2 ?_; intro w2 hy2 hg2)
      have hsh2 := HSH.out.grown hg2 (by simp) (by simp) (by simp)
      have hv2 := HV.out.kept hg2 (by cases (Value.slice av ((List.range r).map (partV n data k)).length cv).ownBlock <;> simp)
      have S2 := hS.grown hg2 (fun q hq => by cases hq)
      have hgy : (Value.slice av ((List.range r).map (partV n data k)).length cv).ownBlock ≠ some wr.heap.size := fun e => by have := (HV.out.1.lt _ e).2; omega
      obtain ⟨gy, hgy0⟩ : ∃ gy, gy = wr.heap.size := ⟨_, rfl⟩
      rw [← hgy0] at hy2 hgy ⊢
      have hgy1 : w0.heap.size ≤ gy := by omega
      have hsz2 : w0.heap.size ≤ w2.heap.size := Nat.le_trans hsz hg2.size
      obtain ⟨rn, hrn⟩ : ∃ rn, rn = r * n := ⟨_, rfl⟩
      have hrn1 : rn + n ≤ R * n := by
        have : (r + 1) * n ≤ R * n := Nat.mul_le_mul_right _ hlt
        rw [Nat.add_mul, Nat.one_mul, ← hrn] at this
        exact this
      have hrn2 : (r : Int) * (n : Int) = (rn : Int) := by rw [hrn, Int.natCast_mul]
      have hrn3 : rn ≤ 28 := by omega
      have HRN := Lib.hid hrn
      clear hrn k30 hg2 hgy0 hS hsz
      obtain ⟨L, hL⟩ : ∃ L, L = (List.range r).map (partV n data k) := ⟨_, rfl⟩
      rw [← hL] at hv2 hgy hsh2
      have HL := Lib.hid hL
      clear hL HV HSH
      go_loopw [24] (fun i wr => ∃ m : Nat, m ≤ n ∧ i = .int .i64 m ∧ Since W.heap.size W wr ∧ w0.heap.size ≤ wr.heap.size ∧ ShS B3 B6 B7 n k (.slice av L.length cv) wr ∧ OwnInts wr 3 w0.heap.size (.slice av L.length cv) L ∧ OwnInts wr 3 w0.heap.size (.slice (some ⟨gy, 0, none⟩) n n) (fillL n data r m)) (fun i _ => n - (intOf i).toNat)
      case atStart => exact ⟨0, by omega, rfl, S2, hsz2, hsh2, hv2, by rw [fillL_zero]; exact hy2⟩
      case round =>
        obtain ⟨m, hm, rfl, hS, hsz, hsh, hv, hy⟩ := hrel
        clear S2 hsz2 hsh2 hv2 hy2
        have hsh0 := hsh
        obtain ⟨k30, k60, k61, f60, f61, k70, k71, f71, _⟩ := hsh0
        have HSH := Lib.hid hsh
        have HV := Lib.hid hv
        have hfl := fillL_len (n := n) (m := m) data r hm
        clear k60 k61 f60 f61 k70 k71 f71 hsh hv
        by_cases hlm : m < n
        · have x1 : IntKind.i64.wrap ((rn : Int) + (m : Int)) = (rn : Int) + (m : Int) := IntWalk.i64_in _ (by omega)
          have x2 : IntKind.i64.wrap (rn : Int) = (rn : Int) := IntWalk.i64_in _ (by omega)
          by_cases hin : rn + m < data.length
          · have hz : data[rn + m]? = some data[rn + m] := List.getElem?_eq_getElem hin
            obtain ⟨b1, o1, e1, q1, hiz⟩ := ints_at (HD.out.stays hS.below) hz
            subst e1
            have HFS := Lib.hid (fillL_step data r hlm (rowL_get_lt (by rw [← HRN.out]; exact hz)))
            generalize data[rn + m] = z at *
            have hyc := hy.cell m (by rw [hfl]; exact hlm)
            have hyf := hy.free m
            have x3 : (rn : Int) + (m : Int) < (data.length : Int) := by omega
            have x4 : (0 : Int) ≤ (rn : Int) + (m : Int) := by omega
            have x5 : ((rn : Int) + (m : Int)).toNat = rn + m := by omega
            have hy2 := hy.stored m z hiz
            have S3 := hS.setCell (a := ⟨gy, m, none⟩) (show W.heap.size ≤ gy by omega) (.int .i64 z)
            have hv3 := HV.out.kept (grown_setCell wr ⟨gy, m, none⟩ (.int .i64 z)) (Or.inr hgy)
            have hsh3 := HSH.out.grown (grown_setCell wr ⟨gy, m, none⟩ (.int .i64 z)) (by simp; omega) (by simp; omega) (by simp; omega)
            have hsz3 : w0.heap.size ≤ (wr.setCell ⟨gy, m, none⟩ (.int .i64 z)).heap.size := by simpa using hsz
            clear hz hy hfl
            go_wp2_with fail
            go_roundw
            case rel => exact ⟨m + 1, by omega, by go_num, S3, hsz3, hsh3, hv3, by rw [← HFS.out]; exact hy2⟩
            case measure => simp [intOf]; omega
          · have HFS := Lib.hid (fillL_skip data r hlm (by rw [← HRN.out]; omega))
            have x3 : ¬ ((rn : Int) + (m : Int) < (data.length : Int)) := by omega
            clear hfl
            go_wp2_with fail
            go_roundw
            case rel => exact ⟨m + 1, by omega, by go_num, hS, hsz, HSH.out, HV.out, by rw [← HFS.out]; exact hy⟩
            case measure => simp [intOf]; omega
        · obtain rfl : n = m := by omega
          rw [fillL_all] at hy
          have hpts := ptsOk_row (n := n) (data := data) (by omega) (by omega) HN.out r
          have HPT := Lib.hid hpts
          have HVE := Lib.hid (show valV (placesL n) (rowL n data r) k = partV n data k r from valV_eq hpts k)
          have HST := Lib.hid (show (List.range (r + 1)).map (partV n data k) = L ++ [partV n data k r] by rw [HL.out, List.range_succ, List.map_append]; rfl)
          have hpb := partV_bd n data k r
          have ipv : I64 (partV n data k r) := ⟨by omega, by omega⟩
          have hll : L.length ≤ 24 := by rw [HL.out]; simp; omega
          have HY := Lib.hid hy
          obtain ⟨wo, hwo⟩ : ∃ wo : World, wo = wr := ⟨_, rfl⟩
          rw [← hwo] at HY HV HSH hS hsz k30 ⊢
          clear hwo hpts hy hfl
          obtain ⟨k30, k60, k61, f60, f61, k70, k71, f71, k8⟩ := HSH.out
          go_upto_region 13 with fail
          have hshd : ShS B3 B6 B7 n k (.slice av L.length cv) wo.drew := HSH.out
          go_region_law (first
            | (go_simp; go_at_call 107; refine (places_any n _ (by omega)).mono ?_; rintro e w5 ⟨⟨v5, rfl, ho5⟩, hb5⟩; have hsh5 := hshd.below hb5; have hsh50 := hsh5; obtain ⟨j30, _, _, _, _, _, j71, j72, _⟩ := hsh50; have hv5 := (show OwnInts wo.drew 3 w0.heap.size (.slice av L.length cv) L from HV.out).stays hb5; have hy5 := (show OwnInts wo.drew 3 w0.heap.size (.slice (some ⟨gy, 0, none⟩) n n) (rowL n data r) from HY.out).stays hb5; have S5 := hS.drew.step hb5; have z5 : w0.heap.size ≤ w5.heap.size := Nat.le_trans hsz hb5.size)
            | (go_simp; go_at_call 106; refine (ValueAt_any _ _ (placesL n) (rowL n data r) k _ ho5.isInts hy5.isInts HPT.out (by omega) (by omega)).mono ?_; rintro e w6 ⟨rfl, hb6⟩; rw [HVE.out]; have hsh6 := hsh5.below hb6; have hsh60 := hsh6; obtain ⟨i30, _, _, _, _, _, i71, i72, _⟩ := hsh60; have hv6 := hv5.stays hb6; have S6 := S5.step hb6; have z6 : w0.heap.size ≤ w6.heap.size := Nat.le_trans z5 hb6.size; have l7 := cell_lt i71)
            | (refine step_append_int rfl _ _ 24 rfl 3 Try.underlying24 info_int w0.heap.size _ L rfl (hv6.stays (below_alloc w6 _)) ⟨w6.heap.size, 0, none⟩ 1 (partV n data k r) rfl (by simp) ipv (by omega) (by simp; omega) ?_; intro v7 w7 ho7 hg7; have hsh7 := (hsh6.below (below_alloc w6 (.cells #[.int .i64 (partV n data k r)] 3))).grown hg7 (fun e => by have := (hv6.1.lt B3 e.symm).1; omega) (fun e => by have := (hv6.1.lt B6 e.symm).1; omega) (fun e => by have := (hv6.1.lt B7 e.symm).1; omega); have hsh70 := hsh7; obtain ⟨g30, _, _, _, _, _, g71, g72, _⟩ := hsh70; have S7 := (S6.alloc (.cells #[.int .i64 (partV n data k r)] 3)).grown hg7 (fun q hq => by have := (hv6.1.lt q hq).1; have := S6.2; omega); have z7 : w0.heap.size ≤ w7.heap.size := Nat.le_trans z6 (Nat.le_trans (by simp) hg7.size); obtain ⟨a7, c7, rfl, _⟩ := ho7.isInts.opened))
          all_goals
            have hl7 : (L ++ [partV n data k r]).length = L.length + 1 := by simp
            rw [hl7] at ho7
            have hsh8 := hsh7.set7 h37 h67 (.slice a7 (L.length + 1) c7)
            have hv8 := ho7.kept (grown_setCell w7 ⟨B7, 1, none⟩ (.slice a7 (L.length + 1) c7)) (by
              cases hk : (Value.slice a7 (L.length + 1) c7).ownBlock with
              | none => exact Or.inl rfl
              | some q => right; intro e; have h1 := (ho7.1.lt q hk).1; have h2 : q = B7 := (by simpa using e); omega)
            have S8 := S7.setCell (a := ⟨B7, 1, none⟩) hb7 (.slice a7 (L.length + 1) c7)
            have z8 : w0.heap.size ≤ (w7.setCell ⟨B7, 1, none⟩ (.slice a7 (L.length + 1) c7)).heap.size := by simpa using z7
            have HS8 := Lib.hid hsh8
            clear hl7
            have HV8 := Lib.hid hv8
            clear hsh5 hsh6 hsh7 hsh8 hv5 hv6 hv8 hy5 S5 S6 S7 k30 k60 k61 f60 f61 k70 k71 f71 k8 j30 j71 j72 i30 i71 i72 g30 g71 g72 hshd ho5 ho7 hg7 hb5 hb6 z5 z6 z7
            go_wp2_with fail
            go_roundw
            case rel => exact ⟨r + 1, _, by omega, by go_num, S8, z8, HS8.out, by rw [HST.out]; exact HV8.out⟩
            case measure => simp [intOf]; omega
    · obtain rfl : r = R := by omega
      obtain ⟨av, cv, rfl, _⟩ := hv.isInts.opened
      have hlr : ((List.range r).map (partV n data k)).length = r := by simp
      rw [hlr] at hv k71
      clear hlr
      have hv2 := (hv.kept ((grown_setCell wr ⟨B6, 0, none⟩ (.int .i64 k)).trans (grown_setCell _ ⟨B6, 1, none⟩ (.slice av r cv))) (by
        cases hk : (Value.slice av r cv).ownBlock with
        | none => exact Or.inl rfl
        | some q => right; intro e; have h1 := (hv.1.lt q hk).1; have h2 : q = B6 := (by simpa using e); omega))
      have HV2 := Lib.hid hv2
      have S2 := (hS.setCell (a := ⟨B6, 0, none⟩) hb6 (.int .i64 k)).setCell (a := ⟨B6, 1, none⟩) hb6 (.slice av r cv)
      have q0 : ((wr.setCell ⟨B6, 0, none⟩ (.int .i64 k)).setCell ⟨B6, 1, none⟩ (.slice av r cv)).cell? ⟨B6, 0, none⟩ = some (.int .i64 k) := by go_simp
      have q1 : ((wr.setCell ⟨B6, 0, none⟩ (.int .i64 k)).setCell ⟨B6, 1, none⟩ (.slice av r cv)).cell? ⟨B6, 1, none⟩ = some (.slice av r cv) := by go_simp
      clear hv hv2
      go_wp2_with fail
      exact bodyPost_ret (v := .agg #[.int .i64 k, .slice av r cv]) (by simp [results, Try.results63, go_sem, q0, q1]) rfl ⟨⟨_, rfl, by rw [HR.out]; exact HV2.out.mono (show W.heap.size ≤ w0.heap.size by omega)⟩, S2.below⟩

end Go.Proofs.Ytnpdojjffbhalaa
