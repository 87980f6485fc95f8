/-
  What Split makes, in plain lists.
  The walk of share.Split.
  What Join answers, in plain lists.
  What vote.Most reckons: the shares that a content has; each set of as many as are enough is tried, in order.
-/
import Derived.Test.YtjakdgchfimhkaaGreatCurves
import Derived.Test.YtjakdgchfimhkaaGreatBase
namespace Go.Proofs.YtjakdgchfimhkaaGreat

/-- The places 0 to below n. -/
def placesL (n : Nat) : List Int := (List.range n).map fun (k : Nat) => (k : Int)
/-- Row r of a content, n numbers, noughts behind it. -/
def rowL (n : Nat) (data : List Int) (r : Nat) : List Int := (List.range n).map fun j => data.getD (r * n + j) 0
/-- The number that share k has of row r. -/
def partV (n : Nat) (data : List Int) (k r : Nat) : Int := atV (placesL n) (rowL n data r) k
/-- Share k, of the first r rows. -/
def shareL (n : Nat) (data : List Int) (r k : Nat) : Int × List Int := ((k : Int), (List.range r).map (partV n data k))
def sharesL (n : Nat) (data : List Int) (o r : Nat) : List (Int × List Int) := (List.range o).map (shareL n data r)
/-- On the way: r rows are done, and of the next one the first m shares. -/
def stL (n : Nat) (data : List Int) (o r m : Nat) : List (Int × List Int) :=
  (List.range o).map fun k => (if 0 < r ∨ k < m then (k : Int) else 0, (List.range (if k < m then r + 1 else r)).map (partV n data k))

theorem placesL_len (n : Nat) : (placesL n).length = n := by simp [placesL]
theorem rowL_len (n : Nat) (data : List Int) (r : Nat) : (rowL n data r).length = n := by simp [rowL]
theorem stL_start (n : Nat) (data : List Int) (o : Nat) : stL n data o 0 0 = List.replicate o (0, []) := by
  apply List.ext_getElem (by simp [stL])
  intro i h1 h2
  simp [stL]
theorem stL_next (n : Nat) (data : List Int) (o r : Nat) : stL n data o r o = stL n data o (r + 1) 0 := by
  apply List.ext_getElem (by simp [stL])
  intro i h1 h2
  have : i < o := by simpa [stL] using h1
  simp [stL, this]
theorem stL_done (n : Nat) (data : List Int) (o r : Nat) (hr : 0 < r) : stL n data o r 0 = sharesL n data o r := by
  apply List.ext_getElem (by simp [stL, sharesL])
  intro i h1 h2
  simp [stL, sharesL, shareL, hr]
theorem stL_at (n : Nat) (data : List Int) (o r m : Nat) (hm : m < o) : ∃ N, (stL n data o r m)[m]? = some (N, (List.range r).map (partV n data m)) := by
  refine ⟨if 0 < r then (m : Int) else 0, ?_⟩
  simp [stL, hm]
theorem stL_step (n : Nat) (data : List Int) (o r m : Nat) : (stL n data o r m).set m ((m : Int), (List.range r).map (partV n data m) ++ [partV n data m r]) = stL n data o r (m + 1) := by
  apply List.ext_getElem (by simp [stL])
  intro i h1 h2
  rw [List.getElem_set]
  by_cases him : m = i
  · subst him
    simp [stL, List.range_succ]
  · rw [if_neg him]
    simp only [stL, List.getElem_map, List.getElem_range]
    by_cases hlt : i < m
    · simp [hlt, show i < m + 1 by omega]
    · simp [hlt, show ¬ i < m + 1 by omega]

theorem numsL_places {n : Nat} (hn : n ≤ 8) : ∀ a ∈ placesL n, 0 ≤ a ∧ a < 31 := by
  intro a ha
  obtain ⟨k, hk, rfl⟩ := List.mem_map.1 ha
  have := List.mem_range.1 hk
  omega
theorem numsL_row {n : Nat} {data : List Int} (hd : ∀ z ∈ data, 0 ≤ z ∧ z < 31) (r : Nat) : ∀ a ∈ rowL n data r, 0 ≤ a ∧ a < 31 := by
  intro a ha
  obtain ⟨k, _, rfl⟩ := List.mem_map.1 ha
  exact AllNum.getD hd _
theorem ptsOk_row {n : Nat} {data : List Int} (hn1 : 1 ≤ n) (hn : n ≤ 4) (hd : ∀ z ∈ data, 0 ≤ z ∧ z < 31) (r : Nat) : PtsOk (placesL n) (rowL n data r) := by
  refine ⟨by rw [placesL_len, rowL_len], by rw [placesL_len]; exact hn1, by rw [placesL_len]; omega, numsL_places (by omega), numsL_row hd r, ?_⟩
  unfold placesL
  refine List.pairwise_map.2 (List.Pairwise.imp ?_ List.pairwise_lt_range)
  intro a b hab e
  omega
/-- A row as it is copied: what is left of the content, noughts behind it. -/
theorem row_copied (n : Nat) (data : List Int) (r : Nat) (h : r * n ≤ data.length) :
    (data.drop (r * n)).take (List.replicate n (0 : Int)).length ++ (List.replicate n (0 : Int)).drop (data.drop (r * n)).length = rowL n data r := by
  apply List.ext_getElem
  · simp [rowL]; omega
  · intro i h1 h2
    have hi : i < n := by simpa [rowL] using h2
    simp only [rowL, List.getElem_map, List.getElem_range, List.getD_eq_getElem?_getD]
    rw [List.getElem_append]
    split
    · rename_i hlt
      simp at hlt
      simp only [List.getElem_take, List.getElem_drop]
      rw [List.getElem?_eq_getElem (by omega)]
      rfl
    · rename_i hge
      simp at hge
      rw [List.getElem?_eq_none (by omega)]
      simp

end Go.Proofs.YtjakdgchfimhkaaGreat

namespace Go.Proofs.YtjakdgchfimhkaaGreat
open Go.RowKit

theorem info_share : (Tryz.prog.info? 58).map (fun i => (i.zero, i.size, i.bytes)) = some (some (.agg #[.int .i64 0, .slice none 0 0]), 2, 32) := by kernel_rfl

theorem ret_nilE {v : Value} {a b : Int} (h : a = b) : Ending.returned (.tuple #[v, .int .i64 a]) = .returned (.tuple #[v, .int .i64 b]) := by rw [h]

/-- What is wrong with a content. -/
def splitE (n o s : Int) (data : List Int) : Int := if planV n o s ≠ 0 then planV n o s else if (data.length : Int) ≠ s then 3 else allV data

set_option maxRecDepth 100000 in
set_option maxHeartbeats 2000000 in
theorem Split_no (n o s : Int) (v : Value) (data : List Int) (W : World) (hd : IsInts W v data) (hE : splitE n o s data ≠ 0) :
    Calls Tryz.prog 21 #[.agg #[.int .i64 n, .int .i64 o, .int .i64 s], v] W fun e w' => e = .returned (.tuple #[.slice none 0 0, .int .i64 (splitE n o s data)]) ∧ Below W.heap.size W w' := by
  obtain ⟨a, c, rfl, hc, ⟨hm, _⟩, _⟩ := hd.opened
  have S0 := (Since.refl W).alloc (.cells #[.int .i64 n, .int .i64 o, .int .i64 s] 30)
  have hd0 := hd.stays (below_alloc _ (.cells #[.int .i64 n, .int .i64 o, .int .i64 s] 30))
  have c0 : (W.alloc (.cells #[.int .i64 n, .int .i64 o, .int .i64 s] 30)).cell? ⟨W.heap.size, 0, none⟩ = some (.int .i64 n) := by go_simp
  have c1 : (W.alloc (.cells #[.int .i64 n, .int .i64 o, .int .i64 s] 30)).cell? ⟨W.heap.size, 1, none⟩ = some (.int .i64 o) := by go_simp
  have c2 : (W.alloc (.cells #[.int .i64 n, .int .i64 o, .int .i64 s] 30)).cell? ⟨W.heap.size, 2, none⟩ = some (.int .i64 s) := by go_simp
  obtain ⟨w0, hw0⟩ : ∃ w0, w0 = W.alloc (.cells #[.int .i64 n, .int .i64 o, .int .i64 s] 30) := ⟨_, rfl⟩
  rw [← hw0] at S0 hd0 c0 c1 c2
  have HW := Lib.hid hw0
  clear hw0
  obtain ⟨B, hB⟩ : ∃ B, B = W.heap.size := ⟨_, rfl⟩
  rw [← hB] at c0 c1 c2
  have HB := Lib.hid hB
  clear hB
  have l0 := cell_lt c0
  by_cases hp : planV n o s = 0
  · have HP := Lib.hid hp
    by_cases hl : (data.length : Int) = s
    · have H := Lib.hid (show splitE n o s data = allV data by unfold splitE; rw [if_neg (by simpa using hp), if_neg (by simpa using hl)])
      have hl1 : ((data.length : Int) != s) = false := by simpa using hl
      have HE := Lib.hid hE
      clear hp hl hE hd
      go_enter Tryz.func21, Tryz.ntmps21
      go_wp2_with fail
      rw [← HW.out, ← HB.out]
      refine (planCheck_any _ _ _ _).mono ?_
      rintro e w1 ⟨rfl, hb1⟩
      rw [HP.out]
      have d2 := (hb1.cell (p := ⟨B, 2, none⟩) l0).trans c2
      have S1 := S0.step hb1
      have hd1 := hd0.stays hb1
      clear c0 c1 c2 hb1 S0 hd0
      go_wp2_with fail
      obtain ⟨a', c', ee, _, _, hi⟩ := hd1.opened
      simp only [Value.slice.injEq] at ee
      obtain ⟨rfl, _, rfl⟩ := ee
      go_loop [30] (fun i => ∃ k : Nat, k ≤ data.length ∧ i = .int .i64 k ∧ allV (data.drop k) = allV data) (fun i => data.length - (intOf i).toNat)
      case atStart => exact ⟨0, by omega, rfl, rfl⟩
      case round =>
        obtain ⟨k, hk, rfl, hq⟩ := hrel
        have HQ := Lib.hid hq
        clear hq
        by_cases hlt : k < data.length
        · obtain ⟨b1, o1, z1, rfl, hc1, hz1, hi1⟩ := hi k hlt
          have HZ := Lib.hid (drop_get hz1)
          clear hz1
          by_cases n1 : 0 ≤ z1 ∧ z1 < 31
          · obtain ⟨n10, n11⟩ := n1
            go_wp2_with (go_at_call 56; refine (Check_yes _ _ (by omega) (by omega)).mono ?_; rintro e w' ⟨rfl, rfl⟩)
            go_round
            case rel =>
              refine ⟨k + 1, by omega, by go_num, ?_⟩
              rw [← HQ.out, HZ.out]
              simp [allV, numOk_iff.2 ⟨n10, n11⟩]
            case measure => simp [intOf]; omega
          · go_wp2_with (go_at_call 56; refine (Check_no _ _ (by omega)).mono ?_; rintro e w' ⟨rfl, rfl⟩)
            go_ret2
            refine ⟨ret_nilE ?_, S1.below⟩
            rw [H.out, ← HQ.out, HZ.out]
            simp [allV, numOk_no.2 (show z1 < 0 ∨ 31 ≤ z1 by omega)]
        · obtain rfl : k = data.length := by omega
          exfalso
          apply HE.out
          rw [H.out, ← HQ.out]
          simp [allV]
    · have H := Lib.hid (show splitE n o s data = 3 by unfold splitE; rw [if_neg (by simpa using hp), if_pos hl])
      have hl1 : ((data.length : Int) != s) = true := by simpa using hl
      clear hp hl hE hd
      go_enter Tryz.func21, Tryz.ntmps21
      go_wp2_with fail
      rw [← HW.out, ← HB.out]
      refine (planCheck_any _ _ _ _).mono ?_
      rintro e w1 ⟨rfl, hb1⟩
      rw [HP.out]
      have d2 := (hb1.cell (p := ⟨B, 2, none⟩) l0).trans c2
      have S1 := S0.step hb1
      clear c0 c1 c2
      go_wp2_with fail
      go_ret2
      exact ⟨ret_nilE H.out.symm, S1.below⟩
  · have H := Lib.hid (show splitE n o s data = planV n o s by unfold splitE; rw [if_pos hp])
    have hne : (planV n o s != 0) = true := by simpa using hp
    clear hp hE
    go_enter Tryz.func21, Tryz.ntmps21
    go_wp2_with fail
    rw [← HW.out, ← HB.out]
    refine (planCheck_any _ _ _ _).mono ?_
    rintro e w1 ⟨rfl, hb1⟩
    have S1 := S0.step hb1
    clear c0 c1 c2
    go_wp2_with fail
    go_ret2
    exact ⟨ret_nilE H.out.symm, S1.below⟩

theorem splitE_ok {n o s : Int} {data : List Int} (h : splitE n o s data = 0) : planV n o s = 0 ∧ (data.length : Int) = s ∧ ∀ z ∈ data, 0 ≤ z ∧ z < 31 := by
  unfold splitE at h
  split at h
  · rename_i h1; exact absurd h h1
  · rename_i h1
    split at h
    · simp at h
    · rename_i h2
      exact ⟨by simpa using h1, by simpa using h2, (allV_ok data).1 h⟩
theorem gr_of {w w' : World} {b c : Value} (e : b = c) (h : w.grownBy w' b.ownBlock) : w.grownBy w' c.ownBlock := e ▸ h
theorem at_of {a b c : Value} {t : Option Nat} (e : b = c) (h : a.ownBlock = b.ownBlock ∨ a.ownBlock = t) : a.ownBlock = c.ownBlock ∨ a.ownBlock = t := e ▸ h
/-- The rows of a content. -/
def rowsN (n s : Nat) : Nat := (s + n - 1) / n
theorem rows_end {n s r : Nat} (h1 : 1 ≤ n) (h2 : n ≤ 4) (hr : s ≤ r * n) (hr' : r * n < s + n) : r = rowsN n s := by
  unfold rowsN
  rcases (by omega : n = 1 ∨ n = 2 ∨ n = 3 ∨ n = 4) with rfl | rfl | rfl | rfl <;> omega

set_option maxRecDepth 100000 in
set_option maxHeartbeats 4000000 in
theorem Split_ok (n o s : Nat) (v : Value) (data : List Int) (W : World) (hd : IsInts W v data) (hE : splitE n o s data = 0) :
    Calls Tryz.prog 21 #[.agg #[.int .i64 n, .int .i64 o, .int .i64 s], v] W fun e w' => (∃ g f, e = .returned (.tuple #[.slice (some ⟨g, 0, none⟩) o o, .int .i64 0]) ∧ OwnSh w' 3 58 W.heap.size g o (sharesL n data o (rowsN n s)) f) ∧ Below W.heap.size W w' := by
  obtain ⟨hp, hl, hnum⟩ := splitE_ok hE
  obtain ⟨p1, p2, p3, p4, p5, p6⟩ := planV_bd hp
  obtain ⟨a, c, rfl, hc, ⟨hm, hcm, _⟩, hda⟩ := hd.opened
  obtain ⟨bd, od, _, rfl, _⟩ := hda 0 (by omega)
  clear hda
  have HP := Lib.hid hp
  have HN := Lib.hid hnum
  have hs1 : s ≤ data.length := by omega
  have hs2 : data.length ≤ s := by omega
  have hl1 : ((data.length : Int) != (s : Int)) = false := by simpa using hl
  have hsl := Lib.hid (show data.length = s by omega)
  clear hp hl hnum hE
  have S0 := (Since.refl W).alloc (.cells #[.int .i64 (n : Int), .int .i64 (o : Int), .int .i64 (s : Int)] 30)
  have hd0 := hd.stays (below_alloc _ (.cells #[.int .i64 (n : Int), .int .i64 (o : Int), .int .i64 (s : Int)] 30))
  have c0 : (W.alloc (.cells #[.int .i64 (n : Int), .int .i64 (o : Int), .int .i64 (s : Int)] 30)).cell? ⟨W.heap.size, 0, none⟩ = some (.int .i64 n) := by go_simp
  have c1 : (W.alloc (.cells #[.int .i64 (n : Int), .int .i64 (o : Int), .int .i64 (s : Int)] 30)).cell? ⟨W.heap.size, 1, none⟩ = some (.int .i64 o) := by go_simp
  have c2 : (W.alloc (.cells #[.int .i64 (n : Int), .int .i64 (o : Int), .int .i64 (s : Int)] 30)).cell? ⟨W.heap.size, 2, none⟩ = some (.int .i64 s) := by go_simp
  obtain ⟨w0, hw0⟩ : ∃ w0, w0 = W.alloc (.cells #[.int .i64 (n : Int), .int .i64 (o : Int), .int .i64 (s : Int)] 30) := ⟨_, rfl⟩
  rw [← hw0] at S0 hd0 c0 c1 c2
  have HW := Lib.hid hw0
  clear hw0
  obtain ⟨B, hB⟩ : ∃ B, B = W.heap.size := ⟨_, rfl⟩
  rw [← hB] at c0 c1 c2
  have HB := Lib.hid hB
  clear hB
  have l0 := cell_lt c0
  clear hd
  go_enter Tryz.func21, Tryz.ntmps21
  go_wp2_with fail
  rw [← HW.out, ← HB.out]
  refine (planCheck_any _ _ _ _).mono ?_
  rintro e w1 ⟨rfl, hb1⟩
  rw [HP.out]
  have T1 := (Since.refl w0).step hb1
  have d2 := (T1.below.cell (p := ⟨B, 2, none⟩) l0).trans c2
  have hd1 := hd0.stays T1.below
  go_wp2_with fail
  clear d2
  obtain ⟨a', c', ee, _, _, hi⟩ := hd1.opened
  simp only [Value.slice.injEq] at ee
  obtain ⟨rfl, _, rfl⟩ := ee
  go_loop [30] (fun i => ∃ k : Nat, k ≤ data.length ∧ i = .int .i64 k) (fun i => data.length - (intOf i).toNat)
  case atStart => exact ⟨0, by omega, rfl⟩
  case round =>
    obtain ⟨k, hk, rfl⟩ := hrel
    by_cases hlt : k < data.length
    · obtain ⟨b1, o1, z1, e3, hc1, hz1, hi1⟩ := hi k hlt
      cases e3
      obtain ⟨n10, n11⟩ := HN.out z1 (List.mem_of_getElem? hz1)
      clear hz1
      go_wp2_with (go_at_call 56; refine (Check_yes _ _ (by omega) (by omega)).mono ?_; rintro e w' ⟨rfl, rfl⟩)
      go_round
      case rel => exact ⟨k + 1, by omega, by go_num⟩
      case measure => simp [intOf]; omega
    · obtain rfl : k = data.length := by omega
      clear hi hd1 hlt hk
      have d0 := (T1.below.cell (p := ⟨B, 0, none⟩) l0).trans c0
      go_wp2_with fail
      clear d0
      go_loopw [42, 10] (fun i x wr => ∃ k : Nat, k ≤ n ∧ i = .int .i64 k ∧ Since w0.heap.size w0 wr ∧ OwnInts wr 3 w0.heap.size x (placesL k)) (fun i _ _ => n - (intOf i).toNat)
      case atStart => exact ⟨0, by omega, rfl, T1, OwnInts.nil _ _ _⟩
      case round =>
        obtain ⟨k, hk, rfl, hS, hx⟩ := hrel
        by_cases hlt : k < n
        · have hpl := placesL_len k
          have HPL := Lib.hid hpl
          have hpl2 : (placesL k).length ≤ 4 := by omega
          clear hpl
          have hgs := hS.2
          go_wp2_with (at_builtin; refine wpList_append_int rfl _ _ 28 rfl 3 Tryz.underlying28 info_int w0.heap.size _ _ rfl (hx.stays (below_alloc wr _)) ⟨wr.heap.size, 0, none⟩ 1 (k : Int) rfl (by simp) ⟨by omega, by omega⟩ (by omega) (by simp; omega) ?_; intro v' w4 hx4 hg4)
          go_roundw
          case rel => exact ⟨k + 1, by omega, by go_num, (hS.alloc _).own (hx.stays (below_alloc wr _)) hg4, by rw [show placesL (k + 1) = placesL k ++ [(k : Int)] by simp [placesL, List.range_succ]]; exact hx4⟩
          case measure => simp [intOf]; omega
        · obtain rfl : n = k := by omega
          clear hlt hk T1
          have d1 := (hS.below.cell (p := ⟨B, 1, none⟩) l0).trans c1
          obtain ⟨wo, hwo⟩ : ∃ wo : World, wo = wr := ⟨_, rfl⟩
          rw [← hwo] at hS hx d1 ⊢
          clear hwo
          have hog := hx.1.lt
          have hgs := hS.2
          go_wp2_with (at_make; refine wpList_make_shares rfl _ _ 50 rfl 3 58 Tryz.underlying50 info_share wo.heap.size _ o rfl rfl rfl (by omega) (Nat.le_refl _) ?_; intro w2 hO2 hg2)
          have S2 : Since w0.heap.size w0 w2 := hS.grown hg2 (fun k hk => by cases hk)
          have hx2 := hx.kept hg2 (by cases u10.ownBlock <;> simp)
          obtain ⟨g, hg⟩ : ∃ g, g = wo.heap.size := ⟨_, rfl⟩
          rw [← hg] at hO2 hog hgs ⊢
          clear hg hg2 hx hS d1
          go_loopw [13] (fun i wr => ∃ r : Nat, ∃ f : Nat → Value, r * n < s + n ∧ r ≤ 24 ∧ i = .int .i64 ((r * n : Nat) : Int) ∧ Since w0.heap.size w0 wr ∧ OwnInts wr 3 w0.heap.size u10 (placesL n) ∧ OwnSh wr 3 58 g g o (stL n data o r 0) f) (fun i _ => s + n - (intOf i).toNat)
          case atStart => exact ⟨0, _, by omega, by omega, by go_num, S2, hx2, by rw [stL_start]; exact hO2⟩
          case round =>
            obtain ⟨r, f, hr1, hr2, rfl, hS, hx, hO⟩ := hrel
            obtain ⟨q, hq⟩ : ∃ q, q = r * n := ⟨_, rfl⟩
            rw [← hq] at hr1 ⊢
            have HQ := Lib.hid hq
            clear hq S2 hx2 hO2
            obtain ⟨wo, hwo⟩ : ∃ wo : World, wo = wr := ⟨_, rfl⟩
            rw [← hwo] at hS hx hO ⊢
            clear hwo
            by_cases hlt : q < data.length
            · have d0 := (hS.below.cell (p := ⟨B, 0, none⟩) l0).trans c0
              have hdr := (hd0.stays hS.below).from q (by omega)
              obtain ⟨r0, hr0⟩ : ∃ r0, r0 = wo.heap.size := ⟨_, rfl⟩
              have hq2 : q < c := by omega
              have e1 : ¬ (q = c) := by omega
              go_wp2_with (first | (at_make; refine wpList_make_ints rfl _ _ 28 rfl 3 Tryz.underlying28 info_int wo.heap.size _ n rfl rfl rfl (by omega) (Nat.le_refl _) ?_; intro w3 hw3 hg3; have hdr3 := hdr.stays (show Below wo.heap.size wo w3 from (Below.refl _ _).grown hg3 (Nat.le_refl _) (fun k hk => by cases hk))) | (refine wpList_copy_ints rfl (.tmp 64) (.tmp 67) 28 rfl 3 Tryz.underlying28 info_int wo.heap.size wo.heap.size n n _ rfl hw3 (data.drop q) _ rfl hdr3 ?_; intro w4 cc hw4 hg4))
              rw [HQ.out, row_copied n data r (by rw [← HQ.out]; omega)] at hw4
              have hgl := hO.lt
              have hfl := fun k hk j hj => (hO.flt (k := k) (j := j) hk hj).2
              have S4 : Since w0.heap.size w0 w4 := (hS.grown hg3 (fun k hk => by cases hk)).grown hg4 (fun k hk => by cases hk; exact hS.2)
              have hO4 := (hO.kept hg3 (by simp) (fun k _ => by cases (f k).ownBlock <;> simp)).kept hg4 (by simp; omega) (fun k hk => by
                cases hfk : (f k).ownBlock with
                | none => exact Or.inl rfl
                | some j => right; have := hfl k hk j hfk; simp; omega)
              have hx4 := (hx.kept hg3 (by cases u10.ownBlock <;> simp)).kept hg4 (by
                cases hxk : u10.ownBlock with
                | none => exact Or.inl rfl
                | some j => right; have := (hog j hxk).2; simp; omega)
              have hoff4 : ∀ k, k < o → (f k).ownBlock ≠ some wo.heap.size := fun k hk e => by have := hfl k hk _ e; omega
              have hwog : ¬ g = wo.heap.size := by omega
              have hr0g : w0.heap.size ≤ wo.heap.size := hS.2
              clear hS hx hO hdr hdr3 hw3 hg3 hg4 d0 hgl hfl e1
              generalize wo.heap.size = r0 at *
              go_loopw [71] (fun i wr => ∃ m : Nat, ∃ f : Nat → Value, m ≤ o ∧ i = .int .i64 m ∧ Since w0.heap.size w0 wr ∧ OwnInts wr 3 w0.heap.size u10 (placesL n) ∧ OwnInts wr 3 r0 (.slice (some ⟨r0, 0, none⟩) n n) (rowL n data r) ∧ OwnSh wr 3 58 g g o (stL n data o r m) f ∧ ∀ k, k < o → (f k).ownBlock ≠ some r0) (fun i _ => o - (intOf i).toNat)
              case atStart => exact ⟨0, f, by omega, rfl, S4, hx4, hw4, hO4, hoff4⟩
              case round =>
                obtain ⟨m, f', hm1, rfl, hS, hx, hrow, hO, hoff⟩ := hrel
                have HOFF := Lib.hid hoff
                clear hoff S4 hx4 hw4 hO4 hoff4
                by_cases hlm : m < o
                · obtain ⟨N, hN⟩ := stL_at n data o r m hlm
                  have HPT := Lib.hid (ptsV_ok.2 (ptsOk_row (n := n) (data := data) (by omega) (by omega) HN.out r))
                  go_wp2_with fail
                  refine (At_ok _ _ (placesL n) (rowL n data r) m _ hx.isInts hrow.isInts HPT.out (by omega) (by omega)).mono ?_
                  rintro e w5 ⟨rfl, hb5⟩
                  have S5 := hS.step hb5
                  have hx5 := hx.stays hb5
                  have hrow5 := hrow.stays hb5
                  have hO5 := hO.stays hb5
                  have hpb := atV_bd (placesL n) (rowL n data r) m
                  have cV := hO5.cellV hN
                  have cN := hO5.cellN hN
                  have fz0 := hO5.free (m * 2)
                  have fz1 := hO5.free (m * 2 + 1)
                  have hfo := hO5.own m _ hN
                  obtain ⟨vf, hvf⟩ : ∃ vf, vf = f' m := ⟨_, rfl⟩
                  rw [← hvf] at cV hfo
                  have HVF := Lib.hid hvf
                  clear hvf hb5 hS hx hrow hO
                  have hgs5 := S5.2
                  have hgl5 := hO5.lt
                  have hlen5 : ((List.range r).map (partV n data m)).length ≤ 24 := by simp; omega
                  have iz5 : I64 (atV (placesL n) (rowL n data r) m) := ⟨by omega, by omega⟩
                  have hO5a := fun o => hO5.stays (below_alloc w5 o)
                  have HO5a := Lib.hid hO5a
                  clear hO5a
                  go_wp2_with (at_builtin; refine wpList_append_int_at rfl _ _ 28 rfl 3 Tryz.underlying28 info_int g _ ((List.range r).map (partV n data m)) rfl (hfo.stays (below_alloc w5 _)) ⟨w5.heap.size, 0, none⟩ 1 (atV (placesL n) (rowL n data r) m) rfl (by simp) iz5 (by omega) (by simp; omega) ?_; intro v' w6 ho6 hg6 hat6; obtain ⟨av, cv, rfl, _⟩ := ho6.isInts.opened; have hg7 := gr_of HVF.out hg6; have hat7 := at_of HVF.out hat6; have hgq := (HO5a.out _).same hlm hg7; have c6N := (World.cell?_of_block (a := ⟨g, m * 2, none⟩) hgq).trans ((HO5a.out _).cellN hN); have c6V := (World.cell?_of_block (a := ⟨g, m * 2 + 1, none⟩) hgq).trans ((HO5a.out _).cellV hN); have z6N := (World.frozen?_of_block (a := ⟨g, m * 2, none⟩) hgq).trans ((HO5a.out _).free (m * 2)); have z6V := (World.frozen?_of_block (a := ⟨g, m * 2 + 1, none⟩) hgq).trans ((HO5a.out _).free (m * 2 + 1)); have HGQ := Lib.hid hgq; clear hgq)
                  clear hg6 hat6
                  have hln : ((List.range r).map (partV n data m) ++ [atV (placesL n) (rowL n data r) m]).length = r + 1 := by simp
                  have hfm := fun b (hb : (f' m).ownBlock = some b) => (hO5.flt hlm hb)
                  have hrl := hrow5.1.lt r0 rfl
                  rw [hln] at ho6 hat7
                  have hput := OwnSh.put (HO5a.out _) hlm (N := (m : Int)) ⟨by omega, by omega⟩ (Nat.le_refl _) hg7 ho6 hat7
                  have hst : (stL n data o r m).set m ((m : Int), (List.range r).map (partV n data m) ++ [atV (placesL n) (rowL n data r) m]) = stL n data o r (m + 1) := stL_step n data o r m
                  rw [hst] at hput
                  have S6 := (((S5.alloc _).grown hg7 (fun k hk => Nat.le_trans hgs (hfm k hk).1)).setCell (a := ⟨g, m * 2, none⟩) hgs (.int .i64 m)).setCell (a := ⟨g, m * 2 + 1, none⟩) hgs (.slice av (r + 1) cv)
                  have hx6 := (((hx5.stays (below_alloc w5 _)).kept hg7 (by
                    cases hxk : u10.ownBlock with
                    | none => exact Or.inl rfl
                    | some j => right; intro e; have := (hog j hxk).2; have := (hfm j e.symm).1; omega)).kept (grown_setCell w6 ⟨g, m * 2, none⟩ (.int .i64 m)) (by
                    cases hxk : u10.ownBlock with
                    | none => exact Or.inl rfl
                    | some j => right; intro e; have := (hog j hxk).2; simp at e; omega)).kept (grown_setCell _ ⟨g, m * 2 + 1, none⟩ (.slice av (r + 1) cv)) (by
                    cases hxk : u10.ownBlock with
                    | none => exact Or.inl rfl
                    | some j => right; intro e; have := (hog j hxk).2; simp at e; omega)
                  have hrow6 := (((hrow5.stays (below_alloc w5 _)).kept hg7 (Or.inr fun e => HOFF.out m hlm e.symm)).kept (grown_setCell w6 ⟨g, m * 2, none⟩ (.int .i64 m)) (Or.inr fun e => hwog (by cases e; rfl))).kept (grown_setCell _ ⟨g, m * 2 + 1, none⟩ (.slice av (r + 1) cv)) (Or.inr fun e => hwog (by cases e; rfl))
                  have hoff6 : ∀ k, k < o → (if k = m then Value.slice av (r + 1) cv else f' k).ownBlock ≠ some r0 := by
                    intro k hk
                    split
                    · intro e
                      rcases hat7 with hat | hat
                      · exact HOFF.out m hlm (hat ▸ e)
                      · rw [hat] at e
                        simp only [Option.some.injEq] at e
                        simp at e
                        omega
                    · exact HOFF.out k hk
                  have HPUT := Lib.hid hput
                  have HX6 := Lib.hid hx6
                  have HR6 := Lib.hid hrow6
                  have HF6 := Lib.hid hoff6
                  have HS6 := Lib.hid S6
                  clear hput hx6 hrow6 hoff6 S6 ho6 hg7 hat7 hfm
                  go_roundw
                  case rel => exact ⟨m + 1, _, by omega, by go_num, HS6.out, HX6.out, HR6.out, HPUT.out, HF6.out⟩
                  case measure => simp [intOf]; omega
                · obtain rfl : o = m := by omega
                  have d0' := (hS.below.cell (p := ⟨B, 0, none⟩) l0).trans c0
                  go_wp2_with fail
                  go_roundw
                  case rel =>
                    refine ⟨r + 1, f', ?_, ?_, ?_, hS, hx, by rw [← stL_next]; exact hO⟩
                    · rw [Nat.add_mul, ← HQ.out]; omega
                    · have := HQ.out
                      have : r ≤ q := by rw [HQ.out]; exact Nat.le_mul_of_pos_right _ (by omega)
                      omega
                    · rw [Nat.add_mul, ← HQ.out]; go_num
                  case measure => simp [intOf]; omega
            · go_wp2_with fail
              go_ret2
              have hrn : r = rowsN n s := rows_end (by omega) (by omega) (by rw [← HQ.out]; omega) (by rw [← HQ.out]; omega)
              have hr0 : 0 < r := by
                rcases Nat.eq_zero_or_pos r with h0 | h0
                · have := HQ.out; subst h0; omega
                · exact h0
              rw [stL_done _ _ _ _ hr0, hrn] at hO
              exact ⟨⟨g, f, rfl, hO.mono (Nat.le_trans S0.2 hgs)⟩, (S0.step hS.below).below⟩

end Go.Proofs.YtjakdgchfimhkaaGreat

namespace Go.Proofs.YtjakdgchfimhkaaGreat

/-- What is wrong with shares, one behind the other. -/
def checkL (n o s : Int) : List Sh → List Sh → Int
  | _, [] => 0
  | seen, t :: r => if oneV n o s t.1 t.2 ≠ 0 then oneV n o s t.1 t.2 else if hasN seen t.1 then 5 else checkL n o s (seen ++ [t]) r
/-- What is wrong with shares, ahead of what they say. -/
def checksL (n o s : Int) (ls : List Sh) : Int :=
  if planV n o s ≠ 0 then planV n o s else if 8 < (ls.length : Int) then 1 else if checkL n o s [] ls ≠ 0 then checkL n o s [] ls else if (ls.length : Int) < n then 7 else 0

theorem oneV_ok {n o s N : Int} {l : List Int} (h : oneV n o s N l = 0) : 0 ≤ N ∧ N < o ∧ (l.length : Int) = longV n o s ∧ ∀ z ∈ l, 0 ≤ z ∧ z < 31 := by
  unfold oneV at h
  split at h
  · rename_i h1; exact absurd h h1
  · split at h
    · simp at h
    · rename_i h2
      split at h
      · simp at h
      · rename_i h3
        exact ⟨by omega, by omega, by simpa using h3, (allV_ok l).1 h⟩
theorem hasN_iff (ls : List Sh) (M : Int) : hasN ls M = true ↔ ∃ t ∈ ls, t.1 = M := by simp [hasN]
theorem checkL_ok {n o s : Int} : ∀ {r seen : List Sh}, checkL n o s seen r = 0 → (seen.map (·.1)).Pairwise (· ≠ ·) → (∀ t ∈ r, oneV n o s t.1 t.2 = 0) ∧ ((seen ++ r).map (·.1)).Pairwise (· ≠ ·)
  | [], seen, _, hp => ⟨by simp, by simpa using hp⟩
  | t :: r, seen, h, hp => by
    unfold checkL at h
    split at h
    · rename_i h1; exact absurd h h1
    · rename_i h1
      split at h
      · simp at h
      · rename_i h2
        have hp2 : ((seen ++ [t]).map (·.1)).Pairwise (· ≠ ·) := by
          rw [List.map_append, List.pairwise_append]
          refine ⟨hp, by simp, ?_⟩
          intro a ha b hb e
          obtain ⟨u, hu, rfl⟩ := List.mem_map.1 ha
          simp at hb
          subst hb
          exact h2 ((hasN_iff _ _).2 ⟨u, hu, e⟩)
        obtain ⟨i1, i2⟩ := checkL_ok h hp2
        refine ⟨?_, by simpa using i2⟩
        intro u hu
        rcases List.mem_cons.1 hu with rfl | hu
        · simpa using h1
        · exact i1 u hu

/-- The places of the first shares; their numbers in row i. -/
def xsL (n : Nat) (ls : List Sh) : List Int := (ls.take n).map (·.1)
def ysL (n : Nat) (ls : List Sh) (i : Nat) : List Int := (ls.take n).map fun t => t.2.getD i 0
def outK (n : Nat) (ls : List Sh) (i k : Nat) : List Int := (List.range k).map fun (j : Nat) => atV (xsL n ls) (ysL n ls i) (j : Int)
def outL (n : Nat) (ls : List Sh) (i : Nat) : List Int := outK n ls i n
def tornL (n : Nat) (ls : List Sh) (i : Nat) : Bool := (ls.drop n).any fun t => decide (atV (xsL n ls) (ysL n ls i) t.1 ≠ t.2.getD i 0)
/-- The first r rows: what they are of; is one of them torn? -/
def dataL (n : Nat) (ls : List Sh) (r : Nat) : List Int := ((List.range r).map (outL n ls)).flatten
def tornsL (n : Nat) (ls : List Sh) (r : Nat) : Bool := (List.range r).any (tornL n ls)
/-- Join's errno and its content. -/
def joinE (n o s : Nat) (ls : List Sh) : Int :=
  if checksL n o s ls ≠ 0 then checksL n o s ls else if tornsL n ls (rowsN n s) then 9 else if hasNot ((dataL n ls (rowsN n s)).drop s) then 9 else 0
def joinD (n s : Nat) (ls : List Sh) : List Int := (dataL n ls (rowsN n s)).take s

/-- The content, or none. -/
def joinC (n o s : Nat) (ls : List Sh) : List Int := if joinE n o s ls = 0 then joinD n s ls else []
theorem joinC_err {n o s : Nat} {ls : List Sh} (h : joinE n o s ls ≠ 0) : joinC n o s ls = [] := by unfold joinC; rw [if_neg h]
theorem joinC_ok {n o s : Nat} {ls : List Sh} (h : joinE n o s ls = 0) : joinC n o s ls = joinD n s ls := by unfold joinC; rw [if_pos h]
theorem xsL_step {ls : List Sh} {k : Nat} {t : Sh} (h : ls[k]? = some t) : xsL (k + 1) ls = xsL k ls ++ [t.1] := by simp [xsL, List.take_add_one, h]
theorem ysL_step {ls : List Sh} {k : Nat} {t : Sh} (i : Nat) (h : ls[k]? = some t) : ysL (k + 1) ls i = ysL k ls i ++ [t.2.getD i 0] := by simp [ysL, List.take_add_one, h]
theorem outK_step (n : Nat) (ls : List Sh) (i k : Nat) : outK n ls i (k + 1) = outK n ls i k ++ [atV (xsL n ls) (ysL n ls i) (k : Int)] := by simp [outK, List.range_succ]
theorem outK_len (n : Nat) (ls : List Sh) (i k : Nat) : (outK n ls i k).length = k := by simp [outK]
theorem dataL_step (n : Nat) (ls : List Sh) (r : Nat) : dataL n ls (r + 1) = dataL n ls r ++ outK n ls r n := by simp [dataL, List.range_succ, outL]
theorem dataL_len (n : Nat) (ls : List Sh) : ∀ r, (dataL n ls r).length = r * n
  | 0 => by simp [dataL]
  | r + 1 => by rw [dataL_step, List.length_append, dataL_len n ls r, outK_len, Nat.add_mul, Nat.one_mul]
theorem tornsL_step (n : Nat) (ls : List Sh) (r : Nat) : tornsL n ls (r + 1) = (tornsL n ls r || tornL n ls r) := by simp [tornsL, List.range_succ]
theorem tornsL_of {n : Nat} {ls : List Sh} {r m : Nat} (h : tornL n ls r = true) (hr : r < m) : tornsL n ls m = true := by
  simp only [tornsL, List.any_eq_true]
  exact ⟨r, List.mem_range.2 hr, h⟩
theorem longV_nat {n o s : Nat} (h : planV n o s = 0) : longV n o s = (rowsN n s : Int) := by
  obtain ⟨p1, p2, p3, p4, p5, p6⟩ := planV_bd h
  unfold longV rowsN
  rw [if_pos h]
  rcases (by omega : n = 1 ∨ n = 2 ∨ n = 3 ∨ n = 4) with rfl | rfl | rfl | rfl <;> omega
theorem rowsN_bd {n s : Nat} (h1 : 1 ≤ n) (h2 : n ≤ 4) (h3 : 1 ≤ s) (h4 : s ≤ 24) : s ≤ rowsN n s * n ∧ rowsN n s * n < s + n ∧ rowsN n s ≤ 24 := by
  unfold rowsN
  rcases (by omega : n = 1 ∨ n = 2 ∨ n = 3 ∨ n = 4) with rfl | rfl | rfl | rfl <;> omega

/-- What right shares are. -/
structure Right (n o s : Nat) (ls : List Sh) : Prop where
  plan : planV n o s = 0
  few : n ≤ ls.length
  many : ls.length ≤ 8
  num : ∀ t ∈ ls, 0 ≤ t.1 ∧ t.1 < o
  len : ∀ t ∈ ls, t.2.length = rowsN n s
  vals : ∀ t ∈ ls, ∀ z ∈ t.2, 0 ≤ z ∧ z < 31
  nodup : (ls.map (·.1)).Nodup
theorem right_of {n o s : Nat} {ls : List Sh} (hp : planV n o s = 0) (hn : n ≤ ls.length) (hl : ls.length ≤ 8) (hE : checkL n o s [] ls = 0) : Right n o s ls := by
  obtain ⟨h1, h2⟩ := checkL_ok hE (by simp)
  refine ⟨hp, hn, hl, ?_, ?_, ?_, by simpa [List.Nodup] using h2⟩
  · intro t ht
    obtain ⟨g1, g2, _, _⟩ := oneV_ok (h1 t ht)
    exact ⟨g1, g2⟩
  · intro t ht
    obtain ⟨_, _, g3, _⟩ := oneV_ok (h1 t ht)
    rw [longV_nat hp] at g3
    omega
  · intro t ht
    exact (oneV_ok (h1 t ht)).2.2.2
theorem Right.pts {n o s : Nat} {ls : List Sh} (h : Right n o s ls) (r : Nat) : PtsOk (xsL n ls) (ysL n ls r) := by
  obtain ⟨p1, p2, p3, p4, p5, p6⟩ := planV_bd h.plan
  have hf := h.few
  refine ⟨by simp [xsL, ysL], by simp [xsL]; omega, by simp [xsL]; omega, ?_, ?_, ?_⟩
  · intro a ha
    obtain ⟨t, ht, rfl⟩ := List.mem_map.1 ha
    have := h.num t (List.mem_of_mem_take ht)
    omega
  · intro a ha
    obtain ⟨t, ht, rfl⟩ := List.mem_map.1 ha
    exact AllNum.getD (h.vals t (List.mem_of_mem_take ht)) _
  · have := h.nodup
    exact List.Nodup.sublist (List.Sublist.map _ (List.take_sublist n ls)) this

end Go.Proofs.YtjakdgchfimhkaaGreat

namespace Go.Proofs.YtjakdgchfimhkaaGreat

/-- Is it a share of this content? -/
def ofD (n r : Nat) (data : List Int) (t : Sh) : Bool := sameV t.1 t.1 t.2 (shareL n data r t.1.toNat).2
/-- The places at which it is so. -/
def idxF {α : Type} (p : α → Bool) : Nat → List α → List Int
  | _, [] => []
  | k, x :: r => (if p x then [(k : Int)] else []) ++ idxF p (k + 1) r
theorem idxF_snoc {α : Type} (p : α → Bool) : ∀ (l : List α) (k : Nat) (x : α), idxF p k (l ++ [x]) = idxF p k l ++ (if p x then [((k + l.length : Nat) : Int)] else [])
  | [], k, x => by simp [idxF]
  | y :: l, k, x => by
    simp only [List.cons_append, idxF, idxF_snoc p l (k + 1) x, List.append_assoc, List.length_cons]
    rw [show k + 1 + l.length = k + (l.length + 1) by omega]
theorem idxF_step {α : Type} (p : α → Bool) {l : List α} {k : Nat} {x : α} (h : l[k]? = some x) : idxF p 0 (l.take (k + 1)) = idxF p 0 (l.take k) ++ (if p x then [(k : Int)] else []) := by
  have hk := (List.getElem?_eq_some_iff.1 h).1
  rw [take_get h, idxF_snoc, List.length_take, Nat.min_eq_left (by omega), Nat.zero_add]
theorem idxF_len {α : Type} (p : α → Bool) : ∀ (l : List α) (k : Nat), (idxF p k l).length = l.countP p
  | [], k => rfl
  | x :: l, k => by
    simp only [idxF, List.length_append, idxF_len p l (k + 1), List.countP_cons]
    split <;> simp_all <;> omega
theorem mem_idxF {α : Type} {p : α → Bool} : ∀ {l : List α} {k : Nat} {z : Int}, z ∈ idxF p k l ↔ ∃ (i : Nat) (x : α), z = ((k + i : Nat) : Int) ∧ l[i]? = some x ∧ p x = true
  | [], k, z => by simp [idxF]
  | y :: l, k, z => by
    simp only [idxF, List.mem_append, mem_idxF (l := l) (k := k + 1)]
    constructor
    · rintro (h | ⟨i, x, rfl, h1, h2⟩)
      · split at h
        · rename_i hp
          simp at h
          exact ⟨0, y, by simpa using h, rfl, hp⟩
        · simp at h
      · exact ⟨i + 1, x, by rw [show k + 1 + i = k + (i + 1) by omega], by simpa using h1, h2⟩
    · rintro ⟨i, x, rfl, h1, h2⟩
      match i, h1 with
      | 0, h1 => simp at h1; subst h1; left; simp [h2]
      | i + 1, h1 => right; exact ⟨i, x, by rw [show k + 1 + i = k + (i + 1) by omega], by simpa using h1, h2⟩
/-- The numbers of the shares at all other places. -/
def badF (who : List Int) : Nat → List Sh → List Int
  | _, [] => []
  | k, t :: r => (if memB (k : Int) who then [] else [t.1]) ++ badF who (k + 1) r
theorem badF_snoc (who : List Int) : ∀ (l : List Sh) (k : Nat) (t : Sh), badF who k (l ++ [t]) = badF who k l ++ (if memB ((k + l.length : Nat) : Int) who then [] else [t.1])
  | [], k, t => by simp [badF]
  | y :: l, k, t => by
    simp only [List.cons_append, badF, badF_snoc who l (k + 1) t, List.append_assoc, List.length_cons]
    rw [show k + 1 + l.length = k + (l.length + 1) by omega]
theorem badF_step (who : List Int) {l : List Sh} {k : Nat} {t : Sh} (h : l[k]? = some t) : badF who 0 (l.take (k + 1)) = badF who 0 (l.take k) ++ (if memB (k : Int) who then [] else [t.1]) := by
  have hk := (List.getElem?_eq_some_iff.1 h).1
  rw [take_get h, badF_snoc, List.length_take, Nat.min_eq_left (by omega), Nat.zero_add]
theorem badF_len (who : List Int) : ∀ (l : List Sh) (k : Nat), (badF who k l).length ≤ l.length
  | [], _ => by simp [badF]
  | t :: l, k => by
    have := badF_len who l (k + 1)
    simp only [badF, List.length_append, List.length_cons]
    split <;> simp <;> omega
theorem badF_sub (p : Sh → Bool) : ∀ (l : List Sh) (k : Nat) (who : List Int), (∀ (i : Nat) t, l[i]? = some t → (((k + i : Nat) : Int) ∈ who ↔ p t = true)) → badF who k l = (l.filter fun t => !p t).map (·.1)
  | [], _, _, _ => rfl
  | t :: l, k, who, h => by
    have h0 := h 0 t rfl
    have ih := badF_sub p l (k + 1) who (fun i u hu => by
      have := h (i + 1) u (by simpa using hu)
      rwa [show k + (i + 1) = k + 1 + i by omega] at this)
    simp only [badF, ih]
    by_cases hp : p t = true
    · have hm : memB (k : Int) who = true := by unfold memB; simpa using h0.2 hp
      simp [hm, hp]
    · have hm : memB (k : Int) who = false := by
        unfold memB
        simp only [decide_eq_false_iff_not]
        intro hh
        exact hp (h0.1 (by simpa using hh))
      simp only [Bool.not_eq_true] at hp
      simp [hm, hp]
theorem badF_idx (p : Sh → Bool) (l : List Sh) : badF (idxF p 0 l) 0 l = (l.filter fun t => !p t).map (·.1) :=
  badF_sub p l 0 _ fun i t ht => by
    rw [mem_idxF]
    constructor
    · rintro ⟨j, x, e, h1, h2⟩
      have : i = j := by omega
      subst this
      rw [ht] at h1
      cases h1
      exact h2
    · intro hp
      exact ⟨i, t, rfl, ht, hp⟩

/-- What is best so far: a content, the places of its shares. -/
abbrev Vs := List Int × List Int
/-- One set of shares is asked. -/
def castV (n o s : Nat) (ls pk : List Sh) (st : Vs) : Vs :=
  if joinE n o s pk ≠ 0 then st else if st.2.length < (idxF (ofD n (rowsN n s) (joinC n o s pk)) 0 ls).length then (joinC n o s pk, idxF (ofD n (rowsN n s) (joinC n o s pk)) 0 ls) else st
/-- Sets that begin with these, and go on with some of the others. -/
def tryL (n : Nat) (V : List Sh → Vs → Vs) : List Sh → List Sh → Vs → Vs
  | _, [], st => st
  | pk, t :: r, st => tryL n V pk r (if pk.length + 1 = n then V (pk ++ [t]) st else tryL n V (pk ++ [t]) r st)
def tryN (n : Nat) (V : List Sh → Vs → Vs) (pk r : List Sh) (st : Vs) : Vs := if pk.length = n then V pk st else tryL n V pk r st
theorem tryL_cons (n : Nat) (V : List Sh → Vs → Vs) (pk : List Sh) (t : Sh) (r : List Sh) (st : Vs) : tryL n V pk (t :: r) st = tryL n V pk r (tryN n V (pk ++ [t]) r st) := by
  unfold tryN
  rw [tryL]
  simp
/-- All such sets, in order. -/
def combL (n : Nat) : List Sh → List Sh → List (List Sh)
  | _, [] => []
  | pk, t :: r => (if pk.length + 1 = n then [pk ++ [t]] else combL n (pk ++ [t]) r) ++ combL n pk r
theorem tryL_fold (n : Nat) (V : List Sh → Vs → Vs) : ∀ (r pk : List Sh) (st : Vs), tryL n V pk r st = (combL n pk r).foldl (fun st c => V c st) st
  | [], _, _ => rfl
  | t :: r, pk, st => by
    rw [tryL, combL, List.foldl_append, tryL_fold n V r pk]
    congr 1
    split
    · rfl
    · exact tryL_fold n V r _ st
theorem mem_combL {n : Nat} : ∀ {r pk : List Sh} {c : List Sh}, pk.length < n → (c ∈ combL n pk r ↔ ∃ q, c = pk ++ q ∧ q.Sublist r ∧ pk.length + q.length = n)
  | [], pk, c, h => by
    simp only [combL, List.not_mem_nil, false_iff]
    rintro ⟨q, _, h2, h3⟩
    have := List.sublist_nil.1 h2
    subst this
    simp at h3
    omega
  | t :: r, pk, c, h => by
    have ih := mem_combL (r := r) (pk := pk) (c := c) h
    simp only [combL, List.mem_append, ih]
    constructor
    · rintro (h1 | ⟨q, h1, h2, h3⟩)
      · split at h1
        · simp at h1
          exact ⟨[t], h1, List.Sublist.cons_cons t (List.nil_sublist r), by simpa⟩
        · rename_i hn
          obtain ⟨q, h2, h3, h4⟩ := (mem_combL (r := r) (pk := pk ++ [t]) (c := c) (by simp; omega)).1 h1
          exact ⟨t :: q, by simp [h2], h3.cons_cons t, by simp at h4 ⊢; omega⟩
      · exact ⟨q, h1, h2.cons t, h3⟩
    · rintro ⟨q, rfl, h2, h3⟩
      cases h2 with
      | cons _ h2 => exact Or.inr ⟨q, rfl, h2, h3⟩
      | cons_cons _ h2 =>
        rename_i q
        left
        split
        · rename_i hn
          simp at h3
          have : q = [] := List.eq_nil_of_length_eq_zero (by omega)
          subst this
          simp
        · rename_i hn
          refine (mem_combL (r := r) (pk := pk ++ [t]) (by simp; omega)).2 ⟨q, by simp, h2, by simp at h3 ⊢; omega⟩

/-- What is best of all. -/
def finV (n o s : Nat) (ls : List Sh) : Vs := tryL n (castV n o s ls) [] ls ([], [])
def mostE (n o s : Int) (ls : List Sh) : Int := if checksL n o s ls ≠ 0 then checksL n o s ls else if (finV n.toNat o.toNat s.toNat ls).2 = [] then 9 else 0
def mostB (n o s : Int) (ls : List Sh) : List Int := if mostE n o s ls = 0 then (finV n.toNat o.toNat s.toNat ls).1 else []
def mostW (n o s : Int) (ls : List Sh) : List Int := if mostE n o s ls = 0 then (badF (finV n.toNat o.toNat s.toNat ls).2 0 ls).mergeSort (fun x y => decide (x ≤ y)) else []
theorem mostE_chk {n o s : Int} {ls : List Sh} (h : checksL n o s ls ≠ 0) : mostE n o s ls = checksL n o s ls := if_pos h
theorem mostE_nat {n o s : Nat} {ls : List Sh} (h : checksL n o s ls = 0) : mostE n o s ls = if (finV n o s ls).2 = [] then 9 else 0 := by unfold mostE; rw [if_neg (by simpa using h)]; simp
theorem mostB_no {n o s : Int} {ls : List Sh} (h : mostE n o s ls ≠ 0) : mostB n o s ls = [] := if_neg h
theorem mostW_no {n o s : Int} {ls : List Sh} (h : mostE n o s ls ≠ 0) : mostW n o s ls = [] := if_neg h
theorem mostB_nat {n o s : Nat} {ls : List Sh} (h : mostE n o s ls = 0) : mostB n o s ls = (finV n o s ls).1 := by unfold mostB; rw [if_pos h]; simp
theorem mostW_nat {n o s : Nat} {ls : List Sh} (h : mostE n o s ls = 0) : mostW n o s ls = (badF (finV n o s ls).2 0 ls).mergeSort (fun x y => decide (x ≤ y)) := by unfold mostW; rw [if_pos h]; simp
end Go.Proofs.YtjakdgchfimhkaaGreat
