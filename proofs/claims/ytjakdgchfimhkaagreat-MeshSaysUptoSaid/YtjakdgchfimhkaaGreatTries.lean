/-
  The plain laws of shares: the first ones have the content; sums; any of them are enough.
  vote.fit walked.
  slices.DeleteFunc at the call's own ints, with whatever closure that asks.
  slices.Delete of one share out of an own row, slices.Clone of a slice of shares.
  What vote.Most's inner function holds in its boxes; what a set of shares makes can be split.
  The walk of share.Join.
  vote.Most's inner function, which calls itself, walked.
  share.Join where the plan is wrong, where there are too many, or too few; Join whole.
-/
import Derived.Test.YtjakdgchfimhkaaGreatShares
import Derived.Test.YtjakdgchfimhkaaGreatCopies
import Derived.Test.YtjakdgchfimhkaaGreatRowAll
import Derived.Deep.RegionHeld3
import Derived.Deep.DeepCutAuto
import Derived.Test.YtjakdgchfimhkaaGreatBase
import Derived.Lib.SliceRun
import Derived.Deep.RegionLaw
import Derived.Deep.DeepFit
namespace Go.Proofs.YtjakdgchfimhkaaGreat

theorem placesL_get {n j : Nat} (h : j < n) : (placesL n)[j]? = some (j : Int) := by simp [placesL, h]
theorem rowL_get (data : List Int) (r : Nat) {n j : Nat} (h : j < n) : (rowL n data r)[j]? = some (data.getD (r * n + j) 0) := by simp [rowL, h]
theorem partV_bd (n : Nat) (data : List Int) (k r : Nat) : 0 ≤ partV n data k r ∧ partV n data k r < 31 := atV_bd _ _ _

theorem sharesL_get (n : Nat) (data : List Int) (r : Nat) {o k : Nat} (h : k < o) : (sharesL n data o r)[k]? = some (shareL n data r k) := by simp [sharesL, h]
theorem sharesL_len (n : Nat) (data : List Int) (o r : Nat) : (sharesL n data o r).length = o := by simp [sharesL]
theorem shareL_len (n : Nat) (data : List Int) (r k : Nat) : (shareL n data r k).2.length = r := by simp [shareL]
theorem shareL_get (n : Nat) (data : List Int) {r i : Nat} (k : Nat) (h : i < r) : (shareL n data r k).2[i]? = some (partV n data k i) := by simp [shareL, h]
/-! ### Any of the shares are enough -/
theorem checkL_zero {n o s : Int} : ∀ {r seen : List Sh}, (∀ t ∈ r, oneV n o s t.1 t.2 = 0) → ((seen ++ r).map (·.1)).Pairwise (· ≠ ·) → checkL n o s seen r = 0
  | [], _, _, _ => rfl
  | t :: r, seen, h1, h2 => by
    unfold checkL
    rw [if_neg (by simpa using h1 t (by simp)), if_neg]
    · exact checkL_zero (fun u hu => h1 u (by simp [hu])) (by simpa using h2)
    · intro hh
      obtain ⟨u, hu, he⟩ := (hasN_iff _ _).1 hh
      rw [List.map_append, List.pairwise_append] at h2
      exact h2.2.2 u.1 (List.mem_map.2 ⟨u, hu, rfl⟩) t.1 (by simp) he
theorem allV_zero {l : List Int} (h : ∀ z ∈ l, 0 ≤ z ∧ z < 31) : allV l = 0 := (allV_ok l).2 h
theorem oneV_zero {n o s : Nat} {t : Sh} (hp : planV n o s = 0) (h0 : 0 ≤ t.1) (h1 : t.1 < o) (hl : t.2.length = rowsN n s) (hv : ∀ z ∈ t.2, 0 ≤ z ∧ z < 31) : oneV n o s t.1 t.2 = 0 := by
  unfold oneV
  rw [if_neg (by simpa using hp), if_neg (by omega), if_neg (by rw [longV_nat hp, hl]; simp), allV_zero hv]

/-- Some shares of a content, each one once. -/
structure SomeOf (n : Nat) (data : List Int) (o r : Nat) (ls : List Sh) : Prop where
  of : ∀ t ∈ ls, ∃ k : Nat, k < o ∧ t = shareL n data r k
  once : (ls.map (·.1)).Nodup
theorem SomeOf.one {n o s : Nat} {data : List Int} {ls : List Sh} (hp : planV n o s = 0) (h : SomeOf n data o (rowsN n s) ls) : ∀ t ∈ ls, oneV n o s t.1 t.2 = 0 := by
  intro t ht
  obtain ⟨k, hk, rfl⟩ := h.of t ht
  refine oneV_zero hp (by simp [shareL]) (by simp [shareL]; omega) (shareL_len _ _ _ _) ?_
  intro z hz
  obtain ⟨i, hi, rfl⟩ := List.getElem_of_mem hz
  simp [shareL]
  exact partV_bd _ _ _ _
theorem SomeOf.len {n o r : Nat} {data : List Int} {ls : List Sh} (h : SomeOf n data o r ls) : ls.length ≤ o := by
  have h1 : (ls.map (·.1)).length ≤ ((List.range o).map fun (k : Nat) => (k : Int)).length := by
    refine List.Nodup.length_le_of_subset h.once ?_
    intro x hx
    obtain ⟨t, ht, rfl⟩ := List.mem_map.1 hx
    obtain ⟨k, hk, rfl⟩ := h.of t ht
    exact List.mem_map.2 ⟨k, List.mem_range.2 hk, rfl⟩
  simpa using h1
theorem SomeOf.checkL {n o s : Nat} {data : List Int} {ls : List Sh} (hp : planV n o s = 0) (h : SomeOf n data o (rowsN n s) ls) : checkL n o s [] ls = 0 :=
  checkL_zero (h.one hp) (by simpa [List.Nodup] using h.once)
theorem SomeOf.checks {n o s : Nat} {data : List Int} {ls : List Sh} (hp : planV n o s = 0) (h : SomeOf n data o (rowsN n s) ls) (hn : n ≤ ls.length) : checksL n o s ls = 0 := by
  obtain ⟨p1, p2, p3, p4, p5, p6⟩ := planV_bd hp
  have hl := h.len
  unfold checksL
  rw [if_neg (by simpa using hp), if_neg (by omega), if_neg (by simpa using h.checkL hp), if_neg (by omega)]
theorem SomeOf.right {n o s : Nat} {data : List Int} {ls : List Sh} (hp : planV n o s = 0) (h : SomeOf n data o (rowsN n s) ls) (hn : n ≤ ls.length) : Right n o s ls := by
  obtain ⟨p1, p2, p3, p4, p5, p6⟩ := planV_bd hp
  have hl := h.len
  exact right_of hp hn (by omega) (h.checkL hp)

theorem xsL_get {n : Nat} {ls : List Sh} {m : Nat} {p : Int} (h : (xsL n ls)[m]? = some p) (i : Nat) : ∃ t, t ∈ ls ∧ ls[m]? = some t ∧ p = t.1 ∧ (ysL n ls i)[m]? = some (t.2.getD i 0) := by
  unfold xsL at h
  rw [List.getElem?_map, Option.map_eq_some_iff] at h
  obtain ⟨t, ht, rfl⟩ := h
  refine ⟨t, List.mem_of_mem_take (List.mem_of_getElem? ht), ?_, rfl, ?_⟩
  · rw [List.getElem?_take] at ht
    split at ht
    · exact ht
    · cases ht
  · unfold ysL
    rw [List.getElem?_map, ht]
    rfl
/-- The curve through any of the shares is the content's. -/
theorem SomeOf.curve {n o s : Nat} {data : List Int} {ls : List Sh} (hp : planV n o s = 0) (h : SomeOf n data o (rowsN n s) ls) (hn : n ≤ ls.length) {i : Nat} (hi : i < rowsN n s) (p : Int) :
    atV (xsL n ls) (ysL n ls i) p = atV (placesL n) (rowL n data i) p := by
  obtain ⟨p1, p2, p3, p4, p5, p6⟩ := planV_bd hp
  have hR := (h.right hp hn).pts i
  have hxl : (xsL n ls).length = n := by simp [xsL]; omega
  refine (atV_uniq hR (f := atV (placesL n) (rowL n data i)) ?_ (fun p => atV_bd _ _ _) ?_ p).symm
  · have := atV_deg (x := placesL n) (y := rowL n data i) (by rw [placesL_len]; omega)
    rw [hxl]
    rwa [placesL_len] at this
  · intro m q v hq hv
    obtain ⟨t, ht, _, rfl, hy⟩ := xsL_get hq i
    rw [hv] at hy
    cases hy
    obtain ⟨k, hk, rfl⟩ := h.of t ht
    rw [List.getD_eq_getElem?_getD, shareL_get _ _ _ hi]
    rfl
theorem dataL_get (n : Nat) (ls : List Sh) {i j : Nat} (hj : j < n) : ∀ r, i < r → (dataL n ls r)[i * n + j]? = some (atV (xsL n ls) (ysL n ls i) (j : Int))
  | 0, h => by omega
  | r + 1, h => by
    rw [dataL_step]
    by_cases hi : i < r
    · have h1 : i * n + j < r * n := by
        have : (i + 1) * n ≤ r * n := Nat.mul_le_mul_right _ hi
        rw [Nat.add_mul, Nat.one_mul] at this
        omega
      rw [List.getElem?_append_left (by rw [dataL_len]; exact h1)]
      exact dataL_get n ls hj r hi
    · obtain rfl : i = r := by omega
      rw [List.getElem?_append_right (by rw [dataL_len]; omega), dataL_len, show i * n + j - i * n = j by omega]
      unfold outK
      rw [List.getElem?_map, List.getElem?_range hj]
      rfl
end Go.Proofs.YtjakdgchfimhkaaGreat

namespace Go.Proofs.YtjakdgchfimhkaaGreat
open Go.RowKit

set_option maxRecDepth 100000 in
set_option maxHeartbeats 4000000 in
theorem fit_any (n o s : Nat) (vd vl : Value) (data : List Int) (ls : List Sh) (W : World) (hd : IsInts W vd data) (hl : IsShares W vl ls) (hE : splitE n o s data = 0) (hn : ∀ t ∈ ls, 0 ≤ t.1 ∧ t.1 < o) (hlen : ls.length ≤ 8) :
    Calls Tryz.prog 49 #[.agg #[.int .i64 n, .int .i64 o, .int .i64 s], vd, vl] W fun e w' => (∃ v', e = .returned v' ∧ OwnInts w' 3 W.heap.size v' (idxF (ofD n (rowsN n s) data) 0 ls)) ∧ Below W.heap.size W w' := by
  have HD := Lib.hid hd
  have HL := Lib.hid hl
  have HE := Lib.hid hE
  have HN := Lib.hid hn
  have HSL := Lib.hid (splitL_ok hE)
  obtain ⟨a, c, rfl, hcc, ⟨hcm, hcm', _⟩, _⟩ := hl.opened
  clear hd hl hE hn
  have S0 := (Since.refl W).alloc (.cells #[.int .i64 n, .int .i64 o, .int .i64 s] 30)
  have c0 : (W.alloc (.cells #[.int .i64 n, .int .i64 o, .int .i64 s] 30)).cell? ⟨W.heap.size, 0, none⟩ = some (.int .i64 n) := by go_simp
  have c1 : (W.alloc (.cells #[.int .i64 n, .int .i64 o, .int .i64 s] 30)).cell? ⟨W.heap.size, 1, none⟩ = some (.int .i64 o) := by go_simp
  have c2 : (W.alloc (.cells #[.int .i64 n, .int .i64 o, .int .i64 s] 30)).cell? ⟨W.heap.size, 2, none⟩ = some (.int .i64 s) := by go_simp
  go_enter Tryz.func49, Tryz.ntmps49
  go_upto_region 1 with fail
  generalize W.alloc (.cells #[.int .i64 n, .int .i64 o, .int .i64 s] 30) = w0 at *
  obtain ⟨B, hB⟩ : ∃ B, B = W.heap.size := ⟨_, rfl⟩
  rw [← hB] at c0 c1 c2 ⊢
  have HB := Lib.hid hB
  clear hB
  go_upto_region 2 with (go_at_call 21; refine (Split_any n o s _ data _ (HD.out.stays S0.below)).mono ?_; rintro e w1 ⟨⟨v1, rfl, hi1⟩, hb1⟩; rw [HE.out])
  have S1 := S0.step hb1
  rw [HSL.out] at hi1
  have HI1 := Lib.hid hi1
  obtain ⟨a1, k1, rfl, _⟩ := hi1.opened
  have HSN := Lib.hid (sharesL_len n data o (rowsN n s))
  generalize hSS : sharesL n data o (rowsN n s) = SS at *
  have HSS := Lib.hid hSS
  clear hSS c0 c1 c2 hb1 hi1 HSL
  have HLS : Hid (∀ w', Since w1.heap.size w1 w' → IsShares w' (.slice a ls.length c) ls) := Lib.hid (fun w' q => shares_stays HL.out (S1.step q.below).below)
  go_wp2_with fail
  go_loopw [20, 9] (fun i x wr => ∃ k : Nat, k ≤ ls.length ∧ i = .int .i64 k ∧ Since w1.heap.size w1 wr ∧ OwnInts wr 3 w1.heap.size x (idxF (ofD n (rowsN n s) data) 0 (ls.take k))) (fun i _ _ => ls.length - (intOf i).toNat)
  case atStart => exact ⟨0, by omega, rfl, Since.refl w1, OwnInts.nil _ _ _⟩
  case round =>
    obtain ⟨k, hk, rfl, hS, ho⟩ := hrel
    by_cases hlt : k < ls.length
    · have hx : ls[k]? = some ls[k] := List.getElem?_eq_getElem hlt
      obtain ⟨g, off, u, cu, rfl, k0, k1, hiv, hi1⟩ := shares_at (HLS.out wr hS) hx
      have hnum := HN.out _ (List.mem_of_getElem? hx)
      have HST := Lib.hid (idxF_step (ofD n (rowsN n s) data) hx)
      have hol := idxF_len (ofD n (rowsN n s) data) (ls.take k) 0
      have hol2 : (idxF (ofD n (rowsN n s) data) 0 (ls.take k)).length ≤ 8 := by
        have := List.countP_le_length (p := ofD n (rowsN n s) data) (l := ls.take k)
        simp at this
        omega
      clear hol
      generalize ls[k] = t at *
      obtain ⟨m, hm⟩ := Int.eq_ofNat_of_zero_le hnum.1
      have hmo : m < o := by omega
      have HM1 := Lib.hid hm
      rw [hm] at k0
      have hsh : SS[m]? = some (shareL n data (rowsN n s) m) := by rw [← HSS.out]; exact sharesL_get n data (rowsN n s) hmo
      obtain ⟨g1, off1, u1, cu1, rfl, q0, q1, hiv1, _⟩ := shares_at (shares_stays HI1.out hS.below) hsh
      have hSSl : m < SS.length := by rw [HSN.out]; exact hmo
      have S2 := hS.alloc (.cells #[.int .i64 (m : Int), .slice u t.2.length cu] 58)
      have hA := below_alloc wr (.cells #[.int .i64 (m : Int), .slice u t.2.length cu] 58)
      have HIV := Lib.hid (hiv.stays hA)
      have HIV1 := Lib.hid (hiv1.stays hA)
      have HO := Lib.hid (ho.stays hA)
      have e0 := below_cell hA q0
      have e1 := below_cell hA q1
      have f0 : (wr.alloc (.cells #[.int .i64 (m : Int), .slice u t.2.length cu] 58)).cell? ⟨wr.heap.size, 0, none⟩ = some (.int .i64 (m : Int)) := by go_simp
      have f1 : (wr.alloc (.cells #[.int .i64 (m : Int), .slice u t.2.length cu] 58)).cell? ⟨wr.heap.size, 1, none⟩ = some (.slice u t.2.length cu) := by go_simp
      clear hx hm hsh hiv hiv1 q0 q1 ho hS hA
      go_upto_region 6 with fail
      generalize wr.alloc (.cells #[.int .i64 (m : Int), .slice u t.2.length cu] 58) = w3 at *
      obtain ⟨Bt, hBt⟩ : ∃ Bt, Bt = wr.heap.size := ⟨_, rfl⟩
      rw [← hBt] at f0 f1 ⊢
      clear hBt k0 k1
      have ik : I64 (k : Int) := ⟨by omega, by omega⟩
      generalize hT : ofD n (rowsN n s) data t = T at *
      have HT := Lib.hid (show sameV (m : Int) (shareL n data (rowsN n s) m).1 t.2 (shareL n data (rowsN n s) m).2 = T by rw [← hT]; unfold ofD; rw [HM1.out]; rfl)
      generalize shareL n data (rowsN n s) m = X at *
      have hmo2 : (m : Int) < SS.length := by omega
      clear hT hnum
      have HS : Hid (∀ w', Since w3.heap.size w3 w' → w'.cell? ⟨Bt, 0, none⟩ = some (.int .i64 (m : Int)) ∧ w'.cell? ⟨Bt, 1, none⟩ = some (.slice u t.2.length cu) ∧ w'.cell? ⟨g1, off1 + m * 2, none⟩ = some (.int .i64 X.1) ∧ w'.cell? ⟨g1, off1 + m * 2 + 1, none⟩ = some (.slice u1 X.2.length cu1)) := Lib.hid (fun w' q => ⟨below_cell q.below f0, below_cell q.below f1, below_cell q.below e0, below_cell q.below e1⟩)
      have s3 := HS.out w3.drew (Since.refl w3).drew
      clear f0 f1 e0 e1
      go_region_held3 (fun w' => w'.cell? ⟨Bt, 0, none⟩ = some (.int .i64 (m : Int)) ∧ w'.cell? ⟨Bt, 1, none⟩ = some (.slice u t.2.length cu) ∧ w'.cell? ⟨g1, off1 + m * 2, none⟩ = some (.int .i64 X.1) ∧ w'.cell? ⟨g1, off1 + m * 2 + 1, none⟩ = some (.slice u1 X.2.length cu1)) (first | exact s3 | exact s4) (first | (go_at_call 24; refine (Same_any (m : Int) X.1 _ _ t.2 X.2 _ (HIV.out.stays (Since.refl w3).drew.below) (HIV1.out.stays (Since.refl w3).drew.below)).mono ?_; rintro e w4 ⟨rfl, hb4⟩; rw [HT.out]; have p4 := (Since.refl w3).drew.step hb4; have s4 := HS.out w4 p4))
      all_goals
        have S4 := S2.step p4.below
        have HO4 := Lib.hid (HO.out.stays p4.below)
        clear s3 s4 hb4
        cases T with
        | true =>
          have ho5 := HO4.out.stays (below_alloc w4 (.cells #[.int .i64 (k : Int)] 3))
          go_wp2_with (at_builtin; refine wpList_append_int rfl _ _ 28 rfl 3 Tryz.underlying28 info_int w1.heap.size _ _ rfl ho5 ⟨w4.heap.size, 0, none⟩ 1 (k : Int) rfl (by simp) ik (by omega) (by have := S4.2; simp; omega) ?_; intro v' w6 ho6 hg6)
          have S6 := (S4.alloc (.cells #[.int .i64 (k : Int)] 3)).own ho5 hg6
          have HO6 := Lib.hid ho6
          clear ho6 hg6 ho5
          go_roundw
          case rel => exact ⟨k + 1, by omega, by go_num, S6, by rw [HST.out]; simpa using HO6.out⟩
          case measure => simp [intOf]; omega
        | false =>
          go_wp2_with fail
          go_roundw
          case rel => exact ⟨k + 1, by omega, by go_num, S4, by rw [HST.out]; simpa using HO4.out⟩
          case measure => simp [intOf]; omega
    · obtain rfl : ls.length = k := by omega
      go_wp2_with fail
      go_ret
      rw [List.take_length] at ho
      exact ⟨⟨_, rfl, ho.mono S1.2⟩, (S1.step hS.below).below⟩
end Go.Proofs.YtjakdgchfimhkaaGreat

namespace Go.Proofs.YtjakdgchfimhkaaGreat
open Go.RowKit

theorem OwnInts.take {w : World} {e : TypeId} {base : Nat} {a : Option Addr} {L cap : Nat} {l : List Int} (h : OwnInts w e base (.slice a L cap) l) (n : Nat) (hn : n ≤ l.length) : OwnInts w e base (.slice a n cap) (l.take n) := by
  obtain ⟨⟨h1, h2⟩, h3, h4⟩ := h
  have hl : (l.take n).length = n := by simp; omega
  refine ⟨⟨by simp, ?_⟩, fun x hx => h3 x (List.mem_of_mem_take hx), by omega⟩
  rcases h2 with ⟨e1, e2⟩ | ⟨g, cap', cur, e1, hb, hg, hnc, hcm, hcs, htk⟩
  · simp only [Value.slice.injEq] at e1
    obtain ⟨rfl, rfl, rfl⟩ := e1
    have : n = 0 := by omega
    subst this
    exact .inl ⟨rfl, by simp⟩
  · simp only [Value.slice.injEq] at e1
    obtain ⟨rfl, rfl, rfl⟩ := e1
    refine .inr ⟨g, cap, cur, by rw [hl], hb, hg, by omega, hcm, hcs, ?_⟩
    rw [hl, List.map_take, ← htk, List.take_take]
    congr 1
    omega
theorem grown_setCells (g : Nat) : ∀ (vs : List Value) (o : Nat) (w : World), w.grownBy (w.setCells g o vs) (some g)
  | [], _, w => World.grownBy.refl w _
  | v :: vs, o, w => (grown_setCell w ⟨g, o, none⟩ v).trans (grown_setCells g vs (o + 1) (w.setCell ⟨g, o, none⟩ v))
end Go.Proofs.YtjakdgchfimhkaaGreat

namespace Go.Proofs.YtjakdgchfimhkaaGreat
open Go.RowKit

theorem info_shareD : (Tryz.prog.info? 58).map (fun i => (i.zero, i.size, i.bytes)) = some (some (.agg #[.int .i64 0, .slice none 0 0]), 2, 32) := by kernel_rfl
theorem RShare.one : RShare.One := by
  rintro w cs x ⟨v, rfl, h, _⟩ c hc
  obtain ⟨a, cp, rfl, _⟩ := h.opened
  simp at hc
  rcases hc with rfl | rfl <;> rfl

theorem flatten_drop {sz : Nat} : ∀ {rows : List (List Value)} (n : Nat), (∀ r ∈ rows, r.length = sz) → (rows.drop n).flatten = rows.flatten.drop (n * sz)
  | [], n, _ => by simp
  | q :: rows, 0, _ => by simp
  | q :: rows, n + 1, hs => by
    have hq := hs q (by simp)
    rw [List.drop_succ_cons, List.flatten_cons, flatten_drop n (fun r hr => hs r (by simp [hr])), List.drop_append, hq, List.drop_of_length_le (l := q) (by rw [hq, Nat.add_mul]; omega), List.nil_append]
    rw [show (n + 1) * sz - sz = n * sz by rw [Nat.add_mul]; omega]

section
variable {α : Type} {R : Rd α} {sz : Nat} {E : Nat → Prop} {w : World} {e : TypeId} {base : Nat} {l : List α}
/-- An own row out of which one element is taken: those behind it moved down, cells of another one written at the end. -/
theorem OwnRow.deleted {g L cap : Nat} (h : OwnRow sz R E w e base (.slice (some ⟨g, 0, none⟩) L cap) l) {k : Nat} (hk : k < l.length) (hL : L = l.length) {news zs : List Value} (hzs : zs.length = sz)
    (hn : ∀ rows : List (List Value), w.ownsRow base e sz (.slice (some ⟨g, 0, none⟩) L cap) l.length rows.flatten → rows.length = l.length → (∀ r ∈ rows, r.length = sz) → news = (rows.drop (k + 1)).flatten) :
    OwnRow sz R E ((w.setCells g (k * sz) news).setCells g ((L - 1) * sz) zs) e base (.slice (some ⟨g, 0, none⟩) (L - 1) cap) (l.eraseIdx k) := by
  subst hL
  obtain ⟨rows, h1, h2, h3, h4⟩ := h.row
  have hsz : ∀ r ∈ rows, r.length = sz := fun r hr => (h3 r hr).1
  have hnews := hn rows h1 h2 hsz
  have ht := h.top
  have hle : (l.eraseIdx k).length = l.length - 1 := by rw [List.length_eraseIdx, if_pos hk]
  have hnl : news.length = (l.length - (k + 1)) * sz := by rw [hnews, flatten_len (fun r hr => hsz r (List.mem_of_mem_drop hr)), List.length_drop, h2]
  have hdirty : Dirty (fun k => (Value.slice (some ⟨g, 0, none⟩) l.length cap).ownBlock = some k ∨ E k) w ((w.setCells g (k * sz) news).setCells g ((l.length - 1) * sz) zs) :=
    (Dirty.of_grown ((grown_setCells g news (k * sz) w).trans (grown_setCells g zs ((l.length - 1) * sz) _))).mono fun j _ hj => by cases hj; exact Or.inl rfl
  refine ⟨by omega, rows.eraseIdx k, ?_, ?_, fun r hr => h3 r (List.mem_of_mem_eraseIdx hr), ?_⟩
  · have her : rows.eraseIdx k = rows.take k ++ rows.drop (k + 1) := List.eraseIdx_eq_take_drop_succ ..
    have hfl : (rows.eraseIdx k).flatten = rows.flatten.take (k * sz) ++ news := by rw [her, List.flatten_append, flatten_take k hsz, ← hnews]
    have hfll : rows.flatten.length = l.length * sz := by rw [flatten_len hsz, h2]
    rw [hfl, hle]
    have hk1 : k * sz + (l.length - (k + 1)) * sz = (l.length - 1) * sz := by rw [← Nat.add_mul]; congr 1; omega
    have hk2 : (l.length - 1) * sz + sz = l.length * sz := by
      have : (l.length - 1) * sz + 1 * sz = (l.length - 1 + 1) * sz := (Nat.add_mul _ _ _).symm
      rw [Nat.one_mul] at this
      rw [this]; congr 1; omega
    refine ⟨?_, ?_⟩
    · rw [List.length_append, List.length_take, hfll, hnl, Nat.min_eq_left (Nat.mul_le_mul_right _ (by omega))]
      exact hk1
    · rcases h1.2 with ⟨h5, _⟩ | ⟨g', cap', cur, h5, h6, h7, h8, h9, h10, h11⟩
      · cases h5
      · simp only [Value.slice.injEq, Option.some.injEq, Addr.mk.injEq] at h5
        obtain ⟨⟨rfl, _, _⟩, _, rfl⟩ := h5
        have hcap : l.length * sz ≤ cur.size := by rw [h10]; exact Nat.mul_le_mul_right _ h8
        obtain ⟨cur1, c1, c2, c3⟩ := row_setCells g e news (k * sz) w cur h7 (by rw [hnl]; omega)
        obtain ⟨cur2, d1, d2, d3⟩ := row_setCells g e zs ((l.length - 1) * sz) _ cur1 c1 (by rw [c2, hzs]; omega)
        refine .inr ⟨g, cap, cur2, rfl, h6, d1, by omega, h9, by rw [d2, c2, h10], ?_⟩
        apply List.ext_getElem?
        intro j
        rw [List.getElem?_take]
        by_cases hj : j < (l.length - 1) * sz
        · rw [if_pos hj, Array.getElem?_toList, d3, if_neg (by omega), c3]
          have hcj : j < rows.flatten.length := by omega
          have hcur : cur[j]? = rows.flatten[j]? := by
            rw [← h11, List.getElem?_take, if_pos (by omega), Array.getElem?_toList]
          have htl : (rows.flatten.take (k * sz)).length = k * sz := by rw [List.length_take, hfll, Nat.min_eq_left (Nat.mul_le_mul_right _ (by omega))]
          by_cases hjk : j < k * sz
          · rw [if_neg (by omega), List.getElem?_append_left (by omega), List.getElem?_take, if_pos hjk, hcur]
          · rw [if_pos (by omega), List.getElem?_append_right (by omega), htl]
        · rw [if_neg hj, List.getElem?_eq_none (by
            rw [List.length_append, List.length_take, hfll, hnl, Nat.min_eq_left (Nat.mul_le_mul_right _ (by omega))]
            omega)]
  · rw [List.length_eraseIdx, List.length_eraseIdx, h2]
  · intro m q x hq hx
    have hmv : ∀ j, j < w.heap.size → ((Value.slice (some ⟨g, 0, none⟩) (l.length - 1) cap).ownBlock = some j ∨ E j) → ((Value.slice (some ⟨g, 0, none⟩) l.length cap).ownBlock = some j ∨ E j) := fun j _ hj => hj
    rw [List.getElem?_eraseIdx] at hq hx
    split at hq
    · rename_i hmk
      rw [if_pos hmk] at hx
      exact (h4 m q x hq hx).move hdirty hmv
    · rename_i hmk
      rw [if_neg hmk] at hx
      exact (h4 (m + 1) q x hq hx).move hdirty hmv
end

set_option maxRecDepth 100000 in
set_option maxHeartbeats 1000000 in
theorem CloneSharesR_any {R : Rd Sh} (hRS : R.Stays) (hR1 : R.One) (v : Value) (b : List Sh) (w0 w : World) (hw0 : Dirty (fun _ => False) w0 w) (hv : IsRow 2 R w0 v b) (hb : b.length ≤ 1000000) :
    Calls Tryz.prog 50 #[v] w fun e w' => (∃ v', e = .returned v' ∧ OwnRow 2 R (fun k => w0.heap.size ≤ k) w' 58 w.heap.size v' b) ∧ Below w.heap.size w w' := by
  have hq : ∀ (w : World) (a : Option Addr) (n c n' c' : Nat), (binOp .eql 50 (.slice a n c) (.slice none n' c')).run Tryz.prog w = .ok (.bool a.isNone) w := fun w a n c n' c' => Lib.run_eql_slice_nil w _ _ a n c n' c' Tryz.underlying50
  have hv0 := hv
  obtain ⟨ax, cx, rfl, hcx, hmx, hx⟩ := hv.opened
  obtain ⟨hm1, hm2, hm3⟩ := hmx
  cases ax with
  | none =>
    have hc0 := hm3 rfl
    have hl0 : b = [] := by
      cases b with
      | nil => rfl
      | cons y r => obtain ⟨b, off, e1, _⟩ := hx 0 y rfl; cases e1
    subst hc0 hl0
    clear hx
    go_enter Tryz.func50, Tryz.ntmps50
    go_wp2
    go_ret
    exact ⟨⟨_, rfl, OwnRow.nil _ _ _⟩, Below.refl _ _⟩
  | some ad =>
    clear hm3 hx hv
    have hown := OwnRow.made (R := R) (sz := 2) (E := fun k => w0.heap.size ≤ k) w 58
    have HV := Lib.hid hv0
    have HD : Hid (Dirty (fun _ => False) w0 (w.alloc (.cells #[] 58))) := Lib.hid (hw0.trans (Dirty.old (below_alloc _ _) _))
    have hsz := hw0.1
    clear hv0 hw0
    go_enter Tryz.func50, Tryz.ntmps50
    go_wp2_with (at_builtin; refine wpList_append_rows rfl _ _ 50 rfl 2 _ 58 Tryz.underlying50 _ 32 info_shareD rfl (by omega) (by omega) w.heap.size _ [] rfl hown w0 HD.out b _ rfl HV.out hRS hR1 (by intro k hk; rcases hk with hk | hk; (cases hk; exact hsz); exact hk) (by simp; omega) (by simp) ?_; intro v' w1 hown1 hg1 _)
    go_ret
    exact ⟨⟨_, rfl, hown1⟩, below_row (below_alloc _ _) hown hg1 (by simp)⟩
end Go.Proofs.YtjakdgchfimhkaaGreat

namespace Go.Proofs.YtjakdgchfimhkaaGreat
open Go.RowKit

/-- Read as it was read in one world. -/
def RAt {α : Type} (W : World) (R : Rd α) : Rd α := fun _ cs x => R W cs x
theorem RAt.stays {α : Type} {W : World} {R : Rd α} : (RAt W R).Stays := fun _ _ _ h _ _ => h
theorem RAt.one {α : Type} {W : World} {R : Rd α} (h : R.One) : (RAt W R).One := fun _ cs x hr => h W cs x hr
theorem IsRow.ofAt {α : Type} {W w : World} {R : Rd α} {sz : Nat} {v : Value} {l : List α} (h : IsRow sz (RAt W R) w v l) (hR : R.Stays) (hw : Dirty (fun _ => False) W w) : IsRow sz R w v l := by
  obtain ⟨a, c, e, h1, h2, h3⟩ := h
  refine ⟨a, c, e, h1, h2, fun i x hx => ?_⟩
  obtain ⟨b, off, e', cs, g1, g2, g3⟩ := h3 i x hx
  exact ⟨b, off, e', cs, g1, g2, hR W cs x g3 w hw⟩
theorem OwnRow.anyE {α : Type} {W w : World} {R : Rd α} {sz : Nat} {E E' : Nat → Prop} {e : TypeId} {base : Nat} {v : Value} {l : List α} (h : OwnRow sz (RAt W R) E w e base v l) : OwnRow sz (RAt W R) E' w e base v l := by
  have := h.conv (R' := RAt W R) (E' := E') id (fun cs x _ hf w' _ => (hf.now : R W cs x))
  simpa using this

theorem Right.sub {n o s : Nat} {ls pk : List Sh} (h : Right n o s ls) (hs : pk.Sublist ls) (hn : n ≤ pk.length) : Right n o s pk :=
  ⟨h.plan, hn, Nat.le_trans hs.length_le h.many, fun t ht => h.num t (hs.subset ht), fun t ht => h.len t (hs.subset ht), fun t ht => h.vals t (hs.subset ht), h.nodup.sublist (hs.map _)⟩
theorem Right.check {n o s : Nat} {ls : List Sh} (h : Right n o s ls) : checkL n o s [] ls = 0 :=
  checkL_zero (fun t ht => oneV_zero h.plan (h.num t ht).1 (h.num t ht).2 (h.len t ht) (h.vals t ht)) (by simpa [List.Nodup] using h.nodup)
theorem Right.checks {n o s : Nat} {ls : List Sh} (h : Right n o s ls) : checksL n o s ls = 0 := by
  have h1 := h.few
  have h2 := h.many
  unfold checksL
  rw [if_neg (by simpa using h.plan), if_neg (by omega), if_neg (by simpa using h.check), if_neg (by omega)]
theorem right_iff {n o s : Nat} {ls : List Sh} : checksL n o s ls = 0 ↔ Right n o s ls := by
  refine ⟨fun h => ?_, Right.checks⟩
  unfold checksL at h
  split at h
  · rename_i h1; exact absurd h h1
  · rename_i h1
    split at h
    · simp at h
    · rename_i h2
      split at h
      · rename_i h3; exact absurd h h3
      · rename_i h3
        split at h
        · simp at h
        · rename_i h4
          exact right_of (by simpa using h1) (by omega) (by omega) (by simpa using h3)
theorem join_split {n o s : Nat} {ls : List Sh} (h : Right n o s ls) (hj : joinE n o s ls = 0) : splitE n o s (joinC n o s ls) = 0 := by
  obtain ⟨p1, p2, p3, p4, p5, p6⟩ := planV_bd h.plan
  obtain ⟨r1, r2, r3⟩ := rowsN_bd (n := n) (s := s) (by omega) (by omega) (by omega) (by omega)
  have hl : (joinC n o s ls).length = s := by
    rw [joinC_ok hj]
    unfold joinD
    rw [List.length_take, dataL_len]
    omega
  have hv : allV (joinC n o s ls) = 0 := by
    rw [allV_ok, joinC_ok hj]
    intro z hz
    have hz := List.mem_of_mem_take hz
    unfold dataL at hz
    obtain ⟨q, hq, hz⟩ := List.mem_flatten.1 hz
    obtain ⟨i, _, rfl⟩ := List.mem_map.1 hq
    obtain ⟨j, _, rfl⟩ := List.mem_map.1 hz
    exact atV_bd _ _ _
  unfold splitE
  rw [if_neg (by simpa using h.plan), if_neg (by rw [hl]; simp), hv]

/-- The boxes: the plan's, the list's, those of 'who' and 'best', that of the function itself. -/
structure Tb where
  (p l w b t : Nat)
def Tb.ok (z : Tb) (B : Nat) : Prop := z.p ≠ z.w ∧ z.p ≠ z.b ∧ z.l ≠ z.w ∧ z.l ≠ z.b ∧ z.t ≠ z.w ∧ z.t ≠ z.b ∧ z.w ≠ z.b ∧ B ≤ z.w ∧ B ≤ z.b
def Tb.E (z : Tb) (k : Nat) : Prop := k = z.w ∨ k = z.b
def Tb.caps (z : Tb) : Array Value := #[.pointer (some ⟨z.p, 0, none⟩), .pointer (some ⟨z.l, 0, none⟩), .pointer (some ⟨z.w, 0, none⟩), .pointer (some ⟨z.b, 0, none⟩), .pointer (some ⟨z.t, 0, none⟩)]
/-- What does not change. -/
def TryC (z : Tb) (n o s : Nat) (al : Option Addr) (ln cl : Nat) (w : World) : Prop :=
  w.cell? ⟨z.p, 0, none⟩ = some (.int .i64 n) ∧ w.cell? ⟨z.p, 1, none⟩ = some (.int .i64 o) ∧ w.cell? ⟨z.p, 2, none⟩ = some (.int .i64 s) ∧ w.cell? ⟨z.l, 0, none⟩ = some (.slice al ln cl) ∧ w.cell? ⟨z.t, 0, none⟩ = some (.func (.func 48) #[] z.caps)
theorem TryC.dirty {z : Tb} {B n o s : Nat} {al : Option Addr} {ln cl : Nat} {w w' : World} (h : TryC z n o s al ln cl w) (hz : z.ok B) (hw : Dirty z.E w w') : TryC z n o s al ln cl w' := by
  obtain ⟨h1, h2, h3, h4, h5⟩ := h
  obtain ⟨z1, z2, z3, z4, z5, z6, z7, _, _⟩ := hz
  have np : ¬ z.E z.p := fun h => by rcases h with h | h <;> omega
  have nl : ¬ z.E z.l := fun h => by rcases h with h | h <;> omega
  have nt : ¬ z.E z.t := fun h => by rcases h with h | h <;> omega
  exact ⟨hw.cell h1 np, hw.cell h2 np, hw.cell h3 np, hw.cell h4 nl, hw.cell h5 nt⟩
theorem TryC.stays {z : Tb} {n o s : Nat} {al : Option Addr} {ln cl : Nat} {w w' : World} (h : TryC z n o s al ln cl w) (hw : Below w.heap.size w w') : TryC z n o s al ln cl w' := by
  obtain ⟨h1, h2, h3, h4, h5⟩ := h
  exact ⟨below_cell hw h1, below_cell hw h2, below_cell hw h3, below_cell hw h4, below_cell hw h5⟩
/-- What is best so far stands in two boxes. -/
def TryB (z : Tb) (w : World) (st : Vs) : Prop :=
  ∃ aw cw ab nb cb, w.heap[z.w]? = some (.cells #[.slice aw st.2.length cw] 28 (0, 0)) ∧ w.heap[z.b]? = some (.cells #[.slice ab nb cb] 28 (0, 0)) ∧ IsInts w (.slice aw st.2.length cw) st.2 ∧ IsInts w (.slice ab nb cb) st.1 ∧ (st.2 = [] → aw = none ∧ cw = 0)
theorem TryB.stays {z : Tb} {w w' : World} {st : Vs} (h : TryB z w st) (hw : Below w.heap.size w w') : TryB z w' st := by
  obtain ⟨aw, cw, ab, nb, cb, h1, h2, h3, h4, h5⟩ := h
  exact ⟨aw, cw, ab, nb, cb, (hw.block z.w (Array.getElem?_eq_some_iff.1 h1).1).trans h1, (hw.block z.b (Array.getElem?_eq_some_iff.1 h2).1).trans h2, h3.stays hw, h4.stays hw, h5⟩
/-- Numbers do not lie in a box that holds a slice. -/
theorem ints_off {w : World} {v : Value} {l : List Int} {g : Nat} {a : Option Addr} {n c : Nat} {T : TypeId} (h : IsInts w v l) (hg : w.heap[g]? = some (.cells #[.slice a n c] T (0, 0))) : ∀ k, Value.lies v k → l ≠ [] → k ≠ g := by
  rintro k ⟨y, n', c', rfl, rfl⟩ hl e
  obtain ⟨a', c'', e1, _, _, hi⟩ := h
  simp only [Value.slice.injEq] at e1
  obtain ⟨rfl, _, _⟩ := e1
  obtain ⟨b, off, z, e2, hc, _⟩ := hi 0 (List.length_pos_iff.2 hl)
  cases e2
  simp only at e
  subst e
  unfold World.cell? at hc
  simp only [hg] at hc
  rcases Nat.eq_zero_or_pos off with h0 | h0
  · subst h0; simp at hc
  · have hn : (#[Value.slice a n c] : Array Value)[off + 0]? = none := Array.getElem?_eq_none (by simp; omega)
    simp only [hn] at hc
    split at hc <;> cases hc
theorem TryB.vote {z : Tb} {w : World} {st : Vs} {B : Nat} (h : TryB z w st) (hz : z.ok B) {a1 a2 : Option Addr} {n1 c1 c2 : Nat} {D F : List Int} (h1 : IsInts w (.slice a1 n1 c1) D) (h2 : IsInts w (.slice a2 F.length c2) F) (hF : F ≠ []) :
    TryB z ((w.setCell ⟨z.b, 0, none⟩ (.slice a1 n1 c1)).setCell ⟨z.w, 0, none⟩ (.slice a2 F.length c2)) (D, F) ∧ Dirty z.E w ((w.setCell ⟨z.b, 0, none⟩ (.slice a1 n1 c1)).setCell ⟨z.w, 0, none⟩ (.slice a2 F.length c2)) := by
  obtain ⟨aw, cw, ab, nb, cb, g1, g2, _⟩ := h
  obtain ⟨_, _, _, _, _, _, z7, _, _⟩ := hz
  have hd : Dirty z.E w ((w.setCell ⟨z.b, 0, none⟩ (.slice a1 n1 c1)).setCell ⟨z.w, 0, none⟩ (.slice a2 F.length c2)) :=
    ((Dirty.of_grown (grown_setCell w ⟨z.b, 0, none⟩ (.slice a1 n1 c1))).mono (fun k _ hk => by cases hk; exact Or.inr rfl)).trans ((Dirty.of_grown (grown_setCell _ ⟨z.w, 0, none⟩ (.slice a2 F.length c2))).mono (fun k _ hk => by cases hk; exact Or.inl rfl))
  have hoff : ∀ {v : Value} {l : List Int}, IsInts w v l → ∀ k, Value.lies v k → l ≠ [] → ¬ z.E k := fun hi k hk hl hE => by
    rcases hE with hE | hE
    · exact ints_off hi g1 k hk hl hE
    · exact ints_off hi g2 k hk hl hE
  refine ⟨⟨a2, c2, a1, n1, c1, ?_, ?_, h2.framed (hoff h2) hd, h1.framed (hoff h1) hd, fun e => absurd e hF⟩, hd⟩
  · have e1 : (w.setCell ⟨z.b, 0, none⟩ (.slice a1 n1 c1)).heap[z.w]? = some (.cells #[.slice aw st.2.length cw] 28 (0, 0)) := (Below.heap_setCell w ⟨z.b, 0, none⟩ _ z.w z7).trans g1
    have := heap_setCell_same _ z.w 0 _ _ (.slice a2 F.length c2) e1
    simpa using this
  · have e1 := heap_setCell_same w z.b 0 _ _ (.slice a1 n1 c1) g2
    exact (Below.heap_setCell _ ⟨z.w, 0, none⟩ _ z.b (fun e => z7 e.symm)).trans (by simpa using e1)
theorem fresh_cellsT (w : World) (l : List Value) (T : TypeId) (n : Nat) (hn : n = w.heap.size) : ∀ j u, l[j]? = some u → (w.alloc (.cells l.toArray T)).cell? ((⟨n, 0, none⟩ : Addr).add j) = some u := by
  subst hn
  intro j u hj
  rw [add_zero']
  unfold World.cell? World.alloc
  simp [hj]
/-- The row of shares is no box. -/
theorem TryB.off {z : Tb} {w : World} {st : Vs} (h : TryB z w st) {W : World} {E : Nat → Prop} {base : Nat} {v : Value} {l : List Sh} (ho : OwnRow 2 (RAt W RShare) E w 58 base v l) : ∀ k, v.ownBlock = some k → ¬ z.E k := by
  intro k hk hE
  obtain ⟨aw, cw, ab, nb, cb, h1, h2, _⟩ := h
  rcases ho.shape with ⟨rfl, _⟩ | ⟨g, cap, cur, rfl, _, _, _, _, hc, _⟩
  · cases hk
  · simp only [Value.ownBlock, Option.some.injEq] at hk
    subst hk
    rcases hE with rfl | rfl
    · rw [hc] at h1; cases h1
    · rw [hc] at h2; cases h2
/-- Three boxes, laid one behind the other. -/
theorem three_boxes (w : World) (a b c : Value) (T U : TypeId) : ∃ ws, ws = ((w.alloc (.cells #[a] T)).alloc (.cells #[b] T)).alloc (.cells #[c] U) ∧ ws.heap[w.heap.size]? = some (.cells #[a] T (0, 0)) ∧ ws.heap[w.heap.size + 1]? = some (.cells #[b] T (0, 0)) ∧ ws.heap[w.heap.size + 1 + 1]? = some (.cells #[c] U (0, 0)) ∧ Since w.heap.size w ws := by
  refine ⟨_, rfl, ?_, ?_, ?_, (((Since.refl w).alloc _).alloc _).alloc _⟩
  · rw [heap_alloc_old _ _ (by simp; omega), heap_alloc_old _ _ (by simp)]
    exact heap_alloc_new w _
  · rw [heap_alloc_old _ _ (by simp)]
    have := heap_alloc_new (w.alloc (.cells #[a] T)) (.cells #[b] T)
    simpa using this
  · have := heap_alloc_new ((w.alloc (.cells #[a] T)).alloc (.cells #[b] T)) (.cells #[c] U)
    simpa using this
end Go.Proofs.YtjakdgchfimhkaaGreat

namespace Go.Proofs.YtjakdgchfimhkaaGreat
open Go.RowKit

theorem IsShares.from {w : World} {b off L cap : Nat} {ls : List Sh} (h : IsShares w (.slice (some ⟨b, off, none⟩) L cap) ls) (n : Nat) (hn : n ≤ ls.length) :
    IsShares w (.slice (some ⟨b, off + n * 2, none⟩) (L - n) (cap - n)) (ls.drop n) := by
  obtain ⟨a', cap', e, h1, ⟨h2, h3, h4⟩, h5⟩ := h
  simp only [Value.slice.injEq] at e
  obtain ⟨rfl, rfl, rfl⟩ := e
  refine ⟨some ⟨b, off + n * 2, none⟩, cap - n, by simp, by simp; omega, ⟨by simp; omega, by omega, fun e => by cases e⟩, ?_⟩
  intro i hi
  simp at hi
  obtain ⟨b', off', v, s, e, g1, g2, g3, g4, g5⟩ := h5 (n + i) (by omega)
  cases e
  refine ⟨b, off + n * 2, v, s, rfl, ?_, ?_, g3, by rw [List.getElem?_drop]; exact g4, g5⟩
  · rw [show off + n * 2 + i * 2 = off + (n + i) * 2 by omega]; exact g1
  · rw [show off + n * 2 + i * 2 + 1 = off + (n + i) * 2 + 1 by omega]; exact g2

theorem IsShares.take {w : World} {a : Option Addr} {L cap : Nat} {ls : List Sh} (h : IsShares w (.slice a L cap) ls) (n : Nat) (hn : n ≤ ls.length) (c : Nat) (hc : n ≤ c) (hcm : c ≤ 9223372036854775807) (ha : a = none → c = 0) :
    IsShares w (.slice a n c) (ls.take n) := by
  obtain ⟨a', cap', e, h1, ⟨h2, h3, h4⟩, h5⟩ := h
  simp only [Value.slice.injEq] at e
  obtain ⟨rfl, _, rfl⟩ := e
  refine ⟨a, c, by simp; omega, by simp; omega, ⟨by simp; omega, hcm, ha⟩, ?_⟩
  intro i hi
  have hi' : i < n := by simp at hi; omega
  obtain ⟨b, off, v, s, rfl, g1, g2, g3, g4, g5⟩ := h5 i (by omega)
  exact ⟨b, off, v, s, rfl, g1, g2, g3, by rw [List.getElem?_take, if_pos hi']; exact g4, g5⟩

set_option maxRecDepth 100000 in
set_option maxHeartbeats 4000000 in
theorem Join_no (n o s : Int) (v : Value) (ls : List Sh) (W : World) (hd : IsShares W v ls) (hp : planV n o s = 0) (hl : ls.length ≤ 8) (hE : checkL n o s [] ls ≠ 0) :
    Calls Tryz.prog 47 #[.agg #[.int .i64 n, .int .i64 o, .int .i64 s], v] W fun e w' => e = .returned (.tuple #[.slice none 0 0, .int .i64 (checkL n o s [] ls)]) ∧ Below W.heap.size W w' := by
  obtain ⟨a, c, rfl, hcap, ⟨hm, hcm, hnone⟩, _⟩ := hd.opened
  have S0 := (Since.refl W).alloc (.cells #[.int .i64 n, .int .i64 o, .int .i64 s] 30)
  have hd0 := hd.stays (below_alloc _ (.cells #[.int .i64 n, .int .i64 o, .int .i64 s] 30))
  have c0 : (W.alloc (.cells #[.int .i64 n, .int .i64 o, .int .i64 s] 30)).cell? ⟨W.heap.size, 0, none⟩ = some (.int .i64 n) := by go_simp
  have c1 : (W.alloc (.cells #[.int .i64 n, .int .i64 o, .int .i64 s] 30)).cell? ⟨W.heap.size, 1, none⟩ = some (.int .i64 o) := by go_simp
  have c2 : (W.alloc (.cells #[.int .i64 n, .int .i64 o, .int .i64 s] 30)).cell? ⟨W.heap.size, 2, none⟩ = some (.int .i64 s) := by go_simp
  obtain ⟨w0, hw0⟩ : ∃ w0, w0 = W.alloc (.cells #[.int .i64 n, .int .i64 o, .int .i64 s] 30) := ⟨_, rfl⟩
  rw [← hw0] at S0 hd0 c0 c1 c2
  have HW := Lib.hid hw0
  clear hw0
  obtain ⟨B, hB⟩ : ∃ B, B = W.heap.size := ⟨_, rfl⟩
  rw [← hB] at c0 c1 c2
  have HB := Lib.hid hB
  clear hB
  have l0 := cell_lt c0
  have HP := Lib.hid hp
  have HE := Lib.hid hE
  clear hp hE hd
  go_enter Tryz.func47, Tryz.ntmps47
  go_wp2_with fail
  rw [← HW.out, ← HB.out]
  refine (planCheck_any _ _ _ _).mono ?_
  rintro e w1 ⟨rfl, hb1⟩
  rw [HP.out]
  have T1 := (Since.refl w0).step hb1
  clear hb1
  go_wp2_with fail
  go_loopw [35] (fun i wr => ∃ k : Nat, k ≤ ls.length ∧ i = .int .i64 k ∧ Since w0.heap.size w0 wr ∧ checkL n o s (ls.take k) (ls.drop k) = checkL n o s [] ls) (fun i _ => ls.length - (intOf i).toNat)
  case atStart => exact ⟨0, by omega, rfl, T1, by simp⟩
  case round =>
    obtain ⟨k, hk, rfl, hS, hq⟩ := hrel
    have HQ := Lib.hid hq
    clear hq
    have hdr := hd0.stays hS.below
    clear T1
    by_cases hlt : k < ls.length
    · obtain ⟨a', c', ee, _, _, hi⟩ := hdr.opened
      simp only [Value.slice.injEq] at ee
      obtain ⟨rfl, _, rfl⟩ := ee
      obtain ⟨b1, o1, v1, s1, rfl, h1, h2, h3, h4, h5⟩ := hi k hlt
      have HD := Lib.hid (drop_get h4)
      have HT := Lib.hid (show ls.take (k + 1) = ls.take k ++ [s1] by rw [List.take_add_one, h4]; rfl)
      clear h4 hi
      obtain ⟨a1, k1, rfl, _⟩ := h3.opened
      have S2 := hS.alloc (.cells #[.int .i64 s1.1, .slice a1 s1.2.length k1] 58)
      have hdr2 := hdr.stays (below_alloc wr (.cells #[.int .i64 s1.1, .slice a1 s1.2.length k1] 58))
      have h32 := h3.stays (below_alloc wr (.cells #[.int .i64 s1.1, .slice a1 s1.2.length k1] 58))
      have e0 := (S2.below.cell (p := ⟨B, 0, none⟩) l0).trans c0
      have e1 := (S2.below.cell (p := ⟨B, 1, none⟩) l0).trans c1
      have e2 := (S2.below.cell (p := ⟨B, 2, none⟩) l0).trans c2
      have e3 : (wr.alloc (.cells #[.int .i64 s1.1, .slice a1 s1.2.length k1] 58)).cell? ⟨wr.heap.size, 0, none⟩ = some (.int .i64 s1.1) := by go_simp
      have e4 : (wr.alloc (.cells #[.int .i64 s1.1, .slice a1 s1.2.length k1] 58)).cell? ⟨wr.heap.size, 1, none⟩ = some (.slice a1 s1.2.length k1) := by go_simp
      have l3 := cell_lt e3
      have hdk := hdr2.take k hk c (by omega) hcm hnone
      by_cases hone : oneV n o s s1.1 s1.2 = 0
      · have HO := Lib.hid hone
        clear hone
        have hkc : k ≤ c := by omega
        go_wp2_with fail
        refine (One_any _ _ _ _ _ _ _ h32).mono ?_
        rintro e w3 ⟨rfl, hb3⟩
        rw [HO.out]
        have S3 := S2.step hb3
        have hdk3 := hdk.stays hb3
        have e33 := (hb3.cell (p := ⟨wr.heap.size, 0, none⟩) l3).trans e3
        obtain ⟨H, hH⟩ : ∃ H, H = hasN (ls.take k) s1.1 := ⟨_, rfl⟩
        have HH := Lib.hid hH
        clear hH e0 e1 e2 e3 e4 h1 h2 hdr hdr2 hdk hb3
        go_wp2_with fail
        refine (ContainsShares_any _ _ _ _ _ hdk3 e33).mono ?_
        rintro e w4 ⟨rfl, hb4⟩
        rw [← HH.out]
        have S4 := S3.step hb4
        cases H with
        | true =>
          go_wp2_with fail
          go_ret2
          refine ⟨ret_nilE ?_, (S0.step S4.below).below⟩
          rw [← HQ.out, HD.out]
          simp [checkL, HO.out, ← HH.out]
        | false =>
          go_wp2_with fail
          go_roundw
          case rel =>
            refine ⟨k + 1, by omega, by go_num, S4, ?_⟩
            rw [← HQ.out, HD.out, HT.out]
            simp [checkL, HO.out, ← HH.out]
          case measure => simp [intOf]; omega
      · have hone1 : (oneV n o s s1.1 s1.2 != 0) = true := by simpa using hone
        have HO := Lib.hid hone
        clear hone
        go_wp2_with fail
        refine (One_any _ _ _ _ _ _ _ h32).mono ?_
        rintro e w3 ⟨rfl, hb3⟩
        have S3 := S2.step hb3
        clear e0 e1 e2 e3 e4 h1 h2 hdr hdr2 hdk
        go_wp2_with fail
        go_ret2
        refine ⟨ret_nilE ?_, (S0.step S3.below).below⟩
        rw [← HQ.out, HD.out]
        unfold checkL
        rw [if_pos HO.out]
    · obtain rfl : ls.length = k := by omega
      exfalso
      apply HE.out
      rw [← HQ.out]
      simp [checkL]

set_option maxRecDepth 100000 in
set_option maxHeartbeats 8000000 in
theorem Join_ok (n o s : Nat) (v : Value) (ls : List Sh) (W : World) (hd : IsShares W v ls) (hR : Right n o s ls) (hE : checkL n o s [] ls = 0) :
    Calls Tryz.prog 47 #[.agg #[.int .i64 n, .int .i64 o, .int .i64 s], v] W fun e w' => (∃ v', e = .returned (.tuple #[v', .int .i64 (joinE n o s ls)]) ∧ IsInts w' v' (joinC n o s ls)) ∧ Below W.heap.size W w' := by
  obtain ⟨p1, p2, p3, p4, p5, p6⟩ := planV_bd hR.plan
  have hlen8 := hR.many
  have hfew := hR.few
  obtain ⟨r1, r2, r3⟩ := rowsN_bd (n := n) (s := s) (by omega) (by omega) (by omega) (by omega)
  obtain ⟨a, c, rfl, hcap, ⟨hm, hcm, hnone⟩, hda⟩ := hd.opened
  have S0 := (Since.refl W).alloc (.cells #[.int .i64 (n : Int), .int .i64 (o : Int), .int .i64 (s : Int)] 30)
  have hd0 := hd.stays (below_alloc _ (.cells #[.int .i64 (n : Int), .int .i64 (o : Int), .int .i64 (s : Int)] 30))
  have c0 : (W.alloc (.cells #[.int .i64 (n : Int), .int .i64 (o : Int), .int .i64 (s : Int)] 30)).cell? ⟨W.heap.size, 0, none⟩ = some (.int .i64 (n : Int)) := by go_simp
  have c1 : (W.alloc (.cells #[.int .i64 (n : Int), .int .i64 (o : Int), .int .i64 (s : Int)] 30)).cell? ⟨W.heap.size, 1, none⟩ = some (.int .i64 (o : Int)) := by go_simp
  have c2 : (W.alloc (.cells #[.int .i64 (n : Int), .int .i64 (o : Int), .int .i64 (s : Int)] 30)).cell? ⟨W.heap.size, 2, none⟩ = some (.int .i64 (s : Int)) := by go_simp
  obtain ⟨w0, hw0⟩ : ∃ w0, w0 = W.alloc (.cells #[.int .i64 (n : Int), .int .i64 (o : Int), .int .i64 (s : Int)] 30) := ⟨_, rfl⟩
  rw [← hw0] at S0 hd0 c0 c1 c2
  have HW := Lib.hid hw0
  clear hw0
  obtain ⟨B, hB⟩ : ∃ B, B = W.heap.size := ⟨_, rfl⟩
  rw [← hB] at c0 c1 c2
  have HB := Lib.hid hB
  clear hB
  have l0 := cell_lt c0
  obtain ⟨bd, od, _, _, rfl, _⟩ := hda 0 (by omega)
  have HR := Lib.hid hR
  have HP := Lib.hid hR.plan
  have hchk : checkL n o s [] ls = 0 := hE
  have HE := Lib.hid hchk
  have hJ : joinE n o s ls = if tornsL n ls (rowsN n s) then 9 else if hasNot ((dataL n ls (rowsN n s)).drop s) then 9 else 0 := by
    unfold joinE checksL
    rw [if_neg (c := planV n o s ≠ 0) (by simpa using hR.plan), if_neg (c := 8 < (ls.length : Int)) (by omega), if_neg (c := checkL n o s [] ls ≠ 0) (by simpa using hE), if_neg (c := (ls.length : Int) < n) (by omega)]
    rfl
  have HJ := Lib.hid hJ
  clear hJ hchk hE hd hR hda
  have HL := Lib.hid (longV_nat HP.out)
  obtain ⟨R, hRr⟩ : ∃ R, R = rowsN n s := ⟨_, rfl⟩
  rw [← hRr] at r1 r2 r3 HJ HL
  have HRr := Lib.hid hRr
  clear hRr
  go_enter Tryz.func47, Tryz.ntmps47
  go_wp2_with fail
  rw [← HW.out, ← HB.out]
  refine (planCheck_any _ _ _ _).mono ?_
  rintro e w1 ⟨rfl, hb1⟩
  rw [HP.out]
  have T1 := (Since.refl w0).step hb1
  clear hb1
  go_wp2_with fail
  go_loopw [35] (fun i wr => ∃ k : Nat, k ≤ ls.length ∧ i = .int .i64 k ∧ Since w0.heap.size w0 wr ∧ checkL n o s (ls.take k) (ls.drop k) = 0) (fun i _ => ls.length - (intOf i).toNat)
  case atStart => exact ⟨0, by omega, rfl, T1, by simpa using HE.out⟩
  case round =>
    obtain ⟨k, hk, rfl, hS, hq⟩ := hrel
    have hdr := hd0.stays hS.below
    clear T1
    by_cases hlt : k < ls.length
    · obtain ⟨a', c', ee, _, _, hi⟩ := hdr.opened
      simp only [Value.slice.injEq] at ee
      obtain ⟨rfl, _, rfl⟩ := ee
      obtain ⟨b1, o1, v1, s1, e9, h1, h2, h3, h4, h5⟩ := hi k hlt
      cases e9
      rw [drop_get h4] at hq
      have hone : oneV n o s s1.1 s1.2 = 0 := by
        unfold checkL at hq
        split at hq
        · rename_i g; exact absurd hq g
        · rename_i g; simpa using g
      have hhas : hasN (ls.take k) s1.1 = false := by
        unfold checkL at hq
        rw [if_neg (by simpa using hone)] at hq
        split at hq
        · simp at hq
        · rename_i g; simpa using g
      have hnx : checkL n o s (ls.take (k + 1)) (ls.drop (k + 1)) = 0 := by
        unfold checkL at hq
        rw [if_neg (by simpa using hone), if_neg (by simpa using hhas)] at hq
        rw [List.take_add_one, h4]
        exact hq
      have HNX := Lib.hid hnx
      have HO := Lib.hid hone
      have HH := Lib.hid hhas
      clear h4 hi hq hnx hone hhas
      obtain ⟨a1, k1, rfl, _⟩ := h3.opened
      have S2 := hS.alloc (.cells #[.int .i64 s1.1, .slice a1 s1.2.length k1] 58)
      have hdr2 := hdr.stays (below_alloc wr (.cells #[.int .i64 s1.1, .slice a1 s1.2.length k1] 58))
      have h32 := h3.stays (below_alloc wr (.cells #[.int .i64 s1.1, .slice a1 s1.2.length k1] 58))
      have e0 := (S2.below.cell (p := ⟨B, 0, none⟩) l0).trans c0
      have e1 := (S2.below.cell (p := ⟨B, 1, none⟩) l0).trans c1
      have e2 := (S2.below.cell (p := ⟨B, 2, none⟩) l0).trans c2
      have e3 : (wr.alloc (.cells #[.int .i64 s1.1, .slice a1 s1.2.length k1] 58)).cell? ⟨wr.heap.size, 0, none⟩ = some (.int .i64 s1.1) := by go_simp
      have e4 : (wr.alloc (.cells #[.int .i64 s1.1, .slice a1 s1.2.length k1] 58)).cell? ⟨wr.heap.size, 1, none⟩ = some (.slice a1 s1.2.length k1) := by go_simp
      have l3 := cell_lt e3
      have hdk := hdr2.take k hk c (by omega) hcm hnone
      have hkc : k ≤ c := by omega
      go_wp2_with fail
      refine (One_any _ _ _ _ _ _ _ h32).mono ?_
      rintro e w3 ⟨rfl, hb3⟩
      rw [HO.out]
      have S3 := S2.step hb3
      have hdk3 := hdk.stays hb3
      have e33 := (hb3.cell (p := ⟨wr.heap.size, 0, none⟩) l3).trans e3
      clear e0 e1 e2 e3 e4 h1 h2 hdr hdr2 hdk hb3
      go_wp2_with fail
      refine (ContainsShares_any _ _ _ _ _ hdk3 e33).mono ?_
      rintro e w4 ⟨rfl, hb4⟩
      rw [HH.out]
      have S4 := S3.step hb4
      go_wp2_with fail
      go_roundw
      case rel => exact ⟨k + 1, by omega, by go_num, S4, HNX.out⟩
      case measure => simp [intOf]; omega
    · obtain rfl : k = ls.length := by omega
      clear hq hlt hk
      have d0 := (hS.below.cell (p := ⟨B, 0, none⟩) l0).trans c0
      have hnc : n ≤ c := by omega
      have hln : decide (ls.length < n) = false := by simp; omega
      obtain ⟨wo, hwo⟩ : ∃ wo : World, wo = wr := ⟨_, rfl⟩
      rw [← hwo] at hS hdr d0 ⊢
      clear hwo
      go_wp2_with fail
      clear d0
      go_loopw [62, 10] (fun i x wr => ∃ k : Nat, k ≤ n ∧ i = .int .i64 k ∧ Since w0.heap.size w0 wr ∧ OwnInts wr 3 w0.heap.size x (xsL k ls)) (fun i _ _ => n - (intOf i).toNat)
      case atStart => exact ⟨0, by omega, rfl, hS, OwnInts.nil _ _ _⟩
      case round =>
        clear hS hdr
        obtain ⟨k, hk, rfl, hS, hx⟩ := hrel
        by_cases hlt : k < n
        · obtain ⟨a', c', ee, _, _, hi⟩ := (hd0.stays hS.below).opened
          simp only [Value.slice.injEq] at ee
          obtain ⟨rfl, _, rfl⟩ := ee
          obtain ⟨b1, o1, v1, s1, e9, h1, h2, h3, h4, h5⟩ := hi k (by omega)
          cases e9
          have HX := Lib.hid (xsL_step h4)
          have hnum : I64 s1.1 := h5
          obtain ⟨i1, i2⟩ := h5
          clear h4 hi
          obtain ⟨a1, k1, rfl, _⟩ := h3.opened
          have S2 := hS.alloc (.cells #[.int .i64 s1.1, .slice a1 s1.2.length k1] 58)
          have e3 : (wr.alloc (.cells #[.int .i64 s1.1, .slice a1 s1.2.length k1] 58)).cell? ⟨wr.heap.size, 0, none⟩ = some (.int .i64 s1.1) := by go_simp
          have hx2 := hx.stays (below_alloc wr (.cells #[.int .i64 s1.1, .slice a1 s1.2.length k1] 58))
          have hlx : (xsL k ls).length ≤ 8 := by simp [xsL]; omega
          have hgs := hS.2
          go_wp2_with (at_builtin; refine wpList_append_int rfl _ _ 28 rfl 3 Tryz.underlying28 info_int w0.heap.size _ _ rfl (hx2.stays (below_alloc _ _)) ⟨wr.heap.size + 1, 0, none⟩ 1 s1.1 rfl (by go_simp) hnum (by omega) (by simp; omega) ?_; intro v' w4 hx4 hg4)
          go_roundw
          case rel =>
            exact ⟨k + 1, by omega, by go_num, (S2.alloc _).own (hx2.stays (below_alloc _ _)) hg4, by rw [HX.out]; exact hx4⟩
          case measure => simp [intOf]; omega
        · obtain rfl : n = k := by omega
          clear hlt hk
          have d0 := (hS.below.cell (p := ⟨B, 0, none⟩) l0).trans c0
          have d1 := (hS.below.cell (p := ⟨B, 1, none⟩) l0).trans c1
          have d2 := (hS.below.cell (p := ⟨B, 2, none⟩) l0).trans c2
          go_wp2_with fail
          refine (Long_any _ _ _ _).mono ?_
          rintro e w5 ⟨rfl, hb5⟩
          rw [HL.out]
          have S5 := hS.step hb5
          have hx5 := hx.stays hb5
          clear hS hx d0 d1 d2
          obtain ⟨g1, hg1⟩ : ∃ g1, g1 = w5.heap.size := ⟨_, rfl⟩
          have hxl := fun j (hj : u10.ownBlock = some j) => (hx5.1.lt j hj).2
          rw [← hg1] at hxl
          have hg1' : g1 ≤ w5.heap.size := by omega
          have hg0 : w0.heap.size ≤ g1 := by rw [hg1]; exact S5.2
          clear hg1 hb5
          go_wp2_with fail
          go_loopw [74, 13] (fun i dv wr => ∃ r : Nat, r ≤ R ∧ i = .int .i64 r ∧ Since w0.heap.size w0 wr ∧ g1 ≤ wr.heap.size ∧ OwnInts wr 3 w0.heap.size u10 (xsL n ls) ∧ OwnInts wr 3 g1 dv (dataL n ls r) ∧ tornsL n ls r = false) (fun i _ _ => R - (intOf i).toNat)
          case atStart => exact ⟨0, by omega, rfl, S5, hg1', hx5, OwnInts.nil _ _ _, rfl⟩
          case round =>
            clear S5 hg1' hx5
            obtain ⟨r, hr, rfl, hS, hgw, hx, hdv, hto⟩ := hrel
            obtain ⟨wo, hwo⟩ : ∃ wo : World, wo = wr := ⟨_, rfl⟩
            rw [← hwo] at hS hgw hx hdv ⊢
            clear hwo
            by_cases hlt : r < R
            · have hPT := Lib.hid (ptsV_ok.2 (HR.out.pts r))
              have HTO := Lib.hid hto
              clear hto
              have d0 := (hS.below.cell (p := ⟨B, 0, none⟩) l0).trans c0
              obtain ⟨gy, hgy⟩ : ∃ gy, gy = wo.heap.size := ⟨_, rfl⟩
              have hdl := fun j (hj : u13.ownBlock = some j) => (hdv.1.lt j hj).2
              rw [← hgy] at hdl hgw
              have hgy' : gy ≤ wo.heap.size := by omega
              have hgs := hS.2
              rw [← hgy] at hgs
              clear hgy
              go_wp2_with fail
              clear d0
              go_loopw [82, 15] (fun i y wr => ∃ k : Nat, k ≤ n ∧ i = .int .i64 k ∧ Since w0.heap.size w0 wr ∧ gy ≤ wr.heap.size ∧ OwnInts wr 3 w0.heap.size u10 (xsL n ls) ∧ OwnInts wr 3 g1 u13 (dataL n ls r) ∧ OwnInts wr 3 gy y (ysL k ls r)) (fun i _ _ => n - (intOf i).toNat)
              case atStart => exact ⟨0, by omega, rfl, hS, hgy', hx, hdv, OwnInts.nil _ _ _⟩
              case round =>
                clear hS hgy' hx hdv
                obtain ⟨k, hk, rfl, hS, hgw4, hx, hdv, hy⟩ := hrel
                by_cases hkn : k < n
                · obtain ⟨a', c', ee, _, _, hi⟩ := (hd0.stays hS.below).opened
                  simp only [Value.slice.injEq] at ee
                  obtain ⟨rfl, _, rfl⟩ := ee
                  obtain ⟨b1, o1, v1, s1, e9, h1, h2, h3, h4, h5⟩ := hi k (by omega)
                  cases e9
                  have HY := Lib.hid (ysL_step r h4)
                  have hvl := HR.out.len s1 (List.mem_of_getElem? h4)
                  rw [← HRr.out] at hvl
                  have hvr : r < s1.2.length := by omega
                  clear h4 hi h5 hvl
                  obtain ⟨a1, k1, rfl, _, ⟨q1, _⟩, hz⟩ := h3.opened
                  obtain ⟨b2, o2, z2, rfl, hz1, hz2, hz3⟩ := hz r (by omega)
                  have HZ := Lib.hid (show s1.2.getD r 0 = z2 by rw [List.getD_eq_getElem?_getD, hz2]; rfl)
                  clear hz hz2
                  have S2 := hS.alloc (.cells #[.int .i64 s1.1, .slice (some ⟨b2, o2, none⟩) s1.2.length k1] 58)
                  have bb := below_alloc wr (.cells #[.int .i64 s1.1, .slice (some ⟨b2, o2, none⟩) s1.2.length k1] 58)
                  have e4 : (wr.alloc (.cells #[.int .i64 s1.1, .slice (some ⟨b2, o2, none⟩) s1.2.length k1] 58)).cell? ⟨wr.heap.size, 1, none⟩ = some (.slice (some ⟨b2, o2, none⟩) s1.2.length k1) := by go_simp
                  have e5 := (bb.cell (p := ⟨b2, o2 + r, none⟩) (cell_lt hz1)).trans hz1
                  have hy2 := hy.stays bb
                  have hx2 := hx.stays bb
                  have hd2 := hdv.stays bb
                  have hly : (ysL k ls r).length ≤ 8 := by simp [ysL]; omega
                  have hyl := fun j (hj : u15.ownBlock = some j) => (hy.1.lt j hj).1
                  obtain ⟨z20, z21⟩ := hz3
                  go_wp2_with (at_builtin; refine wpList_append_int rfl _ _ 28 rfl 3 Tryz.underlying28 info_int gy _ _ rfl (hy2.stays (below_alloc _ _)) ⟨wr.heap.size + 1, 0, none⟩ 1 z2 rfl (by go_simp) ⟨z20, z21⟩ (by omega) (by simp; omega) ?_; intro v' w4 hy4 hg4)
                  go_roundw
                  case rel =>
                    refine ⟨k + 1, by omega, by go_num, (S2.alloc _).grown hg4 (fun j hj => ?_), Nat.le_trans (by simp; omega) hg4.size, (hx2.stays (below_alloc _ _)).kept hg4 ?_, (hd2.stays (below_alloc _ _)).kept hg4 ?_, by rw [HY.out, HZ.out]; exact hy4⟩
                    · have := hyl j hj; omega
                    · cases hb : u10.ownBlock with
                      | none => exact Or.inl rfl
                      | some j => right; intro e; have := hxl j hb; have := hyl j e.symm; omega
                    · cases hb : u13.ownBlock with
                      | none => exact Or.inl rfl
                      | some j => right; intro e; have := hdl j hb; have := hyl j e.symm; omega
                  case measure => simp [intOf]; omega
                · obtain rfl : n = k := by omega
                  clear hkn hk
                  have d0 := (hS.below.cell (p := ⟨B, 0, none⟩) l0).trans c0
                  have hyl := fun j (hj : u15.ownBlock = some j) => (hy.1.lt j hj).1
                  have hap : Apart u13 u15 := fun i j hi hj e => by
                    have := hdl i hi
                    have := hyl j hj
                    omega
                  have hrn : r * n ≤ 24 * 4 := Nat.mul_le_mul (by omega) (by omega)
                  go_wp2_with fail
                  clear d0
                  go_loopw [97, 13] (fun i dv wr => ∃ k : Nat, k ≤ n ∧ i = .int .i64 k ∧ Since w0.heap.size w0 wr ∧ gy ≤ wr.heap.size ∧ OwnInts wr 3 w0.heap.size u10 (xsL n ls) ∧ OwnInts wr 3 g1 dv (dataL n ls r ++ outK n ls r k) ∧ OwnInts wr 3 gy u15 (ysL n ls r) ∧ Apart dv u15) (fun i _ _ => n - (intOf i).toNat)
                  case atStart => exact ⟨0, by omega, rfl, hS, hgw4, hx, by simpa [outK] using hdv, hy, hap⟩
                  case round =>
                    clear hS hgw4 hx hdv hy hap
                    obtain ⟨k, hk, rfl, hS, hgw5, hx, hdv, hy, hap⟩ := hrel
                    by_cases hkn : k < n
                    · go_wp2_with fail
                      refine (At_ok _ _ (xsL n ls) (ysL n ls r) k _ hx.isInts hy.isInts hPT.out (by omega) (by omega)).mono ?_
                      rintro e w6 ⟨rfl, hb6⟩
                      have S6 := hS.step hb6
                      have hx6 := hx.stays hb6
                      have hy6 := hy.stays hb6
                      have hd6 := hdv.stays hb6
                      have hgw6 := Nat.le_trans hgw5 hb6.size
                      have hpb := atV_bd (xsL n ls) (ysL n ls r) k
                      have iz6 : I64 (atV (xsL n ls) (ysL n ls r) k) := ⟨by omega, by omega⟩
                      have hlen6 : (dataL n ls r ++ outK n ls r k).length ≤ 100 := by rw [List.length_append, dataL_len, outK_len]; omega
                      have hd7 := fun o => hd6.stays (below_alloc w6 o)
                      have HD7 := Lib.hid hd7
                      clear hb6 hS hx hdv hd7 hy
                      obtain ⟨du, hdu⟩ : ∃ du, du = dataL n ls r ++ outK n ls r k := ⟨_, rfl⟩
                      rw [← hdu] at hlen6 hd6
                      have HDU := Lib.hid hdu
                      clear hdu
                      go_wp2_with (at_builtin; refine wpList_append_int_at rfl _ _ 28 rfl 3 Tryz.underlying28 info_int g1 _ du rfl (hd6.stays (below_alloc w6 _)) ⟨w6.heap.size, 0, none⟩ 1 (atV (xsL n ls) (ysL n ls r) k) rfl (by simp) iz6 (by omega) (by simp; omega) ?_; intro v' w7 ho7 hg7 hat7; obtain ⟨av, cv, rfl, _⟩ := ho7.isInts.opened)
                      have hg8 := gr_of (c := u13) rfl hg7
                      have hat8 := at_of (c := u13) rfl hat7
                      clear hg7 hat7
                      have hy7 := hy6.stays (below_alloc w6 (.cells #[.int .i64 (atV (xsL n ls) (ysL n ls r) k)] 3))
                      have hx7 := (hx6.stays (below_alloc w6 (.cells #[.int .i64 (atV (xsL n ls) (ysL n ls r) k)] 3))).kept hg8 (by
                        cases hb : u10.ownBlock with
                        | none => exact Or.inl rfl
                        | some j => right; intro e; have := hxl j hb; have := (hd6.1.lt j e.symm).1; omega)
                      have S7 := (S6.alloc (.cells #[.int .i64 (atV (xsL n ls) (ysL n ls r) k)] 3)).grown hg8 (fun j hj => Nat.le_trans hg0 (hd6.1.lt j hj).1)
                      have hy8 := hy7.kept hg8 hap.ne
                      have hap8 := Apart.grown hap hat8 (fun j hj => (hy7.1.lt j hj).2)
                      rw [List.length_append] at ho7 hap8
                      have ho8 : OwnInts w7 3 g1 (.slice av (du.length + 1) cv) (dataL n ls r ++ outK n ls r (k + 1)) := by
                        rw [outK_step, ← List.append_assoc, ← HDU.out]
                        exact ho7
                      have hgw7 : gy ≤ w7.heap.size := Nat.le_trans hgw6 (Nat.le_trans (by simp) hg8.size)
                      go_roundw
                      case rel => exact ⟨k + 1, by omega, by go_num, S7, hgw7, hx7, ho8, hy8, hap8⟩
                      case measure => simp [intOf]; omega
                    · obtain rfl : n = k := by omega
                      clear hkn hk hap
                      rw [← dataL_step] at hdv
                      have d0 := (hS.below.cell (p := ⟨B, 0, none⟩) l0).trans c0
                      have hgwr : g1 ≤ wr.heap.size := by omega
                      have hx0 := hx
                      obtain ⟨wq, hwq⟩ : ∃ wq : World, wq = wr := ⟨_, rfl⟩
                      rw [← hwq] at hS hgwr hx hdv hy d0 ⊢
                      clear hwq hgw5 hx0
                      by_cases hn : n < c
                      · skip
                        go_wp2_with fail
                        obtain ⟨m, hm⟩ : ∃ m, m = ls.length - n := ⟨_, rfl⟩
                        rw [← hm]
                        have hm8 : m ≤ 8 := by omega
                        have HM := Lib.hid hm
                        clear hm d0
                        go_loopw [120] (fun i wr => ∃ k : Nat, k ≤ m ∧ i = .int .i64 k ∧ Since w0.heap.size w0 wr ∧ g1 ≤ wr.heap.size ∧ OwnInts wr 3 w0.heap.size u10 (xsL n ls) ∧ OwnInts wr 3 g1 u13 (dataL n ls (r + 1)) ∧ OwnInts wr 3 gy u15 (ysL n ls r) ∧ (((ls.drop n).take k).any fun t => decide (atV (xsL n ls) (ysL n ls r) t.1 ≠ t.2.getD r 0)) = false) (fun i _ => m - (intOf i).toNat)
                        case atStart => exact ⟨0, by omega, by go_num, hS, hgwr, hx, hdv, hy, by simp⟩
                        case round =>
                          clear hS hgwr hx hdv hy
                          obtain ⟨k, hk, rfl, hS, hgw6, hx, hdv, hy, hq⟩ := hrel
                          have HQ := Lib.hid hq
                          clear hq
                          by_cases hkl : k < m
                          · obtain ⟨a', c', ee, _, _, hi⟩ := ((hd0.stays hS.below).from n hfew).opened
                            simp only [Value.slice.injEq] at ee
                            obtain ⟨rfl, _, rfl⟩ := ee
                            obtain ⟨b1, o1, v1, s1, e9, h1, h2, h3, h4, h5⟩ := hi k (by have := HM.out; simp; omega)
                            cases e9
                            have HTK := Lib.hid (show (ls.drop n).take (k + 1) = (ls.drop n).take k ++ [s1] by rw [List.take_add_one, h4]; rfl)
                            have hms : s1 ∈ ls := List.mem_of_mem_drop (List.mem_of_getElem? h4)
                            have HMS := Lib.hid (show s1 ∈ ls.drop n from List.mem_of_getElem? h4)
                            have hvl := HR.out.len s1 hms
                            rw [← HRr.out] at hvl
                            have hvr : r < s1.2.length := by omega
                            obtain ⟨n10, n11⟩ := HR.out.num s1 hms
                            clear hms
                            clear h4 hi h5 hvl
                            obtain ⟨a1, k1, rfl, _, ⟨q1, _⟩, hz⟩ := h3.opened
                            obtain ⟨b2, o2, z2, rfl, hz1, hz2, hz3⟩ := hz r (by omega)
                            have HZ := Lib.hid (show s1.2.getD r 0 = z2 by rw [List.getD_eq_getElem?_getD, hz2]; rfl)
                            clear hz hz2
                            have S2 := hS.alloc (.cells #[.int .i64 s1.1, .slice (some ⟨b2, o2, none⟩) s1.2.length k1] 58)
                            have bb := below_alloc wr (.cells #[.int .i64 s1.1, .slice (some ⟨b2, o2, none⟩) s1.2.length k1] 58)
                            have e3 : (wr.alloc (.cells #[.int .i64 s1.1, .slice (some ⟨b2, o2, none⟩) s1.2.length k1] 58)).cell? ⟨wr.heap.size, 0, none⟩ = some (.int .i64 s1.1) := by go_simp
                            have e4 : (wr.alloc (.cells #[.int .i64 s1.1, .slice (some ⟨b2, o2, none⟩) s1.2.length k1] 58)).cell? ⟨wr.heap.size, 1, none⟩ = some (.slice (some ⟨b2, o2, none⟩) s1.2.length k1) := by go_simp
                            have e5 := (bb.cell (p := ⟨b2, o2 + r, none⟩) (cell_lt hz1)).trans hz1
                            have hx2 := hx.stays bb
                            have hy2 := hy.stays bb
                            have hd2 := hdv.stays bb
                            go_wp2_with fail
                            refine (At_ok _ _ (xsL n ls) (ysL n ls r) s1.1 _ hx2.isInts hy2.isInts hPT.out (by omega) (by omega)).mono ?_
                            rintro e w6 ⟨rfl, hb6⟩
                            have f4 := (hb6.cell (p := ⟨wr.heap.size, 1, none⟩) (cell_lt e4)).trans e4
                            have f5 := (hb6.cell (p := ⟨b2, o2 + r, none⟩) (cell_lt e5)).trans e5
                            have S6 := S2.step hb6
                            clear e3 e4 e5 h1 h2 hz1
                            by_cases hv : atV (xsL n ls) (ysL n ls r) s1.1 = z2
                            · have hv1 : (atV (xsL n ls) (ysL n ls r) s1.1 != z2) = false := by simpa using hv
                              have HV := Lib.hid hv
                              clear hv
                              go_wp2_with fail
                              go_roundw
                              case rel =>
                                refine ⟨k + 1, by omega, by go_num, S6, Nat.le_trans hgw6 (Nat.le_trans (by simp) hb6.size), hx2.stays hb6, hd2.stays hb6, hy2.stays hb6, ?_⟩
                                rw [HTK.out, List.any_append, HQ.out]
                                simp only [List.any_cons, List.any_nil]
                                rw [HV.out, HZ.out]
                                simp
                              case measure => simp [intOf]; omega
                            · have hv1 : (atV (xsL n ls) (ysL n ls r) s1.1 != z2) = true := by simpa using hv
                              have h9 : joinE n o s ls = 9 := by
                                rw [HJ.out, if_pos (tornsL_of (r := r) ?_ hlt)]
                                simp only [tornL, List.any_eq_true]
                                exact ⟨s1, HMS.out, by rw [HZ.out]; simpa using hv⟩
                              have H9 := Lib.hid h9
                              clear h9 hv
                              go_wp2_with fail
                              go_ret2
                              rw [joinC_err (by rw [H9.out]; omega), H9.out]
                              exact ⟨⟨_, rfl, IsInts.nil _⟩, (S0.step S6.below).below⟩
                          · have hto : tornL n ls r = false := by
                              have := HQ.out
                              rw [List.take_of_length_le (by have := HM.out; simp; omega)] at this
                              exact this
                            have HT2 := Lib.hid hto
                            clear hto
                            go_wp2_with fail
                            go_roundw
                            case rel => exact ⟨r + 1, by omega, by go_num, hS, hgw6, hx, hdv, by rw [tornsL_step, HTO.out, HT2.out]; rfl⟩
                            case measure => simp [intOf]; omega
                      · obtain rfl : n = c := by omega
                        go_wp2_with fail
                        clear d0
                        go_loopw [120] (fun i wr => ∃ k : Nat, k ≤ ls.length - n ∧ i = .int .i64 k ∧ Since w0.heap.size w0 wr ∧ g1 ≤ wr.heap.size ∧ OwnInts wr 3 w0.heap.size u10 (xsL n ls) ∧ OwnInts wr 3 g1 u13 (dataL n ls (r + 1)) ∧ OwnInts wr 3 gy u15 (ysL n ls r) ∧ (((ls.drop n).take k).any fun t => decide (atV (xsL n ls) (ysL n ls r) t.1 ≠ t.2.getD r 0)) = false) (fun i _ => ls.length - n - (intOf i).toNat)
                        case atStart => exact ⟨0, by omega, by go_num, hS, hgwr, hx, hdv, hy, by simp⟩
                        case round =>
                          clear hS hgwr hx hdv hy
                          obtain ⟨k, hk, rfl, hS, hgw6, hx, hdv, hy, hq⟩ := hrel
                          have HQ := Lib.hid hq
                          clear hq
                          by_cases hkl : k < ls.length - n
                          · omega
                          · have hto : tornL n ls r = false := by
                              have := HQ.out
                              rw [List.take_of_length_le (by simp; omega)] at this
                              exact this
                            have HT2 := Lib.hid hto
                            clear hto
                            go_wp2_with fail
                            go_roundw
                            case rel => exact ⟨r + 1, by omega, by go_num, hS, hgw6, hx, hdv, by rw [tornsL_step, HTO.out, HT2.out]; rfl⟩
                            case measure => simp [intOf]; omega
            · obtain rfl : R = r := by omega
              clear hlt hr
              have hj : joinE n o s ls = if hasNot ((dataL n ls R).drop s) then 9 else 0 := by
                rw [HJ.out, if_neg (by rw [hto]; simp)]
              have HJ2 := Lib.hid hj
              have hD2 : joinD n s ls = (dataL n ls R).take s := by unfold joinD; rw [← HRr.out]
              have HD2 := Lib.hid hD2
              have hDl := dataL_len n ls R
              obtain ⟨D, hD⟩ : ∃ D, D = dataL n ls R := ⟨_, rfl⟩
              rw [← hD] at hdv hDl HJ2 HD2
              clear hD hj hD2 hto
              have hsD : s ≤ D.length := by omega
              have hDb : D.length ≤ 28 := by omega
              clear hDl
              obtain ⟨a5, c5, rfl, hc5, ⟨_, hcm5, _⟩, hdz⟩ := hdv.isInts.opened
              obtain ⟨b5, o5, _, rfl, _⟩ := hdz 0 (by omega)
              clear hdz
              have d2 := (hS.below.cell (p := ⟨B, 2, none⟩) l0).trans c2
              have htk := hdv.isInts.take s hsD
              by_cases hsc : s < c5
              · have hfr := hdv.isInts.from s hsD
                go_wp2_with fail
                refine (ContainsInts_any _ (D.drop s) _ hfr).mono ?_
                rintro e w7 ⟨rfl, hb7⟩
                have S7 := hS.step hb7
                have d27 := (hb7.cell (p := ⟨B, 2, none⟩) (cell_lt d2)).trans d2
                have ht7 := htk.stays hb7
                obtain ⟨X, hX⟩ : ∃ X, X = hasNot (D.drop s) := ⟨_, rfl⟩
                rw [← hX] at HJ2 ⊢
                clear hX
                cases X with
                | true =>
                  go_wp2_with fail
                  go_ret2
                  have h9 : joinE n o s ls = 9 := by rw [HJ2.out]; rfl
                  rw [joinC_err (by rw [h9]; omega), h9]
                  exact ⟨⟨_, rfl, IsInts.nil _⟩, (S0.step S7.below).below⟩
                | false =>
                  go_wp2_with fail
                  go_ret2
                  have h0 : joinE n o s ls = 0 := by rw [HJ2.out]; rfl
                  rw [joinC_ok h0, h0, HD2.out]
                  exact ⟨⟨_, rfl, ht7⟩, (S0.step S7.below).below⟩
              · obtain rfl : s = c5 := by omega
                have hfr : IsInts wo (.slice (some ⟨b5, o5, none⟩) 0 0) [] := ⟨some ⟨b5, o5, none⟩, 0, rfl, Nat.le_refl _, ⟨by simp, by omega, fun e => by cases e⟩, fun i hi => by simp at hi⟩
                have hds : D.drop s = [] := List.drop_eq_nil_of_le (by omega)
                rw [hds] at HJ2
                have hD5 : D.length = s := by omega
                clear hds
                go_wp2_with fail
                refine (ContainsInts_any _ [] _ hfr).mono ?_
                rintro e w7 ⟨rfl, hb7⟩
                have S7 := hS.step hb7
                have d27 := (hb7.cell (p := ⟨B, 2, none⟩) (cell_lt d2)).trans d2
                have ht7 := htk.stays hb7
                have hnn : hasNot [] = false := rfl
                rw [hnn] at HJ2 ⊢
                clear hnn hfr
                go_wp2_with fail
                go_ret2
                have h0 : joinE n o s ls = 0 := by rw [HJ2.out]; rfl
                rw [joinC_ok h0, h0, HD2.out]
                exact ⟨⟨_, rfl, ht7⟩, (S0.step S7.below).below⟩

end Go.Proofs.YtjakdgchfimhkaaGreat

namespace Go.Proofs.YtjakdgchfimhkaaGreat
open Go.RowKit

/-- What a call of it does, from place i on. -/
def TryDo (W : World) (z : Tb) (n o s : Nat) (al : Option Addr) (cl : Nat) (ls : List Sh) (i : Nat) : Prop :=
  ∀ (x : Int), x = (i : Int) → ∀ (pk : List Sh) (vp : Value) (w : World) (st : Vs), pk.length ≤ n → pk.Sublist (ls.take i) → OwnRow 2 (RAt W RShare) z.E w 58 W.heap.size vp pk → Since W.heap.size W w → TryC z n o s al ls.length cl w → TryB z w st →
    Calls Tryz.prog 48 #[.int .i64 x, vp, .pointer (some ⟨z.p, 0, none⟩), .pointer (some ⟨z.l, 0, none⟩), .pointer (some ⟨z.w, 0, none⟩), .pointer (some ⟨z.b, 0, none⟩), .pointer (some ⟨z.t, 0, none⟩)] w fun e w' =>
      e = .returned (.tuple #[]) ∧ Since W.heap.size W w' ∧ Dirty z.E w w' ∧ TryB z w' (tryN n (castV n o s ls) pk (ls.drop i) st)

theorem box_cell {w : World} {g : Nat} {v : Value} {T : TypeId} (h : w.heap[g]? = some (.cells #[v] T (0, 0))) : w.cell? ⟨g, 0, none⟩ = some v := by simp [World.cell?, h]
theorem box_free {w : World} {g : Nat} {v : Value} {T : TypeId} (h : w.heap[g]? = some (.cells #[v] T (0, 0))) : w.frozen? ⟨g, 0, none⟩ = false := by simp [World.frozen?, h]

set_option maxRecDepth 100000 in
set_option maxHeartbeats 4000000 in
theorem try_vote (W : World) (z : Tb) (hz : z.ok W.heap.size) (n o s : Nat) (al : Option Addr) (cl : Nat) (ls : List Sh) (hL : IsShares W (.slice al ls.length cl) ls) (hR : Right n o s ls) (i : Nat)
    (pk : List Sh) (vp : Value) (w : World) (st : Vs) (hpn : pk.length = n) (hpk : pk.Sublist (ls.take i)) (hp : OwnRow 2 (RAt W RShare) z.E w 58 W.heap.size vp pk) (hS : Since W.heap.size W w) (hC : TryC z n o s al ls.length cl w) (hB : TryB z w st) :
    Calls Tryz.prog 48 #[.int .i64 (i : Int), vp, .pointer (some ⟨z.p, 0, none⟩), .pointer (some ⟨z.l, 0, none⟩), .pointer (some ⟨z.w, 0, none⟩), .pointer (some ⟨z.b, 0, none⟩), .pointer (some ⟨z.t, 0, none⟩)] w fun e w' =>
      e = .returned (.tuple #[]) ∧ Since W.heap.size W w' ∧ Dirty z.E w w' ∧ TryB z w' (castV n o s ls pk st) := by
  have hRp := hR.sub (hpk.trans (List.take_sublist _ _)) (by omega)
  have HRP := Lib.hid hRp
  have HR := Lib.hid hR
  have HZ := Lib.hid hz
  have hq : ((pk.length : Int) == (n : Int)) = true := by simp [hpn]
  have HPS := Lib.hid (isShares_of_row (hp.isRow.ofAt RShare.stays (Dirty.old hS.below _)))
  have HLS := Lib.hid (shares_stays hL hS.below)
  obtain ⟨a, c, rfl, _⟩ := hp.isRow.opened
  have HC := Lib.hid hC
  have HB := Lib.hid hB
  have hll := hR.many
  obtain ⟨c0, c1, c2, c3, _⟩ := hC
  obtain ⟨aw, cw, ab, nb, cb, g1, _⟩ := hB
  have g3 := box_cell g1
  have HCV := Lib.hid (show castV n o s ls pk st = if joinE n o s pk ≠ 0 then st else if st.2.length < (idxF (ofD n (rowsN n s) (joinC n o s pk)) 0 ls).length then (joinC n o s pk, idxF (ofD n (rowsN n s) (joinC n o s pk)) 0 ls) else st from rfl)
  clear hRp hR hz hpn hpk hp hL g1
  go_enter Tryz.func48, Tryz.ntmps48
  go_upto_region 2 with (go_at_call 47; refine (Join_ok n o s _ pk _ HPS.out HRP.out HRP.out.check).mono ?_; rintro e w1 ⟨⟨v1, rfl, hi1⟩, hb1⟩)
  have q1 := (Since.refl w).step hb1
  have d0 := below_cell q1.below c0
  have d1 := below_cell q1.below c1
  have d2 := below_cell q1.below c2
  have d3 := below_cell q1.below c3
  have e3 := below_cell q1.below g3
  have HI1 := Lib.hid hi1
  obtain ⟨a1, k1, rfl, _⟩ := hi1.opened
  clear c0 c1 c2 c3 g3 hb1 hi1
  by_cases hj : joinE n o s pk = 0
  · have HJ := Lib.hid (join_split HRP.out hj)
    have HJ0 := Lib.hid hj
    rw [hj]
    clear hj
    generalize hD : joinC n o s pk = D at *
    have HD := Lib.hid hD
    clear hD
    go_upto_region 4 with (go_at_call 49; refine (fit_any n o s _ _ D ls _ HI1.out (shares_stays HLS.out q1.below) HJ.out HR.out.num hll).mono ?_; rintro e w2 ⟨⟨v2, rfl, ho2⟩, hb2⟩)
    have q2 := q1.step hb2
    have f3 := below_cell hb2 e3
    have HI2 := Lib.hid (HI1.out.stays hb2)
    have HO2 := Lib.hid ho2.isInts
    obtain ⟨a2, k2, rfl, _⟩ := ho2.isInts.opened
    clear d0 d1 d2 d3 e3 hb2 ho2
    generalize hF : idxF (ofD n (rowsN n s) D) 0 ls = F at *
    have HF := Lib.hid hF
    clear hF
    have HB2 := Lib.hid (HB.out.stays q2.below)
    have HCZ : Hid (castV n o s ls pk st = if st.2.length < F.length then (D, F) else st) := Lib.hid (by rw [HCV.out, if_neg (by simpa using HJ0.out)])
    by_cases hlt : st.2.length < F.length
    · obtain ⟨aw', cw', ab', nb', cb', k1', k2', _⟩ := HB2.out
      have m1 := box_free k1'
      have m2 := box_free k2'
      have m3 := box_cell k1'
      have m4 := box_cell k2'
      have hne : F ≠ [] := by intro e; subst e; simp at hlt
      have HV := Lib.hid (HB2.out.vote HZ.out HI2.out HO2.out hne)
      have HCY : Hid (castV n o s ls pk st = (D, F)) := Lib.hid (by rw [HCZ.out, if_pos hlt])
      have hgt : (st.2.length : Int) < (F.length : Int) := by omega
      have S4 := ((hS.step q2.below).setCell (a := ⟨z.b, 0, none⟩) HZ.out.2.2.2.2.2.2.2.2 (.slice a1 D.length k1)).setCell (a := ⟨z.w, 0, none⟩) HZ.out.2.2.2.2.2.2.2.1 (.slice a2 F.length k2)
      have m5 : (w2.setCell ⟨z.b, 0, none⟩ (.slice a1 D.length k1)).frozen? ⟨z.w, 0, none⟩ = false := (free_set_other _ _ _ _ HZ.out.2.2.2.2.2.2.1).trans m1
      have m6 : (w2.setCell ⟨z.b, 0, none⟩ (.slice a1 D.length k1)).cell? ⟨z.w, 0, none⟩ = _ := (cell_set_other _ _ _ _ HZ.out.2.2.2.2.2.2.1).trans m3
      clear k1' k2' hne hlt
      go_wp2_with fail
      refine bodyPost_ret (results_none rfl _ _ _) rfl ?_
      exact ⟨rfl, S4, (Dirty.old q2.below _).trans HV.out.2, by rw [HCY.out]; exact HV.out.1⟩
    · have HCY : Hid (castV n o s ls pk st = st) := Lib.hid (by rw [HCZ.out, if_neg hlt])
      have hgt : ¬ (st.2.length : Int) < (F.length : Int) := by omega
      clear hlt
      go_wp2_with fail
      refine bodyPost_ret (results_none rfl _ _ _) rfl ?_
      exact ⟨rfl, hS.step q2.below, Dirty.old q2.below _, by rw [HCY.out]; exact HB2.out⟩
  · have hne : (joinE n o s pk != 0) = true := by simpa using hj
    have HCY : Hid (castV n o s ls pk st = st) := Lib.hid (by rw [HCV.out, if_pos hj])
    clear hj
    go_wp2_with fail
    refine bodyPost_ret (results_none rfl _ _ _) rfl ?_
    exact ⟨rfl, hS.step q1.below, Dirty.old q1.below _, by rw [HCY.out]; exact HB.out.stays q1.below⟩

set_option maxRecDepth 100000 in
set_option maxHeartbeats 4000000 in
theorem try_loop (W : World) (z : Tb) (hz : z.ok W.heap.size) (n o s : Nat) (al : Option Addr) (cl : Nat) (ls : List Sh) (hL : IsShares W (.slice al ls.length cl) ls) (hR : Right n o s ls) (i : Nat) (hi : i ≤ ls.length)
    (IH : ∀ j, i < j → j ≤ ls.length → TryDo W z n o s al cl ls j)
    (pk : List Sh) (vp : Value) (w : World) (st : Vs) (hpn : pk.length < n) (hpk : pk.Sublist (ls.take i)) (hp : OwnRow 2 (RAt W RShare) z.E w 58 W.heap.size vp pk) (hS : Since W.heap.size W w) (hC : TryC z n o s al ls.length cl w) (hB : TryB z w st) :
    Calls Tryz.prog 48 #[.int .i64 (i : Int), vp, .pointer (some ⟨z.p, 0, none⟩), .pointer (some ⟨z.l, 0, none⟩), .pointer (some ⟨z.w, 0, none⟩), .pointer (some ⟨z.b, 0, none⟩), .pointer (some ⟨z.t, 0, none⟩)] w fun e w' =>
      e = .returned (.tuple #[]) ∧ Since W.heap.size W w' ∧ Dirty z.E w w' ∧ TryB z w' (tryL n (castV n o s ls) pk (ls.drop i) st) := by
  have hq : ((pk.length : Int) == (n : Int)) = false := by simp; omega
  have HQN := Lib.hid hpn
  have HPK := Lib.hid hpk
  have HZ := Lib.hid hz
  have HL := Lib.hid hL
  have HC := Lib.hid hC
  have HIH := Lib.hid IH
  have HR := Lib.hid hR
  have hll := hR.many
  obtain ⟨a, c, rfl, _⟩ := hp.isRow.opened
  have HP := Lib.hid hp
  have hpl : pk.length ≤ 8 := by have := hpk.length_le; simp at this; omega
  obtain ⟨c0, c1, c2, c3, c4⟩ := hC
  clear hpn hpk hz hL hR IH hp c1 c2
  go_enter Tryz.func48, Tryz.ntmps48
  go_wp2_with fail
  go_loopw [12] (fun x wr => ∃ k : Nat, ∃ st', i ≤ k ∧ k ≤ ls.length ∧ x = .int .i64 k ∧ Since W.heap.size W wr ∧ Dirty z.E w wr ∧ TryB z wr st' ∧ tryL n (castV n o s ls) pk (ls.drop k) st' = tryL n (castV n o s ls) pk (ls.drop i) st) (fun x _ => ls.length - (intOf x).toNat)
  case atStart => exact ⟨i, st, Nat.le_refl _, hi, rfl, hS, Dirty.refl _ _, hB, rfl⟩
  case round =>
    obtain ⟨k, st', hik, hk, rfl, hS', hD', hB', hQ⟩ := hrel
    have HQ := Lib.hid hQ
    have hC' := HC.out.dirty HZ.out hD'
    have HC' := Lib.hid hC'
    have HB' := Lib.hid hB'
    obtain ⟨_, _, _, d3, d4⟩ := hC'
    unfold Tb.caps at d4
    clear hQ hB' c0 c3 c4
    by_cases hlt : k < ls.length
    · have hx : ls[k]? = some ls[k] := List.getElem?_eq_getElem hlt
      obtain ⟨b, off, u, cu, rfl, k0, k1, hiv, hi1⟩ := shares_at HL.out hx
      have HDR := Lib.hid (drop_get hx)
      have HTK := Lib.hid (take_get hx)
      generalize ls[k] = t at *
      have e0 := below_cell hS'.below k0
      have e1 := below_cell hS'.below k1
      have HRT : Hid (RShare W [.int .i64 t.1, .slice u t.2.length cu] t) := Lib.hid ⟨_, rfl, hiv, hi1⟩
      have hp' := HP.out.later hD' (hB.off HP.out)
      have HO := Lib.hid (hp'.isRow.drew RAt.stays)
      have hbl := cell_lt k0
      have hbE : ¬ z.E b := fun h => by
        have h8 := HZ.out.2.2.2.2.2.2.2
        simp only at hbl
        rcases h with h | h <;> omega
      have HS : Hid (∀ w', Dirty z.E wr w' → w'.cell? ⟨z.t, 0, none⟩ = some (.func (.func 48) #[] #[.pointer (some ⟨z.p, 0, none⟩), .pointer (some ⟨z.l, 0, none⟩), .pointer (some ⟨z.w, 0, none⟩), .pointer (some ⟨z.b, 0, none⟩), .pointer (some ⟨z.t, 0, none⟩)]) ∧ w'.cell? ⟨z.l, 0, none⟩ = some (.slice (some ⟨b, off, none⟩) ls.length cl) ∧ w'.cell? ⟨b, off + k * 2, none⟩ = some (.int .i64 t.1) ∧ w'.cell? ⟨b, off + k * 2 + 1, none⟩ = some (.slice u t.2.length cu)) := Lib.hid (fun w' q => by
        obtain ⟨_, _, _, f3, f4⟩ := HC'.out.dirty HZ.out q
        unfold Tb.caps at f4
        exact ⟨f4, f3, q.cell e0 hbE, q.cell e1 hbE⟩)
      have r0 := (Since.refl wr).drew
      have s3 := HS.out wr.drew (Dirty.old r0.below _)
      have s4 := HS.out _ (Dirty.old (r0.alloc (.cells #[.int .i64 t.1, .slice u t.2.length cu] 58)).below _)
      have hWr := hS'.2
      have HWR : Hid (IntKind.i64.wrap ((k : Int) + 1) = ((k + 1 : Nat) : Int)) := Lib.hid (by rw [IntWalk.i64_in _ (by omega)]; omega)
      clear hx k0 k1 e0 e1 d4 hiv hp'
      go_upto_region 9 with fail
      clear d3
      go_region_held3 (fun w' => w'.cell? ⟨z.t, 0, none⟩ = some (.func (.func 48) #[] #[.pointer (some ⟨z.p, 0, none⟩), .pointer (some ⟨z.l, 0, none⟩), .pointer (some ⟨z.w, 0, none⟩), .pointer (some ⟨z.b, 0, none⟩), .pointer (some ⟨z.t, 0, none⟩)]) ∧ w'.cell? ⟨z.l, 0, none⟩ = some (.slice (some ⟨b, off, none⟩) ls.length cl) ∧ w'.cell? ⟨b, off + k * 2, none⟩ = some (.int .i64 t.1) ∧ w'.cell? ⟨b, off + k * 2 + 1, none⟩ = some (.slice u t.2.length cu)) (first | exact s3 | exact s4 | exact s5 | exact s7 | exact s6 | exact s8) (first
        | (go_simp; go_at_call 50; go_fit (CloneSharesR_any RAt.stays (RAt.one RShare.one) _ pk wr.drew wr.drew (Dirty.refl _ _) HO.out (by omega)); rintro e w5 ⟨⟨v5, rfl, ho5⟩, hb5⟩; have p5 := r0.step hb5; have s5 := HS.out w5 (Dirty.old p5.below _); have s7 := HS.out _ (Dirty.old (p5.alloc (.cells #[.int .i64 t.1, .slice u t.2.length cu] 58)).below _); have ho55 : OwnRow 2 (RAt W RShare) z.E w5 58 wr.heap.size v5 pk := (ho5.mono (by simp)).anyE; have fO := fresh_cellsT w5 [.int .i64 t.1, .slice u t.2.length cu] 58 _ rfl)
        | (go_simp; go_at_call 50; go_fit (CloneSharesR_any RAt.stays (RAt.one RShare.one) _ pk wr.drew (wr.drew.alloc (.cells #[.int .i64 t.1, .slice u t.2.length cu] 58)) (Dirty.old (below_alloc _ _) _) HO.out (by omega)); rintro e w5 ⟨⟨v5, rfl, ho5⟩, hb5⟩; have p5 := (r0.alloc (.cells #[.int .i64 t.1, .slice u t.2.length cu] 58)).step hb5; have s5 := HS.out w5 (Dirty.old p5.below _); have ho55 : OwnRow 2 (RAt W RShare) z.E w5 58 wr.heap.size v5 pk := (ho5.mono (by simp)).anyE; have fO : ∀ j u', ([.int .i64 t.1, .slice u t.2.length cu] : List Value)[j]? = some u' → w5.cell? ((⟨wr.heap.size, 0, none⟩ : Addr).add j) = some u' := (fun j u' h => below_cell hb5 (fresh_cellsT wr.drew [.int .i64 t.1, .slice u t.2.length cu] 58 _ rfl j u' h)))
        | (refine step_append_row rfl _ _ 50 rfl 2 z.E 58 Tryz.underlying50 _ 32 info_shareD rfl (by omega) (by omega) wr.heap.size v5 pk rfl (by first | exact ho55 | exact ho55.stays (below_alloc _ _)) _ _ [.int .i64 t.1, .slice u t.2.length cu] t rfl rfl (by intro x hx; simp at hx; rcases hx with rfl | rfl <;> rfl) fO (fun _ _ => HRT.out) (by omega) (by have := p5.2; first | omega | (simp; omega)) ?_; intro v6 w6 ho6 hg6 hat6; have p6 : Since wr.heap.size wr w6 := (by first | exact p5.row ho55 hg6 | exact (p5.alloc _).row (ho55.stays (below_alloc _ _)) hg6); have s6 := HS.out w6 (Dirty.old p6.below _))
        | (go_at_call 48; go_fit (HIH.out (k + 1) (by omega) (by omega) (IntKind.i64.wrap ((k : Int) + 1)) HWR.out (pk ++ [t]) _ w6 st' (by simp; have := HQN.out; omega) (by rw [HTK.out]; exact (HPK.out.trans (List.take_sublist_take_left hik)).append (List.Sublist.refl _)) (ho6.mono hWr) (hS'.step p6.below) (HC'.out.stays p6.below) (HB'.out.stays p6.below)); rintro e w7 ⟨rfl, hS7, hD7, hB7⟩; have s8 := HS.out w7 ((Dirty.old p6.below _).trans hD7)))
      all_goals
        have hD8 := hD'.trans ((Dirty.old p6.below _).trans hD7)
        have HB7 := Lib.hid hB7
        clear s3 s4 s5 s6 s8 fO ho55 ho5 ho6 hB7
        go_wp2_with fail
        go_roundw
        case rel => exact ⟨k + 1, _, by omega, by omega, by go_num, hS7, hD8, HB7.out, by rw [← HQ.out, HDR.out, tryL_cons]⟩
        case measure => simp [intOf]; omega
    · obtain rfl : ls.length = k := by omega
      have HE := Lib.hid (show tryL n (castV n o s ls) pk (ls.drop i) st = st' by rw [← HQ.out, List.drop_length]; rfl)
      go_wp2_with fail
      go_end0
      exact ⟨rfl, hS', hD', by rw [HE.out]; exact HB'.out⟩
end Go.Proofs.YtjakdgchfimhkaaGreat

namespace Go.Proofs.YtjakdgchfimhkaaGreat
open Go.RowKit

set_option maxRecDepth 100000 in
set_option maxHeartbeats 4000000 in
theorem Join_plan (n o s : Int) (v : Value) (ls : List Sh) (W : World) (hd : IsShares W v ls) (hp : planV n o s ≠ 0) :
    Calls Tryz.prog 47 #[.agg #[.int .i64 n, .int .i64 o, .int .i64 s], v] W fun e w' => e = .returned (.tuple #[.slice none 0 0, .int .i64 (planV n o s)]) ∧ Below W.heap.size W w' := by
  obtain ⟨a, c, rfl, _⟩ := hd.opened
  have S0 := (Since.refl W).alloc (.cells #[.int .i64 n, .int .i64 o, .int .i64 s] 30)
  have c0 : (W.alloc (.cells #[.int .i64 n, .int .i64 o, .int .i64 s] 30)).cell? ⟨W.heap.size, 0, none⟩ = some (.int .i64 n) := by go_simp
  have c1 : (W.alloc (.cells #[.int .i64 n, .int .i64 o, .int .i64 s] 30)).cell? ⟨W.heap.size, 1, none⟩ = some (.int .i64 o) := by go_simp
  have c2 : (W.alloc (.cells #[.int .i64 n, .int .i64 o, .int .i64 s] 30)).cell? ⟨W.heap.size, 2, none⟩ = some (.int .i64 s) := by go_simp
  obtain ⟨w0, hw0⟩ : ∃ w0, w0 = W.alloc (.cells #[.int .i64 n, .int .i64 o, .int .i64 s] 30) := ⟨_, rfl⟩
  rw [← hw0] at S0 c0 c1 c2
  have HW := Lib.hid hw0
  clear hw0
  obtain ⟨B, hB⟩ : ∃ B, B = W.heap.size := ⟨_, rfl⟩
  rw [← hB] at c0 c1 c2
  have HB := Lib.hid hB
  clear hB
  have l0 := cell_lt c0
  have hne : (planV n o s != 0) = true := by simpa using hp
  clear hd
  go_enter Tryz.func47, Tryz.ntmps47
  go_wp2_with fail
  rw [← HW.out, ← HB.out]
  refine (planCheck_any _ _ _ _).mono ?_
  rintro e w1 ⟨rfl, hb1⟩
  have S1 := S0.step hb1
  clear c0 c1 c2
  go_wp2_with fail
  go_ret2
  exact ⟨rfl, S1.below⟩

set_option maxRecDepth 100000 in
set_option maxHeartbeats 4000000 in
theorem Join_many (n o s : Int) (v : Value) (ls : List Sh) (W : World) (hd : IsShares W v ls) (hp : planV n o s = 0) (hl : 8 < (ls.length : Int)) :
    Calls Tryz.prog 47 #[.agg #[.int .i64 n, .int .i64 o, .int .i64 s], v] W fun e w' => e = .returned (.tuple #[.slice none 0 0, .int .i64 1]) ∧ Below W.heap.size W w' := by
  obtain ⟨a, c, rfl, hcap, ⟨hm, hcm, hnone⟩, _⟩ := hd.opened
  have S0 := (Since.refl W).alloc (.cells #[.int .i64 n, .int .i64 o, .int .i64 s] 30)
  have c0 : (W.alloc (.cells #[.int .i64 n, .int .i64 o, .int .i64 s] 30)).cell? ⟨W.heap.size, 0, none⟩ = some (.int .i64 n) := by go_simp
  have c1 : (W.alloc (.cells #[.int .i64 n, .int .i64 o, .int .i64 s] 30)).cell? ⟨W.heap.size, 1, none⟩ = some (.int .i64 o) := by go_simp
  have c2 : (W.alloc (.cells #[.int .i64 n, .int .i64 o, .int .i64 s] 30)).cell? ⟨W.heap.size, 2, none⟩ = some (.int .i64 s) := by go_simp
  obtain ⟨w0, hw0⟩ : ∃ w0, w0 = W.alloc (.cells #[.int .i64 n, .int .i64 o, .int .i64 s] 30) := ⟨_, rfl⟩
  rw [← hw0] at S0 c0 c1 c2
  have HW := Lib.hid hw0
  clear hw0
  obtain ⟨B, hB⟩ : ∃ B, B = W.heap.size := ⟨_, rfl⟩
  rw [← hB] at c0 c1 c2
  have HB := Lib.hid hB
  clear hB
  have l0 := cell_lt c0
  have HP := Lib.hid hp
  clear hp hd
  go_enter Tryz.func47, Tryz.ntmps47
  go_wp2_with fail
  rw [← HW.out, ← HB.out]
  refine (planCheck_any _ _ _ _).mono ?_
  rintro e w1 ⟨rfl, hb1⟩
  rw [HP.out]
  have S1 := S0.step hb1
  clear c0 c1 c2
  go_wp2_with fail
  go_ret2
  exact ⟨rfl, S1.below⟩

set_option maxRecDepth 100000 in
set_option maxHeartbeats 4000000 in
theorem Join_short (n o s : Int) (v : Value) (ls : List Sh) (W : World) (hd : IsShares W v ls) (hp : planV n o s = 0) (hl : ls.length ≤ 8) (hE : checkL n o s [] ls = 0) (hsh : (ls.length : Int) < n) :
    Calls Tryz.prog 47 #[.agg #[.int .i64 n, .int .i64 o, .int .i64 s], v] W fun e w' => e = .returned (.tuple #[.slice none 0 0, .int .i64 7]) ∧ Below W.heap.size W w' := by
  obtain ⟨a, c, rfl, hcap, ⟨hm, hcm, hnone⟩, _⟩ := hd.opened
  have S0 := (Since.refl W).alloc (.cells #[.int .i64 n, .int .i64 o, .int .i64 s] 30)
  have hd0 := hd.stays (below_alloc _ (.cells #[.int .i64 n, .int .i64 o, .int .i64 s] 30))
  have c0 : (W.alloc (.cells #[.int .i64 n, .int .i64 o, .int .i64 s] 30)).cell? ⟨W.heap.size, 0, none⟩ = some (.int .i64 n) := by go_simp
  have c1 : (W.alloc (.cells #[.int .i64 n, .int .i64 o, .int .i64 s] 30)).cell? ⟨W.heap.size, 1, none⟩ = some (.int .i64 o) := by go_simp
  have c2 : (W.alloc (.cells #[.int .i64 n, .int .i64 o, .int .i64 s] 30)).cell? ⟨W.heap.size, 2, none⟩ = some (.int .i64 s) := by go_simp
  obtain ⟨w0, hw0⟩ : ∃ w0, w0 = W.alloc (.cells #[.int .i64 n, .int .i64 o, .int .i64 s] 30) := ⟨_, rfl⟩
  rw [← hw0] at S0 hd0 c0 c1 c2
  have HW := Lib.hid hw0
  clear hw0
  obtain ⟨B, hB⟩ : ∃ B, B = W.heap.size := ⟨_, rfl⟩
  rw [← hB] at c0 c1 c2
  have HB := Lib.hid hB
  clear hB
  have l0 := cell_lt c0
  have HP := Lib.hid hp
  have HE := Lib.hid hE
  clear hp hE hd
  go_enter Tryz.func47, Tryz.ntmps47
  go_wp2_with fail
  rw [← HW.out, ← HB.out]
  refine (planCheck_any _ _ _ _).mono ?_
  rintro e w1 ⟨rfl, hb1⟩
  rw [HP.out]
  have T1 := (Since.refl w0).step hb1
  clear hb1
  go_wp2_with fail
  go_loopw [35] (fun i wr => ∃ k : Nat, k ≤ ls.length ∧ i = .int .i64 k ∧ Since w0.heap.size w0 wr ∧ checkL n o s (ls.take k) (ls.drop k) = 0) (fun i _ => ls.length - (intOf i).toNat)
  case atStart => exact ⟨0, by omega, rfl, T1, by simpa using HE.out⟩
  case round =>
    obtain ⟨k, hk, rfl, hS, hq⟩ := hrel
    have hdr := hd0.stays hS.below
    clear T1
    by_cases hlt : k < ls.length
    · obtain ⟨a', c', ee, _, _, hi⟩ := hdr.opened
      simp only [Value.slice.injEq] at ee
      obtain ⟨rfl, _, rfl⟩ := ee
      obtain ⟨b1, o1, v1, s1, rfl, h1, h2, h3, h4, h5⟩ := hi k hlt
      rw [drop_get h4] at hq
      have hone : oneV n o s s1.1 s1.2 = 0 := by
        unfold checkL at hq
        split at hq
        · rename_i g; exact absurd hq g
        · rename_i g; simpa using g
      have hhas : hasN (ls.take k) s1.1 = false := by
        unfold checkL at hq
        rw [if_neg (by simpa using hone)] at hq
        split at hq
        · simp at hq
        · rename_i g; simpa using g
      have hnx : checkL n o s (ls.take (k + 1)) (ls.drop (k + 1)) = 0 := by
        unfold checkL at hq
        rw [if_neg (by simpa using hone), if_neg (by simpa using hhas)] at hq
        rw [List.take_add_one, h4]
        exact hq
      have HNX := Lib.hid hnx
      have HO := Lib.hid hone
      have HH := Lib.hid hhas
      clear h4 hi hq hnx hone hhas
      obtain ⟨a1, k1, rfl, _⟩ := h3.opened
      have S2 := hS.alloc (.cells #[.int .i64 s1.1, .slice a1 s1.2.length k1] 58)
      have hdr2 := hdr.stays (below_alloc wr (.cells #[.int .i64 s1.1, .slice a1 s1.2.length k1] 58))
      have h32 := h3.stays (below_alloc wr (.cells #[.int .i64 s1.1, .slice a1 s1.2.length k1] 58))
      have e0 := (S2.below.cell (p := ⟨B, 0, none⟩) l0).trans c0
      have e1 := (S2.below.cell (p := ⟨B, 1, none⟩) l0).trans c1
      have e2 := (S2.below.cell (p := ⟨B, 2, none⟩) l0).trans c2
      have e3 : (wr.alloc (.cells #[.int .i64 s1.1, .slice a1 s1.2.length k1] 58)).cell? ⟨wr.heap.size, 0, none⟩ = some (.int .i64 s1.1) := by go_simp
      have e4 : (wr.alloc (.cells #[.int .i64 s1.1, .slice a1 s1.2.length k1] 58)).cell? ⟨wr.heap.size, 1, none⟩ = some (.slice a1 s1.2.length k1) := by go_simp
      have l3 := cell_lt e3
      have hdk := hdr2.take k hk c (by omega) hcm hnone
      have hkc : k ≤ c := by omega
      go_wp2_with fail
      refine (One_any _ _ _ _ _ _ _ h32).mono ?_
      rintro e w3 ⟨rfl, hb3⟩
      rw [HO.out]
      have S3 := S2.step hb3
      have hdk3 := hdk.stays hb3
      have e33 := (hb3.cell (p := ⟨wr.heap.size, 0, none⟩) l3).trans e3
      clear e0 e1 e2 e3 e4 h1 h2 hdr hdr2 hdk hb3
      go_wp2_with fail
      refine (ContainsShares_any _ _ _ _ _ hdk3 e33).mono ?_
      rintro e w4 ⟨rfl, hb4⟩
      rw [HH.out]
      have S4 := S3.step hb4
      go_wp2_with fail
      go_roundw
      case rel => exact ⟨k + 1, by omega, by go_num, S4, HNX.out⟩
      case measure => simp [intOf]; omega
    · obtain rfl : k = ls.length := by omega
      clear hq hlt hk
      have d0 := (hS.below.cell (p := ⟨B, 0, none⟩) l0).trans c0
      go_wp2_with fail
      go_ret2
      exact ⟨rfl, (S0.step hS.below).below⟩

/-- What Join answers. -/
theorem Join_any (n o s : Int) (v : Value) (ls : List Sh) (W : World) (hd : IsShares W v ls) (hx : checksL n o s ls ≠ 0) :
    Calls Tryz.prog 47 #[.agg #[.int .i64 n, .int .i64 o, .int .i64 s], v] W fun e w' => e = .returned (.tuple #[.slice none 0 0, .int .i64 (checksL n o s ls)]) ∧ Below W.heap.size W w' := by
  by_cases h1 : planV n o s = 0
  · by_cases h2 : 8 < (ls.length : Int)
    · have e : checksL n o s ls = 1 := by unfold checksL; rw [if_neg (by simpa using h1), if_pos h2]
      rw [e]
      exact Join_many n o s v ls W hd h1 h2
    · by_cases h3 : checkL n o s [] ls = 0
      · by_cases h4 : (ls.length : Int) < n
        · have e : checksL n o s ls = 7 := by unfold checksL; rw [if_neg (by simpa using h1), if_neg h2, if_neg (by simpa using h3), if_pos h4]
          rw [e]
          exact Join_short n o s v ls W hd h1 (by omega) h3 h4
        · exfalso
          apply hx
          unfold checksL
          rw [if_neg (by simpa using h1), if_neg h2, if_neg (by simpa using h3), if_neg h4]
      · have e : checksL n o s ls = checkL n o s [] ls := by unfold checksL; rw [if_neg (by simpa using h1), if_neg h2, if_pos h3]
        rw [e]
        exact Join_no n o s v ls W hd h1 (by omega) h3
  · have e : checksL n o s ls = planV n o s := by unfold checksL; rw [if_pos h1]
    rw [e]
    exact Join_plan n o s v ls W hd h1

end Go.Proofs.YtjakdgchfimhkaaGreat
