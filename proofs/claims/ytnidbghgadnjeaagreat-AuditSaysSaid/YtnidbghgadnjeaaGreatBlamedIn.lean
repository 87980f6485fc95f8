/-
  The reference's BlamedIn, walked.
-/
import Derived.Test.YtnidbghgadnjeaaGreatExtra
import Derived.Test.YtnidbghgadnjeaaGreatThere3
import Derived.Test.YtnidbghgadnjeaaGreatBlamed
import Derived.Deep.RegionHeld3
namespace Go.Proofs.YtnidbghgadnjeaaGreat
open Go.RowKit

theorem most_dataR {n o s : Nat} {ls : List Sh} (hR : Right n o s ls) (hE : mostE n o s ls = 0) : splitE n o s (mostB n o s ls) = 0 := by
  obtain ⟨c, hc, hj, h1, h2⟩ := most_some hR hE
  rw [h1]
  exact join_split (comb_right hR hc).1 hj
theorem rest_plan {b : List Ver} {ps : List Pr} {v : Int} (h : restE (b, ps) v = 0) : ∃ (k n o s : Nat) (pr : List Int), v = (k : Int) ∧ b[k]? = some (pr, (n : Int), (o : Int), (s : Int)) ∧ splitE n o s (restB (b, ps) v) = 0 ∧ planV n o s = 0 := by
  have hr := restE_ready h
  obtain ⟨hm, h0, h1⟩ := readyE_ok hr
  obtain ⟨k, rfl⟩ := Int.eq_ofNat_of_zero_le h0
  have hk : k < b.length := by simpa using h1
  have hg : b[k]? = some b[k] := List.getElem?_eq_getElem hk
  have hpl : planAt b (k : Int) = b[k].2 := by unfold planAt; simp [hg]
  have hE : mostE b[k].2.1 b[k].2.2.1 b[k].2.2.2 (sharesM (k : Int) ps) = 0 := by
    have : restE (b, ps) (k : Int) = mostE b[k].2.1 b[k].2.2.1 b[k].2.2.2 (sharesM (k : Int) ps) := by unfold restE; rw [if_neg (by simpa using hr)]; rw [show planAt (b, ps).1 (k : Int) = b[k].2 from hpl]
    rw [← this]; exact h
  have hB : restB (b, ps) (k : Int) = mostB b[k].2.1 b[k].2.2.1 b[k].2.2.2 (sharesM (k : Int) ps) := by unfold restB; rw [if_neg (by simpa using hr)]; rw [show planAt (b, ps).1 (k : Int) = b[k].2 from hpl]
  have hp := (bookV_ok.1 (placeV_ok.1 hm).1).plan k _ hg
  obtain ⟨n, o, s, e1, e2, e3⟩ := plan_nat hp
  have hc : checksL n o s (sharesM (k : Int) ps) = 0 := by
    rw [e1, e2, e3] at hE
    by_cases hc : checksL n o s (sharesM (k : Int) ps) = 0
    · exact hc
    · rw [mostE_chk hc] at hE; exact absurd hE hc
  rw [e1, e2, e3] at hE hB hp
  refine ⟨k, n, o, s, b[k].1, rfl, ?_, ?_, hp⟩
  · rw [hg, ← e1, ← e2, ← e3]
  · rw [hB]
    exact most_dataR (right_iff.1 hc) hE
/-- One that a peer keeps is blamed. -/
def badK (M : Kp → Bool) (t : Bool) (v k : Int) (acc : List Int) (x : Kp) : List Int := if t = true ∧ x.1 = v ∧ M x = false then acc ++ [k] else acc
theorem bad_none {M : Kp → Bool} {t : Bool} {v k : Int} : ∀ {ks : List Kp} {l : List Int}, (t = true → ∀ x ∈ ks, x.1 ≠ v) → ks.foldl (badK M t v k) l = l
  | [], _, _ => rfl
  | x :: ks, l, h => by
    have e : badK M t v k l x = l := by
      unfold badK
      rw [if_neg (fun hh => h hh.1 x (by simp) hh.2.1)]
    rw [List.foldl_cons, e]
    exact bad_none (fun ht y hy => h ht y (by simp [hy]))
set_option linter.unusedSimpArgs false in
theorem bad_peer {all : List Sh} {t : Bool} {v r k : Int} : ∀ {ks : List Kp} {l : List Int}, ks.Pairwise (fun x y => x.1 < y.1) → ks.foldl (badK (fun x => sameS all x.2) t v k) l = l ++ (if blameB v all (t, r, ks) then [k] else [])
  | [], l, _ => by cases t <;> simp [blameB, keptAt]
  | x :: ks, l, h => by
    obtain ⟨h1, h2⟩ := List.pairwise_cons.1 h
    cases t with
    | false =>
      rw [bad_none (fun h => by cases h)]
      simp [blameB]
    | true =>
      by_cases hx : x.1 = v
      · rw [List.foldl_cons, bad_none (fun _ y hy => by have := h1 y hy; omega)]
        have e : keptAt v (x :: ks) = some x := by simp [keptAt, hx]
        unfold badK blameB
        simp only [e]
        cases hM : sameS all x.2 <;> simp [hx, hM]
      · have e1 : badK (fun x => sameS all x.2) true v k l x = l := by
          unfold badK
          rw [if_neg (fun hh => hx hh.2.1)]
        rw [List.foldl_cons, e1, bad_peer (r := r) h2]
        have e : keptAt v (x :: ks) = keptAt v ks := by simp [keptAt, hx]
        unfold blameB
        simp only [e]
theorem bad_len (M : Kp → Bool) (t : Bool) (v k : Int) : ∀ (ks : List Kp) (l : List Int), (ks.foldl (badK M t v k) l).length ≤ l.length + ks.length
  | [], l => by simp
  | x :: ks, l => by
    rw [List.foldl_cons]
    refine Nat.le_trans (bad_len M t v k ks _) ?_
    have : (badK M t v k l x).length ≤ l.length + 1 := by unfold badK; split <;> simp
    simp only [List.length_cons]
    omega
theorem bad_yes {M : Kp → Bool} {v k : Int} {l : List Int} {x : Kp} (hx : x.1 = v) (hM : M x = false) : badK M true v k l x = l ++ [k] := by
  unfold badK
  rw [if_pos ⟨rfl, hx, hM⟩]
theorem bad_no {M : Kp → Bool} {t : Bool} {v k : Int} {l : List Int} {x : Kp} (h : ¬ (t = true ∧ x.1 = v ∧ M x = false)) : badK M t v k l x = l := by
  unfold badK
  rw [if_neg h]
theorem same_of {n o s m : Nat} {data : List Int} (h : splitE n o s data = 0) (hm : m < o) (l : List Int) : sameS (splitL n o s data) ((m : Int), l) = sameV (m : Int) (m : Int) l (shareL n data (rowsN n s) m).2 := by
  rw [splitL_ok h]
  unfold sameS
  simp [sharesL, hm, shareL]

theorem append_int_at {P : Program} {w : World} {ops : Array Oper} {rest : List Oper} {o : Oper} {a : Act} {Q : Exit → Act → World → Prop} (hgd : o.guard = none) (s x : Operand) (t : TypeId)
    (ho : o.op = .call { callee := .builtin .append, args := #[s, x], argTypes := #[t, t] }) (e : TypeId) (ht : P.underlying t = some (.slice e))
    (hinfo : (P.info? e).map (fun i => (i.zero, i.size, i.bytes)) = some (some (.int .i64 0), 1, 8)) (base : Nat) (v : Value) (l : List Int) (hs : a.eval s = v) (hown : OwnInts w e base v l)
    (ad : Addr) (c : Nat) (z : Int) (hx : a.eval x = .slice (some ad) 1 c) (hz : w.cell? ad = some (.int .i64 z)) (hi : I64 z) (hl : l.length < 1000000) (hbase : base ≤ w.heap.size)
    (h : ∀ v' w', OwnInts w' e base v' (l ++ [z]) → w.grownBy w' v.ownBlock → (v'.ownBlock = v.ownBlock ∨ v'.ownBlock = some w.heap.size) → wpList P ops Q rest (a.put o.dst v') w') : wpList P ops Q (o :: rest) a w := by
  obtain ⟨i, hi0, hz0, hs0, hb0⟩ := info_parts hinfo
  refine wpList_append_own_at w hgd s x t ho base e i (.int .i64 0) 1 8 ht hi0 hz0 hs0 hb0 rfl (by decide) v l.length (l.map (Value.int .i64)) hs (by simpa using hown.1) ad 1 c [.int .i64 z] hx rfl ?_ ?_ (by unfold maxLen; omega) (by omega) hbase ?_
  · intro j u hj
    match j, hj with
    | 0, hj => simp at hj; subst hj; simpa [Addr.add] using hz
  · intro u hu; simp at hu; subst hu; rfl
  · intro v' w' h1 h2 _ h4
    refine h v' w' ⟨by simpa using h1, ?_, by simp; omega⟩ h2 h4
    intro y hy
    simp at hy
    rcases hy with hy | rfl
    · exact hown.2.1 y hy
    · exact hi

set_option linter.unusedSimpArgs false in
set_option maxRecDepth 100000 in
set_option maxHeartbeats 8000000 in
theorem BlamedIn_any (vb u : Value) (b : List Ver) (ps : List Pr) (v : Int) (W : World) (hb : IsVers W vb b) (hu : IsPeers W u ps) :
    Calls Tryz.prog 27 #[.agg #[vb, u], .int .i64 v] W fun e w' => (∃ v', e = .returned (.tuple #[v', .int .i64 (blamedE (b, ps) v)]) ∧ IsInts w' v' (blamedC (b, ps) v)) ∧ Below W.heap.size W w' := by
  obtain ⟨a, c, rfl, hcb, ⟨hbm, hbc, _⟩, _⟩ := hb.opened
  obtain ⟨a', c', rfl, hcu, ⟨hum, huc, _⟩, _⟩ := hu.opened
  have S0 := (Since.refl W).alloc (.cells #[.slice a b.length c, .slice a' ps.length c'] 35)
  have hb0 := hb.stays RVer.stays S0.below
  have hu0 := hu.stays RPeer.stays S0.below
  have c0 : (W.alloc (.cells #[.slice a b.length c, .slice a' ps.length c'] 35)).cell? ⟨W.heap.size, 0, none⟩ = some (.slice a b.length c) := by go_simp
  have c1 : (W.alloc (.cells #[.slice a b.length c, .slice a' ps.length c'] 35)).cell? ⟨W.heap.size, 1, none⟩ = some (.slice a' ps.length c') := by go_simp
  clear hb hu
  go_enter Tryz.func27, Tryz.ntmps27
  go_upto_region 1 with fail
  generalize W.alloc (.cells #[.slice a b.length c, .slice a' ps.length c'] 35) = w0 at *
  obtain ⟨B, hB⟩ : ∃ B, B = W.heap.size := ⟨_, rfl⟩
  rw [← hB] at c0 c1 ⊢
  clear hB
  go_upto_region 2 with (go_at_call 33; go_fit (Restored_any _ _ b ps v _ hb0 hu0); rintro e w1 ⟨⟨y1, y2, rfl, hi1, hi2⟩, hb1⟩)
  have S1 := S0.step hb1
  have d0 := below_cell hb1 c0
  have d1 := below_cell hb1 c1
  have HB1 := Lib.hid (hb0.stays RVer.stays hb1)
  have HU1 := Lib.hid (hu0.stays RPeer.stays hb1)
  clear c0 c1 hb1 hb0 hu0 hi2
  by_cases h0 : restE (b, ps) v = 0
  · obtain ⟨kv, n, o, s, pr, rfl, hget, hsp, hpl⟩ := rest_plan h0
    obtain ⟨hm0, _, hkv'⟩ := readyE_ok (restE_ready h0)
    have hkv : kv < b.length := by simpa using hkv'
    have hp8 : ps.length ≤ 8 := (placeV_ok.1 hm0).2.1
    have HPK : Hid (∀ p ∈ ps, PeerOk b p) := Lib.hid (placeV_ok.1 hm0).2.2
    have hpa : planAt b (kv : Int) = ((n : Int), (o : Int), (s : Int)) := planAt_get hget
    have HE : Hid (blamedE (b, ps) (kv : Int) = 0) := Lib.hid (by unfold blamedE; rw [if_neg (by simpa using h0)]; rw [show planAt (b, ps).1 (kv : Int) = _ from hpa]; exact hsp)
    have HC : Hid (blamedC (b, ps) (kv : Int) = blameF (kv : Int) (splitL n o s (restB (b, ps) (kv : Int))) ps ps.length) := Lib.hid (by unfold blamedC; rw [if_pos HE.out]; rw [show planAt (b, ps).1 (kv : Int) = _ from hpa])
    rw [h0]
    obtain ⟨gv, ov, uv, cv, ea, _, k1, k2, k3, _, _, _, _⟩ := vers_at HB1.out hget
    subst ea
    simp only at k1 k2 k3
    obtain ⟨ad, cd, rfl, _⟩ := hi1.opened
    have HPA := Lib.hid hpa
    generalize restB (b, ps) (kv : Int) = data at *
    obtain ⟨q1, q2, q3, q4, q5, q6⟩ := planV_bd hpl
    obtain ⟨_, _, hnum⟩ := splitE_zero hsp
    have HNUM := Lib.hid hnum
    have HSP := Lib.hid hsp
    have HPL := Lib.hid hpl
    have hkI : (kv : Int) < (b.length : Int) := by omega
    have hkI0 : (0 : Int) ≤ (kv : Int) := by omega
    have HS : Hid (∀ w', Since w1.heap.size w1 w' → w'.cell? ⟨B, 0, none⟩ = some (.slice (some ⟨gv, ov, none⟩) b.length c) ∧ w'.cell? ⟨B, 1, none⟩ = some (.slice a' ps.length c') ∧ w'.cell? ⟨gv, ov + kv * 4 + 1, none⟩ = some (.int .i64 n) ∧ w'.cell? ⟨gv, ov + kv * 4 + 2, none⟩ = some (.int .i64 o) ∧ w'.cell? ⟨gv, ov + kv * 4 + 3, none⟩ = some (.int .i64 s)) := Lib.hid (fun w' q => ⟨below_cell q.below d0, below_cell q.below d1, below_cell q.below k1, below_cell q.below k2, below_cell q.below k3⟩)
    have HDT : Hid (∀ w', Since w1.heap.size w1 w' → IsInts w' (.slice ad data.length cd) data) := Lib.hid (fun w' q => hi1.stays q.below)
    have HU : Hid (∀ w', Since w1.heap.size w1 w' → IsPeers w' (.slice a' ps.length c') ps) := Lib.hid (fun w' q => HU1.out.stays RPeer.stays q.below)
    clear h0 hget hsp hpl hm0 hkv' hpa hnum hi1 d0 k1 k2 k3
    go_wp2_with fail
    clear d1
    go_loopw [27, 9] (fun i y wr => ∃ k : Nat, k ≤ ps.length ∧ i = .int .i64 k ∧ Since w1.heap.size w1 wr ∧ OwnInts wr 3 w1.heap.size y (blameF (kv : Int) (splitL n o s data) ps k)) (fun i _ _ => ps.length - (intOf i).toNat)
    case atStart => exact ⟨0, by omega, rfl, Since.refl w1, OwnInts.nil _ _ _⟩
    case round =>
      obtain ⟨k, hk, rfl, hS, ho⟩ := hrel
      by_cases hlt : k < ps.length
      · have hget := List.getElem?_eq_getElem hlt
        obtain ⟨g, off, uu, cu, rfl, k0, k1, k2, hp, j1⟩ := peer_at (HU.out w1 (Since.refl w1)) hget
        have k0 := below_cell hS.below k0
        have k1 := below_cell hS.below k1
        have k2 := below_cell hS.below k2
        have HST := Lib.hid (blameF_step (kv : Int) (splitL n o s data) hget)
        have HPO := Lib.hid (HPK.out _ (List.getElem_mem hlt))
        have hbl := blameF_len (kv : Int) (splitL n o s data) ps k
        obtain ⟨NX, hNX⟩ : ∃ NX, NX = blameF (kv : Int) (splitL n o s data) ps (k + 1) := ⟨_, rfl⟩
        rw [← hNX] at HST
        have HNX := Lib.hid hNX
        clear hNX
        generalize blameF (kv : Int) (splitL n o s data) ps k = BF at *
        generalize ps[k] = p at *
        obtain ⟨t, r, ks⟩ := p
        simp only at k0 k1 k2 hp j1
        have hks : ks.length ≤ 20 := by have h1 := HPO.out.few; have h2 := HPO.out.room; simp only at h1 h2; omega
        have HTP : Hid (ks.foldl (badK (fun x => sameS (splitL n o s data) x.2) t (kv : Int) (k : Int)) BF = NX) := Lib.hid ((bad_peer HPO.out.rise).trans HST.out.symm)
        have HKN : Hid (∀ x ∈ ks, x.1 = (kv : Int) → ∃ m : Nat, x.2.1 = (m : Int) ∧ m < o) := Lib.hid (fun x hx hxv => by
          have h3 := (HPO.out.each x hx).2.2
          unfold shareV at h3
          rw [hxv, HPA.out] at h3
          obtain ⟨z1, z2, _⟩ := oneV_ok h3
          obtain ⟨m, hm⟩ := Int.eq_ofNat_of_zero_le z1
          exact ⟨m, hm, by simp only at z2; omega⟩)
        have HP : Hid (∀ w', Since w1.heap.size w1 w' → IsKepts w' (.slice uu ks.length cu) ks) := Lib.hid (fun w' h => hp.stays RKept.stays h.below)
        have BB := below_alloc wr (.cells #[.bool t, .int .i64 r, .slice uu ks.length cu] 78)
        have S4 := hS.alloc (.cells #[.bool t, .int .i64 r, .slice uu ks.length cu] 78)
        have f0 : (wr.alloc (.cells #[.bool t, .int .i64 r, .slice uu ks.length cu] 78)).cell? ⟨wr.heap.size, 0, none⟩ = some (.bool t) := by go_simp
        have f2 : (wr.alloc (.cells #[.bool t, .int .i64 r, .slice uu ks.length cu] 78)).cell? ⟨wr.heap.size, 2, none⟩ = some (.slice uu ks.length cu) := by go_simp
        have HO := Lib.hid (ho.stays BB)
        have hlt1 : ∀ z, Value.ownBlock u9 = some z → z ≠ wr.heap.size := fun z h e => by have := (ho.1.lt z h).2; omega
        go_upto_region 8 with fail
        generalize wr.alloc (.cells #[.bool t, .int .i64 r, .slice uu ks.length cu] 78) = wa at *
        obtain ⟨Bp, hBp⟩ : ∃ Bp, Bp = wr.heap.size := ⟨_, rfl⟩
        rw [← hBp] at f0 f2 hlt1 ⊢
        clear hBp k0 k1 k2 hp ho HST BB hget
        go_wp2_with fail
        clear f2
        go_loopw [35, 9] (fun i vy wr => ∃ j : Nat, j ≤ ks.length ∧ i = .int .i64 j ∧ Since w1.heap.size w1 wr ∧ wr.cell? ⟨Bp, 0, none⟩ = some (.bool t) ∧ OwnInts wr 3 w1.heap.size vy ((ks.take j).foldl (badK (fun x => sameS (splitL n o s data) x.2) t (kv : Int) (k : Int)) BF) ∧ ∀ z, vy.ownBlock = some z → z ≠ Bp) (fun i _ _ => ks.length - (intOf i).toNat)
        case atStart => exact ⟨0, by omega, rfl, S4, f0, HO.out, hlt1⟩
        case round =>
          clear f0 hlt1
          obtain ⟨j, hj, rfl, hS2, y0, ho2, hne2⟩ := hrel
          by_cases hlj : j < ks.length
          · have hx := List.getElem?_eq_getElem hlj
            obtain ⟨gk, ok, uk, ck, ek, x0, x1, x2, hxi, ix0, ix1⟩ := kept_at (HP.out wr hS2) hx
            subst ek
            have HFS := Lib.hid (foldT_step (badK (fun x => sameS (splitL n o s data) x.2) t (kv : Int) (k : Int)) hx BF)
            have HKX := Lib.hid (HKN.out _ (List.mem_of_getElem? hx))
            have hll : ((ks.take j).foldl (badK (fun x => sameS (splitL n o s data) x.2) t (kv : Int) (k : Int)) BF).length ≤ 28 := by
              have h1 := bad_len (fun x => sameS (splitL n o s data) x.2) t (kv : Int) (k : Int) (ks.take j) BF
              have h2 : (ks.take j).length ≤ ks.length := by rw [List.length_take]; omega
              omega
            obtain ⟨NL, hNL⟩ : ∃ NL, NL = (ks.take (j + 1)).foldl (badK (fun x => sameS (splitL n o s data) x.2) t (kv : Int) (k : Int)) BF := ⟨_, rfl⟩
            rw [← hNL] at HFS
            have HNL := Lib.hid hNL
            clear hNL
            generalize (ks.take j).foldl (badK (fun x => sameS (splitL n o s data) x.2) t (kv : Int) (k : Int)) BF = LL at *
            generalize ks[j] = x at *
            obtain ⟨xv, xn, xl⟩ := x
            simp only at x0 x1 x2 hxi ix0 ix1
            have BB := below_alloc wr (.cells #[.int .i64 xv, .int .i64 xn, .slice uk xl.length ck] 85)
            have S3 := hS2.alloc (.cells #[.int .i64 xv, .int .i64 xn, .slice uk xl.length ck] 85)
            have e0 : (wr.alloc (.cells #[.int .i64 xv, .int .i64 xn, .slice uk xl.length ck] 85)).cell? ⟨wr.heap.size, 0, none⟩ = some (.int .i64 xv) := by go_simp
            have e1 : (wr.alloc (.cells #[.int .i64 xv, .int .i64 xn, .slice uk xl.length ck] 85)).cell? ⟨wr.heap.size, 1, none⟩ = some (.int .i64 xn) := by go_simp
            have e2 : (wr.alloc (.cells #[.int .i64 xv, .int .i64 xn, .slice uk xl.length ck] 85)).cell? ⟨wr.heap.size, 2, none⟩ = some (.slice uk xl.length ck) := by go_simp
            have y0 := below_cell BB y0
            have ho3 := ho2.stays BB
            have hxi3 := hxi.stays BB
            go_upto_region 11 with fail
            clear x0 x1 x2 hx hxi ho2
            generalize wr.alloc (.cells #[.int .i64 xv, .int .i64 xn, .slice uk xl.length ck] 85) = wb at *
            obtain ⟨Bk, hBk⟩ : ∃ Bk, Bk = wr.heap.size := ⟨_, rfl⟩
            rw [← hBk] at e0 e1 e2 ⊢
            clear hBk BB
            have HB3 := Lib.hid (And.intro ho3 hne2)
            clear ho3 hne2
            obtain ⟨z0, z1, z2, z3, z4⟩ := HS.out wb S3
            by_cases hC : t = true ∧ xv = (kv : Int)
            · obtain ⟨rfl, rfl⟩ := hC
              obtain ⟨m, hm, hmo⟩ := HKX.out rfl
              simp only at hm
              subst hm
              have hm8 : m ≤ 8 := by omega
              have hxe : ((kv : Int) == (kv : Int)) = true := by simp
              obtain ⟨T, hT⟩ : ∃ T, T = sameV (m : Int) (m : Int) xl (shareL n data (rowsN n s) m).2 := ⟨_, rfl⟩
              have HT := Lib.hid hT.symm
              have HM : Hid (sameS (splitL n o s data) ((m : Int), xl) = T) := Lib.hid ((same_of HSP.out hmo xl).trans hT.symm)
              clear hT
              have HSS : Hid (∀ w', Since wb.heap.size wb w' → w'.cell? ⟨B, 0, none⟩ = some (.slice (some ⟨gv, ov, none⟩) b.length c) ∧ w'.cell? ⟨gv, ov + kv * 4 + 1, none⟩ = some (.int .i64 n) ∧ w'.cell? ⟨gv, ov + kv * 4 + 2, none⟩ = some (.int .i64 o) ∧ w'.cell? ⟨gv, ov + kv * 4 + 3, none⟩ = some (.int .i64 s) ∧ w'.cell? ⟨Bp, 0, none⟩ = some (.bool true) ∧ w'.cell? ⟨Bk, 0, none⟩ = some (.int .i64 (kv : Int)) ∧ w'.cell? ⟨Bk, 1, none⟩ = some (.int .i64 (m : Int)) ∧ w'.cell? ⟨Bk, 2, none⟩ = some (.slice uk xl.length ck)) := Lib.hid (fun w' q => by
                obtain ⟨r0, _, r2, r3, r4⟩ := HS.out w' (S3.step q.below)
                exact ⟨r0, r2, r3, r4, below_cell q.below y0, below_cell q.below e0, below_cell q.below e1, below_cell q.below e2⟩)
              have s3 := HSS.out wb.drew (Since.refl wb).drew
              have HXI := Lib.hid hxi3
              clear z0 z1 z2 z3 z4 y0 e0 e1 e2 hxi3
              cases T with
              | true =>
                have HN := Lib.hid (show NL = LL from HFS.out.trans (bad_no (x := ((kv : Int), (m : Int), xl)) (fun h => by have h2 := h.2.2; simp only [HM.out] at h2; cases h2)))
                go_region_held3 (fun w' => w'.cell? ⟨B, 0, none⟩ = some (.slice (some ⟨gv, ov, none⟩) b.length c) ∧ w'.cell? ⟨gv, ov + kv * 4 + 1, none⟩ = some (.int .i64 n) ∧ w'.cell? ⟨gv, ov + kv * 4 + 2, none⟩ = some (.int .i64 o) ∧ w'.cell? ⟨gv, ov + kv * 4 + 3, none⟩ = some (.int .i64 s) ∧ w'.cell? ⟨Bp, 0, none⟩ = some (.bool true) ∧ w'.cell? ⟨Bk, 0, none⟩ = some (.int .i64 (kv : Int)) ∧ w'.cell? ⟨Bk, 1, none⟩ = some (.int .i64 (m : Int)) ∧ w'.cell? ⟨Bk, 2, none⟩ = some (.slice uk xl.length ck)) (first | exact s3 | exact s4 | exact s5) (first
                  | (go_at_call 63; refine (ShareOf_any n o s _ data m _ (HDT.out _ S3.drew) HPL.out HNUM.out hm8).mono ?_; rintro e w6 ⟨⟨v4, rfl, ho4⟩, hb4⟩; have p4 := (Since.refl wb).drew.step hb4; have s4 := HSS.out w6 p4)
                  | (go_at_call 62; refine (SameShare_any (m : Int) (m : Int) _ _ xl (shareL n data (rowsN n s) m).2 _ (HXI.out.stays p4.below) ho4.isInts).mono ?_; rintro e w7 ⟨rfl, hb5⟩; rw [HT.out]; have p5 := p4.step hb5; have s5 := HSS.out w7 p5))
                all_goals
                  have S8 := S3.step p5.below
                  obtain ⟨_, _, _, _, y1, _⟩ := s5
                  have HY := Lib.hid y1
                  clear y1 s3 s4 ho4 hb4 hb5
                  go_wp2_with fail
                  go_roundw
                  case rel => exact ⟨j + 1, by omega, by go_num, S8, HY.out, by rw [← HNL.out, HN.out]; exact HB3.out.1.stays p5.below, HB3.out.2⟩
                  case measure => simp [intOf]; omega
              | false =>
                have HN := Lib.hid (show NL = LL ++ [(k : Int)] from HFS.out.trans (bad_yes (x := ((kv : Int), (m : Int), xl)) rfl HM.out))
                go_region_held3 (fun w' => w'.cell? ⟨B, 0, none⟩ = some (.slice (some ⟨gv, ov, none⟩) b.length c) ∧ w'.cell? ⟨gv, ov + kv * 4 + 1, none⟩ = some (.int .i64 n) ∧ w'.cell? ⟨gv, ov + kv * 4 + 2, none⟩ = some (.int .i64 o) ∧ w'.cell? ⟨gv, ov + kv * 4 + 3, none⟩ = some (.int .i64 s) ∧ w'.cell? ⟨Bp, 0, none⟩ = some (.bool true) ∧ w'.cell? ⟨Bk, 0, none⟩ = some (.int .i64 (kv : Int)) ∧ w'.cell? ⟨Bk, 1, none⟩ = some (.int .i64 (m : Int)) ∧ w'.cell? ⟨Bk, 2, none⟩ = some (.slice uk xl.length ck)) (first | exact s3 | exact s4 | exact s5) (first
                  | (go_at_call 63; refine (ShareOf_any n o s _ data m _ (HDT.out _ S3.drew) HPL.out HNUM.out hm8).mono ?_; rintro e w6 ⟨⟨v4, rfl, ho4⟩, hb4⟩; have p4 := (Since.refl wb).drew.step hb4; have s4 := HSS.out w6 p4)
                  | (go_at_call 62; refine (SameShare_any (m : Int) (m : Int) _ _ xl (shareL n data (rowsN n s) m).2 _ (HXI.out.stays p4.below) ho4.isInts).mono ?_; rintro e w7 ⟨rfl, hb5⟩; rw [HT.out]; have p5 := p4.step hb5; have s5 := HSS.out w7 p5))
                all_goals
                  have S8 := S3.step p5.below
                  obtain ⟨_, _, _, _, y1, _⟩ := s5
                  obtain ⟨ho4', hne4⟩ := HB3.out
                  have ho5 := ho4'.stays p5.below
                  have ik : I64 (k : Int) := ⟨by omega, by omega⟩
                  have hpc : Bp < w7.heap.size := cell_lt y1
                  have BC := below_alloc w7 (.cells #[.int .i64 (k : Int)] 3)
                  clear s3 s4 ho4 hb4 hb5 ho4'
                  go_wp2_with (at_builtin; refine append_int_at rfl _ _ 22 rfl 3 Tryz.underlying22 info_int w1.heap.size _ LL rfl (ho5.stays (below_alloc _ _)) ⟨w7.heap.size, 0, none⟩ 1 (k : Int) rfl (by simp) ik (by omega) (by have := S8.2; simp; omega) ?_; intro v' w8 ho8 hg8 hat8)
                  have S9 := (S8.alloc (.cells #[.int .i64 (k : Int)] 3)).own (ho5.stays BC) hg8
                  have y6 := (Dirty.of_grown hg8).cell (below_cell BC y1) (fun h => hne4 _ h rfl)
                  have hne6 : ∀ z, v'.ownBlock = some z → z ≠ Bp := fun z hz => by
                    rcases hat8 with h | h
                    · exact hne4 z (h.symm.trans hz)
                    · have h2 := h.symm.trans hz
                      simp at h2
                      omega
                  have HX := Lib.hid (And.intro y6 (And.intro ho8 hne6))
                  clear y6 ho8 hne6 hg8 hat8 ho5 y1 BC
                  go_roundw
                  case rel => exact ⟨j + 1, by omega, by go_num, S9, HX.out.1, by rw [← HNL.out, HN.out]; exact HX.out.2.1, HX.out.2.2⟩
                  case measure => simp [intOf]; omega
            · have HN := Lib.hid (show NL = LL from HFS.out.trans (bad_no (x := (xv, xn, xl)) (fun h => hC ⟨h.1, h.2.1⟩)))
              cases t with
              | false =>
                go_wp2_with (go_quiet (fail))
                go_roundw
                case rel => exact ⟨j + 1, by omega, by go_num, drewN_since S3 _, below_cell (drewN_below _ _) y0, by rw [← HNL.out, HN.out]; exact HB3.out.1.stays (drewN_below _ _), HB3.out.2⟩
                case measure => simp [intOf]; omega
              | true =>
                have hxe : (xv == (kv : Int)) = false := by simpa using fun h => hC ⟨rfl, h⟩
                clear hC
                go_wp2_with (go_quiet (fail))
                go_roundw
                case rel => exact ⟨j + 1, by omega, by go_num, drewN_since S3 _, below_cell (drewN_below _ _) y0, by rw [← HNL.out, HN.out]; exact HB3.out.1.stays (drewN_below _ _), HB3.out.2⟩
                case measure => simp [intOf]; omega
          · obtain rfl : ks.length = j := by omega
            rw [List.take_length, HTP.out] at ho2
            have HR2 := Lib.hid ho2
            clear ho2
            go_wp2_with fail
            go_roundw
            case rel => exact ⟨k + 1, by omega, by go_num, hS2, by rw [← HNX.out]; exact HR2.out⟩
            case measure => simp [intOf]; omega
      · obtain rfl : ps.length = k := by omega
        have hi := ho.isInts
        obtain ⟨ar, cr, rfl, _⟩ := hi.opened
        have HI := Lib.hid hi
        clear hi ho
        go_wp2_with fail
        go_ret2
        exact ⟨⟨_, ret_vE HE.out.symm, by rw [HC.out]; exact HI.out⟩, (S1.step hS.below).below⟩
  · have HE : Hid (blamedE (b, ps) v = restE (b, ps) v) := Lib.hid (by unfold blamedE; rw [if_pos h0])
    have HC : Hid (blamedC (b, ps) v = []) := Lib.hid (by unfold blamedC; rw [if_neg (by rw [HE.out]; exact h0)])
    have hne : (restE (b, ps) v != 0) = true := by simpa using h0
    obtain ⟨ad, cd, rfl, _⟩ := hi1.opened
    clear h0 d0 d1 hi1
    go_wp2_with fail
    go_ret2
    exact ⟨⟨_, ret_vE HE.out.symm, by rw [HC.out]; exact IsInts.nil _⟩, S1.below⟩
end Go.Proofs.YtnidbghgadnjeaaGreat
