/-
  The reference's CheckMesh, version, There, walked.
-/
import Derived.Test.YtjakdgchfimhkaaGreatSaves
import Derived.Test.YtjakdgchfimhkaaGreatLaws
import Derived.Test.YtjakdgchfimhkaaGreatPlaces
import Derived.Deep.QuietTactic
import Derived.BigQuiet
namespace Go.Proofs.YtjakdgchfimhkaaGreat
open Go.RowKit

theorem CheckMesh_any (vb : Value) (b : List Ver) (u : Value) (ps : List Pr) (W : World) (hb : IsVers W vb b) (hu : IsPeers W u ps) :
    Calls Tryz.prog 14 #[.agg #[vb, u]] W fun e w' => e = .returned (.int .i64 (meshV (b, ps))) ∧ Below W.heap.size W w' := by
  obtain ⟨a, c, rfl, _⟩ := hb.opened
  obtain ⟨a', c', rfl, _⟩ := hu.opened
  have S0 := (Since.refl W).alloc (.cells #[.slice a b.length c, .slice a' ps.length c'] 27)
  have hb0 := hb.stays RVer.stays S0.below
  have hu0 := hu.stays RPeer.stays S0.below
  clear hb hu
  go_enter Tryz.func14, Tryz.ntmps14
  go_wp2_with (go_at_call 41; go_fit (CheckPeers_any _ b _ ps _ hb0 hu0); rintro e w1 ⟨rfl, hb1⟩)
  go_ret
  exact ⟨rfl, (S0.step hb1).below⟩

set_option maxRecDepth 100000 in
set_option maxHeartbeats 2000000 in
theorem version_any (vb : Value) (b : List Ver) (u : Value) (ps : List Pr) (v : Int) (W : World) (hb : IsVers W vb b) (hu : IsPeers W u ps) :
    Calls Tryz.prog 28 #[.agg #[vb, u], .int .i64 v] W fun e w' => e = .returned (.int .i64 (readyE (b, ps) v)) ∧ Below W.heap.size W w' := by
  obtain ⟨a, c, rfl, _⟩ := hb.opened
  obtain ⟨a', c', rfl, _⟩ := hu.opened
  have S0 := (Since.refl W).alloc (.cells #[.slice a b.length c, .slice a' ps.length c'] 27)
  have hb0 := hb.stays RVer.stays S0.below
  have hu0 := hu.stays RPeer.stays S0.below
  have c0 : (W.alloc (.cells #[.slice a b.length c, .slice a' ps.length c'] 27)).cell? ⟨W.heap.size, 0, none⟩ = some (.slice a b.length c) := by go_simp
  have c1 : (W.alloc (.cells #[.slice a b.length c, .slice a' ps.length c'] 27)).cell? ⟨W.heap.size, 1, none⟩ = some (.slice a' ps.length c') := by go_simp
  clear hb hu
  go_enter Tryz.func28, Tryz.ntmps28
  go_upto_region 1 with fail
  generalize W.alloc (.cells #[.slice a b.length c, .slice a' ps.length c'] 27) = w0 at *
  obtain ⟨B, hB⟩ : ∃ B, B = W.heap.size := ⟨_, rfl⟩
  rw [← hB] at c0 c1 ⊢
  clear hB
  have hE : Hid (readyE (b, ps) v = if meshV (b, ps) ≠ 0 then meshV (b, ps) else if v < 0 ∨ (b.length : Int) ≤ v then 4 else 0) := Lib.hid rfl
  go_upto_region 2 with (go_at_call 14; go_fit (CheckMesh_any _ b _ ps _ hb0 hu0); rintro e w1 ⟨rfl, hb1⟩)
  have S1 := S0.step hb1
  have d0 := below_cell hb1 c0
  clear c0 c1 hb1 hb0 hu0
  by_cases h0 : meshV (b, ps) = 0
  · rw [h0] at hE ⊢
    by_cases hm : v < 0
    · have H : Hid (readyE (b, ps) v = 4) := Lib.hid (by rw [hE.out]; simp [hm])
      have hd : decide (v < 0) = true := by simpa using hm
      clear hE
      go_wp2_with (go_quiet (fail))
      go_ret
      exact ⟨ret_int H.out.symm, by first | exact S1.below | exact (S1.step ((Since.refl _).drew).below).below⟩
    · have hd : decide (v < 0) = false := by simpa using hm
      by_cases h2 : (b.length : Int) ≤ v
      · have H : Hid (readyE (b, ps) v = 4) := Lib.hid (by rw [hE.out]; simp [h2])
        have hd2 : decide ((b.length : Int) ≤ v) = true := by simpa using h2
        clear hE
        go_wp2_with (go_quiet (fail))
        go_ret
        exact ⟨ret_int H.out.symm, S1.below⟩
      · have H : Hid (readyE (b, ps) v = 0) := Lib.hid (by rw [hE.out]; simp [hm, h2])
        have hd2 : decide ((b.length : Int) ≤ v) = false := by simpa using h2
        clear hE
        go_wp2_with (go_quiet (fail))
        go_ret
        exact ⟨ret_int H.out.symm, S1.below⟩
  · have H : Hid (readyE (b, ps) v = meshV (b, ps)) := Lib.hid (by rw [hE.out, if_pos h0])
    have hne : (meshV (b, ps) != 0) = true := by simpa using h0
    clear hE h0
    go_wp2_with fail
    go_ret
    exact ⟨ret_int H.out.symm, S1.below⟩

/-- One that a peer keeps is counted. -/
def thereK (t : Bool) (v : Int) (l : List Sh) (x : Kp) : List Sh := if t = true ∧ x.1 = v ∧ (l.any fun s => decide (s.1 = x.2.1)) = false then l ++ [x.2] else l
theorem there_none {t : Bool} {v : Int} : ∀ {ks : List Kp} {l : List Sh}, (t = true → ∀ x ∈ ks, x.1 ≠ v) → ks.foldl (thereK t v) l = l
  | [], _, _ => rfl
  | x :: ks, l, h => by
    have e : thereK t v l x = l := by
      unfold thereK
      rw [if_neg (fun hh => h hh.1 x (by simp) hh.2.1)]
    rw [List.foldl_cons, e]
    exact there_none (fun ht y hy => h ht y (by simp [hy]))
theorem there_peer {t : Bool} {v r : Int} : ∀ {ks : List Kp} {l : List Sh}, ks.Pairwise (fun x y => x.1 < y.1) → ks.foldl (thereK t v) l = addS l (pickS v (t, r, ks))
  | [], l, _ => by cases t <;> rfl
  | x :: ks, l, h => by
    obtain ⟨h1, h2⟩ := List.pairwise_cons.1 h
    cases t with
    | false => rw [there_none (fun h => by cases h)]; rfl
    | true =>
      by_cases hx : x.1 = v
      · rw [List.foldl_cons, there_none (fun _ y hy => by have := h1 y hy; omega)]
        have e : pickS v (true, r, x :: ks) = some x.2 := by simp [pickS, keptAt, hx]
        rw [e]
        unfold thereK addS
        cases ha : (l.any fun s => decide (s.1 = x.2.1)) <;> simp [hx, ha]
      · have e1 : thereK true v l x = l := by
          unfold thereK
          rw [if_neg (fun hh => hx hh.2.1)]
        rw [List.foldl_cons, e1, there_peer (r := r) h2]
        congr 1
        simp [pickS, keptAt, hx]
theorem there_len (t : Bool) (v : Int) : ∀ (ks : List Kp) (l : List Sh), (ks.foldl (thereK t v) l).length ≤ l.length + ks.length
  | [], l => by simp
  | x :: ks, l => by
    rw [List.foldl_cons]
    refine Nat.le_trans (there_len t v ks _) ?_
    have : (thereK t v l x).length ≤ l.length + 1 := by unfold thereK; split <;> simp
    simp only [List.length_cons]
    omega
theorem kept_num {b : List Ver} {p : Pr} (h : PeerOk b p) {x : Kp} (hx : x ∈ p.2.2) : 0 ≤ x.2.1 ∧ x.2.1 < 8 := by
  obtain ⟨h1, h2, h3⟩ := h.each x hx
  obtain ⟨k, hk⟩ := Int.eq_ofNat_of_zero_le h1
  have hkl : k < b.length := by omega
  have hg : b[k]? = some b[k] := List.getElem?_eq_getElem hkl
  have hp := planV_bd ((bookV_ok.1 h.book).plan k _ hg)
  unfold shareV at h3
  have hpl : planAt b x.1 = b[k].2 := by unfold planAt; rw [hk]; simp [hg]
  rw [hpl] at h3
  obtain ⟨a1, a2, _⟩ := oneV_ok h3
  omega

/-- Which numbers were seen. -/
def SawAt (w : World) (q : Nat) (l : List Sh) : Prop := ∀ j : Nat, j < 8 → w.cell? ⟨q, j, none⟩ = some (.bool (l.any fun s => decide (s.1 = (j : Int)))) ∧ w.frozen? ⟨q, j, none⟩ = false
theorem SawAt.stays {w w' : World} {q : Nat} {l : List Sh} (h : SawAt w q l) (hb : Below w.heap.size w w') : SawAt w' q l := fun j hj =>
  ⟨below_cell hb (h j hj).1, below_free hb (h j hj).1 (h j hj).2⟩
theorem SawAt.grown {w w' : World} {q : Nat} {l : List Sh} {row : Option Nat} (h : SawAt w q l) (hg : w.grownBy w' row) (hne : row ≠ some q) : SawAt w' q l := fun j hj =>
  ⟨(Dirty.of_grown hg).cell (h j hj).1 (fun e => hne e), grown_free hg (h j hj).1 (h j hj).2 (fun e => hne e.symm)⟩
theorem SawAt.lt {w : World} {q : Nat} {l : List Sh} (h : SawAt w q l) : q < w.heap.size := cell_lt (h 0 (by omega)).1
theorem SawAt.set {w : World} {q m : Nat} {l : List Sh} {s : Sh} (h : SawAt w q l) (hm : m < 8) (hs : s.1 = (m : Int)) : SawAt (w.setCell ⟨q, m, none⟩ (.bool true)) q (l ++ [s]) := fun j hj => by
  refine ⟨?_, by rw [World.frozen?_setCell]; exact (h j hj).2⟩
  by_cases hjm : j = m
  · subst hjm
    rw [World.cell?_setCell_same _ _ _ (h j hj).1]
    simp [hs]
  · rw [World.cell?_setCell_other _ _ _ _ (by intro e; simp only [Addr.mk.injEq] at e; exact hjm e.2.1.symm), (h j hj).1]
    have : ¬ ((m : Int) = (j : Int)) := by omega
    simp [hs, this]
theorem info_shareT : (Tryz.prog.info? 58).map (fun i => (i.zero, i.size, i.bytes)) = some (some (.agg #[.int .i64 0, .slice none 0 0]), 2, 32) := by kernel_rfl
theorem fresh_cellsU (w : World) (l : List Value) (T : TypeId) (n : Nat) (hn : n = w.heap.size) : ∀ j u, l[j]? = some u → (w.alloc (.cells l.toArray T)).cell? ((⟨n, 0, none⟩ : Addr).add j) = some u := by
  intro j u h
  subst hn
  rw [add_zero']
  unfold World.cell? World.alloc
  simpa using h
end Go.Proofs.YtjakdgchfimhkaaGreat
