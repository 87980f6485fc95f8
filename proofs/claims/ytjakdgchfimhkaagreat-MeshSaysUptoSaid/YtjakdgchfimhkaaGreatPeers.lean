/-
  Kept shares, peers: how they lie in memory, and the readings.
  Peers in plain lists: what is wrong with one; what is found, kept, dropped.
  Walks: what a peer keeps is found; slices.IndexFunc and slices.EqualFunc at what is kept, with whatever closure.
-/
import Derived.Test.YtjakdgchfimhkaaGreatRowAll
import Derived.Test.YtjakdgchfimhkaaGreatBooks
import Derived.Test.YtjakdgchfimhkaaGreatCurves
import Derived.Test.YtjakdgchfimhkaaGreatBase
namespace Go.Proofs.YtjakdgchfimhkaaGreat
open Go.ChangeShapes Go.WideShapes Go.ChangeAt Go.RowKit Go.Deep

/-- What is kept: its version, the share. -/
abbrev Kp := Int × Sh
/-- A peer: is it there, its room, what it keeps. -/
abbrev Pr := Bool × Int × List Kp
def RKept : Rd Kp := fun w cs x => ∃ v, cs = [.int .i64 x.1, .int .i64 x.2.1, v] ∧ IsInts w v x.2.2 ∧ I64 x.1 ∧ I64 x.2.1
theorem RKept.stays : RKept.Stays := by
  rintro w cs x ⟨v, rfl, h, i⟩ w' hw
  exact ⟨v, rfl, h.framed (fun _ _ _ => id) hw, i⟩
/-- The value is a slice of these kept shares. -/
abbrev IsKepts (w : World) (v : Value) (l : List Kp) : Prop := IsRow 3 RKept w v l
theorem kept_at {w : World} {a : Option Addr} {n cap : Nat} {l : List Kp} (h : IsKepts w (.slice a n cap) l) {i : Nat} {x : Kp} (hx : l[i]? = some x) :
    ∃ g off u c, a = some ⟨g, off, none⟩ ∧ w.cell? ⟨g, off + i * 3, none⟩ = some (.int .i64 x.1) ∧ w.cell? ⟨g, off + i * 3 + 1, none⟩ = some (.int .i64 x.2.1) ∧ w.cell? ⟨g, off + i * 3 + 2, none⟩ = some (.slice u x.2.2.length c) ∧ IsInts w (.slice u x.2.2.length c) x.2.2 ∧ I64 x.1 ∧ I64 x.2.1 := by
  obtain ⟨g, off, rfl, cs, hl, hc, v, rfl, hv, h1, h2⟩ := h.at hx
  obtain ⟨u, c, rfl, _⟩ := hv.opened
  exact ⟨g, off, u, c, rfl, hc 0 _ rfl, hc 1 _ rfl, hc 2 _ rfl, hv, h1, h2⟩
def RPeer : Rd Pr := fun w cs x => ∃ v, cs = [.bool x.1, .int .i64 x.2.1, v] ∧ IsKepts w v x.2.2 ∧ I64 x.2.1
theorem RPeer.stays : RPeer.Stays := by
  rintro w cs x ⟨v, rfl, h, i⟩ w' hw
  exact ⟨v, rfl, h.later RKept.stays hw, i⟩
/-- The value is a slice of these peers. -/
abbrev IsPeers (w : World) (v : Value) (l : List Pr) : Prop := IsRow 3 RPeer w v l
theorem peer_at {w : World} {a : Option Addr} {n cap : Nat} {l : List Pr} (h : IsPeers w (.slice a n cap) l) {i : Nat} {x : Pr} (hx : l[i]? = some x) :
    ∃ g off u c, a = some ⟨g, off, none⟩ ∧ w.cell? ⟨g, off + i * 3, none⟩ = some (.bool x.1) ∧ w.cell? ⟨g, off + i * 3 + 1, none⟩ = some (.int .i64 x.2.1) ∧ w.cell? ⟨g, off + i * 3 + 2, none⟩ = some (.slice u x.2.2.length c) ∧ IsKepts w (.slice u x.2.2.length c) x.2.2 ∧ I64 x.2.1 := by
  obtain ⟨g, off, rfl, cs, hl, hc, v, rfl, hv, h1⟩ := h.at hx
  obtain ⟨u, c, rfl, _⟩ := hv.opened
  exact ⟨g, off, u, c, rfl, hc 0 _ rfl, hc 1 _ rfl, hc 2 _ rfl, hv, h1⟩

section
variable {H : Type} {enc : TypeId × Value → H} {W : World} {base : Nat} {v : Value} {d : DataW H} {ps : List MemPlace}
theorem cells_kept : Tryz.prog.cellsOf 60 = 3 := by kernel_rfl
theorem cells_bool : Tryz.prog.cellsOf 4 = 1 := by kernel_rfl
theorem cells_kepts : Tryz.prog.cellsOf 43 = 1 := by kernel_rfl
theorem cells_peer : Tryz.prog.cellsOf 45 = 3 := by kernel_rfl
set_option maxRecDepth 100000 in
theorem reads_kept : Reads enc W 60 RKept := by
  intro n cs x h hz
  obtain ⟨y0, y1, k, rfl, hl, h0, h1⟩ := trod_struct2 Tryz.underlying60 h
  rw [cells_kept] at hl
  simp only [cells_int, cells_share] at h0 h1
  match cs, hl with
  | [c0, c1, c2], _ =>
    simp only [List.drop_zero, List.drop_succ_cons, List.take_succ_cons, List.take_zero] at h0 h1
    simp only [DataW.weights, Tryz.underlying60, List.map_cons, List.map_nil, DataW.weightsEach, List.mem_append] at hz
    obtain ⟨z0, e0, i0⟩ := reads_int Tryz.underlying3 k _ _ h0 (fun m hm => hz m (by simp [hm]))
    obtain ⟨z1, v1, e1, i1, j1⟩ := reads_share k _ _ h1 (fun m hm => hz m (by simp [hm]))
    simp only [List.cons.injEq, and_true] at e0 e1
    obtain ⟨rfl, rfl⟩ := e1
    subst e0
    exact ⟨(z0, z1), _, rfl, i1, i0, j1⟩
set_option maxRecDepth 100000 in
theorem reads_kepts : Reads enc W 43 (fun w cs l => ∃ v, cs = [v] ∧ IsKepts w v l) :=
  reads_row Tryz.underlying43 cells_kept (by omega) (by rw [show Tryz.prog.bytesOf 60 = 40 by kernel_rfl]; omega) reads_kept
set_option maxRecDepth 100000 in
theorem reads_peer : Reads enc W 45 RPeer := by
  intro n cs x h hz
  obtain ⟨y0, y1, y2, k, rfl, hl, h0, h1, h2⟩ := trod_struct3 Tryz.underlying45 h
  rw [cells_peer] at hl
  simp only [cells_int, cells_bool, cells_kepts] at h0 h1 h2
  match cs, hl with
  | [c0, c1, c2], _ =>
    simp only [List.drop_zero, List.drop_succ_cons, List.take_succ_cons, List.take_zero] at h0 h1 h2
    simp only [DataW.weights, Tryz.underlying45, List.map_cons, List.map_nil, DataW.weightsEach, List.mem_append] at hz
    obtain ⟨z0, e0⟩ := reads_bool Tryz.underlying4 k _ _ h0 (fun m hm => hz m (by simp [hm]))
    obtain ⟨z1, e1, i1⟩ := reads_int Tryz.underlying3 k _ _ h1 (fun m hm => hz m (by simp [hm]))
    obtain ⟨z2, v2, e2, i2⟩ := reads_kepts k _ _ h2 (fun m hm => hz m (by simp [hm]))
    simp only [RBool, List.cons.injEq, and_true] at e0 e1 e2
    subst e0 e1 e2
    exact ⟨(z0, z1, z2), _, rfl, i2, i1⟩
set_option maxRecDepth 100000 in
theorem reads_peers : Reads enc W 25 (fun w cs l => ∃ v, cs = [v] ∧ IsPeers w v l) :=
  reads_row Tryz.underlying25 cells_peer (by omega) (by rw [show Tryz.prog.bytesOf 45 = 40 by kernel_rfl]; omega) reads_peer
/-- The value is this kept share, this peer. -/
def IsKept (w : World) (v : Value) (x : Kp) : Prop := ∃ u, v = .agg #[.int .i64 x.1, .int .i64 x.2.1, u] ∧ IsInts w u x.2.2 ∧ I64 x.1 ∧ I64 x.2.1
def IsPeer (w : World) (v : Value) (x : Pr) : Prop := ∃ u, v = .agg #[.bool x.1, .int .i64 x.2.1, u] ∧ IsKepts w u x.2.2 ∧ I64 x.2.1
end
end Go.Proofs.YtjakdgchfimhkaaGreat

namespace Go.Proofs.YtjakdgchfimhkaaGreat

/-- The plan of a version; one that is none where there is no such version. -/
def planAt (b : List Ver) (k : Int) : Int × Int × Int := ((b[k.toNat]?).map (·.2)).getD (0, 0, 0)
def shareV (b : List Ver) (x : Kp) : Int := oneV (planAt b x.1).1 (planAt b x.1).2.1 (planAt b x.1).2.2 x.2.1 x.2.2
/-- What is wrong with what is kept, the last version before it being given. -/
def keptsV (b : List Ver) : Int → List Kp → Int
  | _, [] => 0
  | last, x :: r => if x.1 < 0 ∨ (b.length : Int) ≤ x.1 then 4 else if x.1 ≤ last then 5 else if shareV b x ≠ 0 then shareV b x else keptsV b x.1 r
/-- What Check of a peer answers. -/
def peerV (b : List Ver) (p : Pr) : Int := if bookV b ≠ 0 then bookV b else if p.2.1 < 0 ∨ 20 < p.2.1 then 2 else if p.2.1 < (p.2.2.length : Int) then 8 else keptsV b (-1) p.2.2
theorem keptsV_ok (b : List Ver) : ∀ (l : List Kp) (last : Int), keptsV b last l = 0 ↔ (∀ x ∈ l, last < x.1 ∧ 0 ≤ x.1 ∧ x.1 < b.length ∧ shareV b x = 0) ∧ l.Pairwise (fun x y => x.1 < y.1)
  | [], last => by simp [keptsV]
  | x :: r, last => by
    unfold keptsV
    by_cases h1 : x.1 < 0 ∨ (b.length : Int) ≤ x.1
    · rw [if_pos h1]
      constructor
      · intro e; simp at e
      · rintro ⟨h2, _⟩
        have := h2 x (by simp)
        omega
    · rw [if_neg h1]
      by_cases h2 : x.1 ≤ last
      · rw [if_pos h2]
        constructor
        · intro e; simp at e
        · rintro ⟨h3, _⟩
          have := h3 x (by simp)
          omega
      · rw [if_neg h2]
        by_cases h3 : shareV b x = 0
        · rw [if_neg (by simpa using h3), keptsV_ok b r x.1, List.pairwise_cons]
          constructor
          · rintro ⟨h4, h5⟩
            refine ⟨fun y hy => ?_, fun y hy => (h4 y hy).1, h5⟩
            rcases List.mem_cons.1 hy with rfl | hy
            · exact ⟨by omega, by omega, by omega, h3⟩
            · have := h4 y hy
              exact ⟨by omega, this.2⟩
          · rintro ⟨h4, h5, h6⟩
            exact ⟨fun y hy => ⟨h5 y hy, (h4 y (by simp [hy])).2⟩, h6⟩
        · rw [if_pos h3]
          constructor
          · intro e; exact absurd e h3
          · rintro ⟨h4, _⟩
            exact absurd (h4 x (by simp)).2.2.2 h3
/-- What a right peer is. -/
structure PeerOk (b : List Ver) (p : Pr) : Prop where
  book : bookV b = 0
  room : 0 ≤ p.2.1 ∧ p.2.1 ≤ 20
  few : (p.2.2.length : Int) ≤ p.2.1
  each : ∀ x ∈ p.2.2, 0 ≤ x.1 ∧ x.1 < b.length ∧ shareV b x = 0
  rise : p.2.2.Pairwise (fun x y => x.1 < y.1)
theorem peerV_ok {b : List Ver} {p : Pr} : peerV b p = 0 ↔ PeerOk b p := by
  unfold peerV
  by_cases h1 : bookV b = 0
  · rw [if_neg (by simpa using h1)]
    by_cases h2 : p.2.1 < 0 ∨ 20 < p.2.1
    · rw [if_pos h2]
      exact ⟨fun e => by simp at e, fun h => by have := h.room; omega⟩
    · rw [if_neg h2]
      by_cases h3 : p.2.1 < (p.2.2.length : Int)
      · rw [if_pos h3]
        exact ⟨fun e => by simp at e, fun h => by have := h.few; omega⟩
      · rw [if_neg h3, keptsV_ok]
        exact ⟨fun h => ⟨h1, by omega, by omega, fun x hx => ⟨(h.1 x hx).2.1, (h.1 x hx).2.2⟩, h.2⟩, fun h => ⟨fun x hx => ⟨by have := h.each x hx; omega, h.each x hx⟩, h.rise⟩⟩
  · rw [if_pos h1]
    exact ⟨fun e => absurd e h1, fun h => absurd h.book h1⟩

/-- The place at which something of a version is kept; -1: nowhere. -/
def findV (v : Int) : List Kp → Nat → Int
  | [], _ => -1
  | x :: r, k => if x.1 = v then (k : Int) else findV v r (k + 1)
theorem findV_neg {v : Int} : ∀ {l : List Kp} {k : Nat}, findV v l k < 0 ↔ ∀ x ∈ l, x.1 ≠ v
  | [], _ => by simp [findV]
  | x :: r, k => by
    unfold findV
    by_cases h : x.1 = v
    · rw [if_pos h]
      exact ⟨fun h2 => by omega, fun h2 => absurd h (h2 x (by simp))⟩
    · rw [if_neg h, findV_neg (l := r) (k := k + 1)]
      exact ⟨fun h2 y hy => by rcases List.mem_cons.1 hy with rfl | hy; exact h; exact h2 y hy, fun h2 y hy => h2 y (by simp [hy])⟩
/-- What is left without a version. -/
def dropK (v : Int) (l : List Kp) : List Kp := l.filter fun x => decide (x.1 ≠ v)
/-- One more, in its place. -/
def keepK (x : Kp) : List Kp → List Kp
  | [] => [x]
  | y :: r => if y.1 < x.1 then y :: keepK x r else x :: y :: r
theorem mem_keepK {x y : Kp} : ∀ {l : List Kp}, y ∈ keepK x l ↔ y = x ∨ y ∈ l
  | [] => by simp [keepK]
  | z :: r => by
    unfold keepK
    by_cases h : z.1 < x.1
    · rw [if_pos h, List.mem_cons, mem_keepK (l := r), List.mem_cons]
      constructor
      · rintro (h | h | h)
        · exact Or.inr (Or.inl h)
        · exact Or.inl h
        · exact Or.inr (Or.inr h)
      · rintro (h | h | h)
        · exact Or.inr (Or.inl h)
        · exact Or.inl h
        · exact Or.inr (Or.inr h)
    · rw [if_neg h, List.mem_cons]
theorem keepK_rise {x : Kp} : ∀ {l : List Kp}, l.Pairwise (fun a c => a.1 < c.1) → (∀ y ∈ l, y.1 ≠ x.1) → (keepK x l).Pairwise (fun a c => a.1 < c.1)
  | [], _, _ => by simp [keepK]
  | z :: r, hp, hn => by
    have hp' := List.pairwise_cons.1 hp
    unfold keepK
    by_cases h : z.1 < x.1
    · rw [if_pos h, List.pairwise_cons]
      refine ⟨fun y hy => ?_, keepK_rise hp'.2 (fun y hy => hn y (by simp [hy]))⟩
      rcases mem_keepK.1 hy with rfl | hy
      · exact h
      · exact hp'.1 y hy
    · have hzx : x.1 < z.1 := by have := hn z (by simp); omega
      rw [if_neg h, List.pairwise_cons]
      refine ⟨fun y hy => ?_, hp⟩
      rcases List.mem_cons.1 hy with rfl | hy
      · exact hzx
      · have := hp'.1 y hy; omega
theorem dropK_none {v : Int} {l : List Kp} (h : ∀ y ∈ l, y.1 ≠ v) : dropK v l = l := by unfold dropK; rw [List.filter_eq_self]; intro y hy; simpa using h y hy

end Go.Proofs.YtjakdgchfimhkaaGreat

namespace Go.Proofs.YtjakdgchfimhkaaGreat
open Go.RowKit

theorem findV_from (v : Int) : ∀ (l : List Kp) (k : Nat), findFrom (fun x : Kp => decide (x.1 = v)) l k = findV v l k
  | [], _ => rfl
  | x :: r, k => by
    unfold findFrom findV
    by_cases h : x.1 = v
    · rw [if_pos h, if_pos (by simpa using h)]
    · rw [if_neg h, if_neg (by simpa using h), findV_from v r (k + 1)]
theorem IsKept.stays {w w' : World} {v : Value} {x : Kp} (h : IsKept w v x) (hb : Below w.heap.size w w') : IsKept w' v x := by
  obtain ⟨u, rfl, hu, i⟩ := h
  exact ⟨u, rfl, hu.stays hb, i⟩

theorem FindOne_any (u : Value) (x : Kp) (M : Int) (b : Nat) (W : World) (hx : IsKept W u x) (hc : W.cell? ⟨b, 0, none⟩ = some (.int .i64 M)) :
    Calls Tryz.prog 61 #[u, .pointer (some ⟨b, 0, none⟩)] W fun e w' => e = .returned (.bool (decide (x.1 = M))) ∧ Below W.heap.size W w' := by
  obtain ⟨y, rfl, hy, _⟩ := hx
  obtain ⟨a, c, rfl, _⟩ := hy.opened
  obtain ⟨n, N, l⟩ := x
  have S0 := (Since.refl W).alloc (.cells #[.int .i64 n, .int .i64 N, .slice a l.length c] 60)
  have hc' := (S0.below.cell (p := ⟨b, 0, none⟩) (cell_lt hc)).trans hc
  clear hc hy
  go_enter Tryz.func61, Tryz.ntmps61
  go_wp2_with fail
  go_ret
  exact ⟨ret_bool rfl, S0.below⟩

set_option maxRecDepth 100000 in
set_option maxHeartbeats 2000000 in
theorem IndexKepts_any (F : Nat) (eF : ∀ args w, (callFunc F args).run Tryz.prog w = .ok (.enter F args) w) (caps : Array Value) (p : Kp → Bool) (v : Value) (l : List Kp) (W : World) (hv : IsKepts W v l)
    (hF : ∀ u z w, z ∈ l → Since W.heap.size W w → IsKept w u z → Calls Tryz.prog F (#[u] ++ caps) w fun e w' => e = .returned (.bool (p z)) ∧ Below w.heap.size w w') :
    Calls Tryz.prog 60 #[v, .func (.func F) #[] caps] W fun e w' => e = .returned (.int .i64 (findFrom p l 0)) ∧ Below W.heap.size W w' := by
  obtain ⟨a, c, rfl, hcap, ⟨hm, hcm, _⟩, _⟩ := hv.opened
  have HF := Lib.hid hF
  clear hF
  go_enter Tryz.func60, Tryz.ntmps60
  go_wp2_with fail
  go_loopw [8] (fun i wr => ∃ k : Nat, k ≤ l.length ∧ i = .int .i64 k ∧ Since W.heap.size W wr ∧ findFrom p (l.drop k) k = findFrom p l 0) (fun i _ => l.length - (intOf i).toNat)
  case atStart => exact ⟨0, by omega, rfl, Since.refl W, rfl⟩
  case round =>
    obtain ⟨k, hk, rfl, hS, hq⟩ := hrel
    have HQ := Lib.hid hq
    clear hq
    by_cases hlt : k < l.length
    · obtain ⟨g, off, u, cu, rfl, k0, k1, k2, hp, hi⟩ := kept_at (hv.later RKept.stays (Dirty.old hS.below _)) (List.getElem?_eq_getElem hlt)
      have HD := Lib.hid (List.drop_eq_getElem_cons hlt)
      have HM := Lib.hid (List.getElem_mem hlt)
      generalize l[k] = x at *
      have hver : IsKept wr (.agg #[.int .i64 x.1, .int .i64 x.2.1, .slice u x.2.2.length cu]) x := ⟨_, rfl, hp, hi⟩
      have HVER := Lib.hid hver
      obtain ⟨T, hT⟩ : ∃ T, T = p x := ⟨_, rfl⟩
      have HT := Lib.hid hT
      clear hT hver hp hi
      cases T with
      | true =>
        have HH := Lib.hid (show findFrom p l 0 = (k : Int) by rw [← HQ.out, HD.out]; simp [findFrom, ← HT.out])
        go_wp2_with (go_at_fn F; refine (HF.out _ x _ HM.out hS HVER.out).mono ?_; rintro e w' ⟨rfl, hb'⟩; rw [← HT.out])
        go_ret
        exact ⟨ret_int HH.out.symm, (hS.step hb').below⟩
      | false =>
        have HH := Lib.hid (show findFrom p (l.drop (k + 1)) (k + 1) = findFrom p l 0 by rw [← HQ.out, HD.out]; simp [findFrom, ← HT.out])
        go_wp2_with (go_at_fn F; refine (HF.out _ x _ HM.out hS HVER.out).mono ?_; rintro e w' ⟨rfl, hb'⟩; rw [← HT.out])
        clear k0 k1 k2
        go_roundw
        case rel => exact ⟨k + 1, by omega, by go_num, hS.step hb', HH.out⟩
        case measure => simp [intOf]; omega
    · obtain rfl : l.length = k := by omega
      go_wp2_with fail
      go_ret
      refine ⟨ret_int ?_, hS.below⟩
      rw [← HQ.out]
      simp [findFrom]

set_option maxRecDepth 100000 in
set_option maxHeartbeats 1000000 in
theorem Find_any (t : Bool) (r : Int) (v : Value) (l : List Kp) (M : Int) (W : World) (hv : IsKepts W v l) :
    Calls Tryz.prog 23 #[.agg #[.bool t, .int .i64 r, v], .int .i64 M] W fun e w' => e = .returned (.int .i64 (findV M l 0)) ∧ Below W.heap.size W w' := by
  obtain ⟨a, c, rfl, _⟩ := hv.opened
  have S0 := ((Since.refl W).alloc (.cells #[.bool t, .int .i64 r, .slice a l.length c] 45)).alloc (.cells #[.int .i64 M] 3)
  have HV := Lib.hid (hv.stays RKept.stays S0.below)
  have c1 : ((W.alloc (.cells #[.bool t, .int .i64 r, .slice a l.length c] 45)).alloc (.cells #[.int .i64 M] 3)).cell? ⟨W.heap.size + 1, 0, none⟩ = some (.int .i64 M) := by go_simp
  have HE := Lib.hid (findV_from M l 0)
  clear hv
  go_enter Tryz.func23, Tryz.ntmps23
  go_wp2_with fail
  generalize (W.alloc (.cells #[.bool t, .int .i64 r, .slice a l.length c] 45)).alloc (.cells #[.int .i64 M] 3) = w1 at *
  obtain ⟨B, hB⟩ : ∃ B, B = W.heap.size + 1 := ⟨_, rfl⟩
  rw [← hB] at c1 ⊢
  have l1 := cell_lt c1
  clear hB
  refine (IndexKepts_any 61 (fun _ _ => rfl) #[.pointer (some ⟨B, 0, none⟩)] (fun x => decide (x.1 = M)) _ l _ HV.out (fun u z w _ hSw hz => FindOne_any u z M B w hz ((hSw.below.cell (p := ⟨B, 0, none⟩) l1).trans c1))).mono ?_
  rintro e w2 ⟨rfl, hb2⟩
  rw [HE.out]
  have S2 := S0.step hb2
  clear c1 l1 hb2
  go_wp2_with fail
  go_ret
  exact ⟨rfl, S2.below⟩

set_option maxRecDepth 100000 in
set_option maxHeartbeats 2000000 in
theorem At_any (t : Bool) (r : Int) (v : Value) (l : List Kp) (M : Int) (W : World) (hv : IsKepts W v l) :
    Calls Tryz.prog 32 #[.agg #[.bool t, .int .i64 r, v], .int .i64 M] W fun e w' => e = .returned (.int .i64 (findV M l 0)) ∧ Below W.heap.size W w' := by
  obtain ⟨a, c, rfl, hcap, ⟨hm, hcm, _⟩, _⟩ := hv.opened
  have S0 := (Since.refl W).alloc (.cells #[.bool t, .int .i64 r, .slice a l.length c] 45)
  have hv0 := hv.stays RKept.stays S0.below
  clear hv
  go_enter Tryz.func32, Tryz.ntmps32
  go_wp2_with fail
  generalize W.alloc (.cells #[.bool t, .int .i64 r, .slice a l.length c] 45) = w0 at *
  go_loopw [10] (fun i wr => ∃ k : Nat, k ≤ l.length ∧ i = .int .i64 k ∧ Since w0.heap.size w0 wr ∧ findV M (l.drop k) k = findV M l 0) (fun i _ => l.length - (intOf i).toNat)
  case atStart => exact ⟨0, by omega, rfl, Since.refl w0, rfl⟩
  case round =>
    obtain ⟨k, hk, rfl, hS, hq⟩ := hrel
    have HQ := Lib.hid hq
    clear hq
    by_cases hlt : k < l.length
    · obtain ⟨g, off, u, cu, rfl, k0, k1, k2, hp, hi⟩ := kept_at (hv0.later RKept.stays (Dirty.old hS.below _)) (List.getElem?_eq_getElem hlt)
      have HD := Lib.hid (List.drop_eq_getElem_cons hlt)
      generalize l[k] = x at *
      have S1 := hS.alloc (.cells #[.int .i64 x.1, .int .i64 x.2.1, .slice u x.2.2.length cu] 60)
      clear hp hi
      by_cases hx : x.1 = M
      · have HH := Lib.hid (show findV M l 0 = (k : Int) by rw [← HQ.out, HD.out]; simp [findV, hx])
        have hd : (x.1 == M) = true := by simpa using hx
        clear hx
        go_wp2_with fail
        go_ret
        exact ⟨ret_int HH.out.symm, (S0.step S1.below).below⟩
      · have HH := Lib.hid (show findV M (l.drop (k + 1)) (k + 1) = findV M l 0 by rw [← HQ.out, HD.out]; simp [findV, hx])
        have hd : (x.1 == M) = false := by simpa using hx
        clear hx
        go_wp2_with fail
        clear k0 k1 k2
        go_roundw
        case rel => exact ⟨k + 1, by omega, by go_num, S1, HH.out⟩
        case measure => simp [intOf]; omega
    · obtain rfl : l.length = k := by omega
      go_wp2_with fail
      go_ret
      refine ⟨ret_int ?_, (S0.step hS.below).below⟩
      rw [← HQ.out]
      simp [findV]

end Go.Proofs.YtjakdgchfimhkaaGreat
