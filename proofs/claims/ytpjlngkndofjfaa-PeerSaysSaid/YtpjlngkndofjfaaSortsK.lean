/-
  slices.SortFunc at kept shares of which no two have one version, by what the library proves of it.
  The library's slices.SortFunc, laid at kept shares: the numbers of this seat.
  slices.SortFunc at kept shares, over this program.
-/
import Derived.Shelf.SlSortCmp.WholeK
import Derived.Test.YtpjlngkndofjfaaDrop
import Derived.Shelf.SlLaysF0
import Derived.Test.YtpjlngkndofjfaaPeers
namespace Go.Proofs.Ytpjlngkndofjfaa
open Go.Shelf Go.RowKit Go.Sort

theorem kept_ext {c r : List Kp} (hc : c.Pairwise (fun a b => a.1 < b.1)) (hr : r.Pairwise (fun a b => a.1 < b.1)) (h : ∀ x, x ∈ c ↔ x ∈ r) : c = r := by
  induction c generalizing r with
  | nil => cases r with
    | nil => rfl
    | cons y r => have := (h y).2 (by simp); simp at this
  | cons x c ih => cases r with
    | nil => have := (h x).1 (by simp); simp at this
    | cons y r =>
      have hc' := List.pairwise_cons.1 hc
      have hr' := List.pairwise_cons.1 hr
      have hxy : x = y := by
        have h1 : x = y ∨ x ∈ r := by simpa using (h x).1 (by simp)
        have h2 : y = x ∨ y ∈ c := by simpa using (h y).2 (by simp)
        rcases h1 with h1 | h1
        · exact h1
        · rcases h2 with h2 | h2
          · exact h2.symm
          · have a1 := hr'.1 x h1
            have a2 := hc'.1 y h2
            omega
      subst hxy
      rw [ih hc'.2 hr'.2 (fun z => ?_)]
      have hz := h z
      simp only [List.mem_cons] at hz
      constructor
      · intro hzc
        rcases hz.1 (Or.inr hzc) with rfl | hh
        · have := hc'.1 z hzc; omega
        · exact hh
      · intro hzr
        rcases hz.2 (Or.inr hzr) with rfl | hh
        · have := hr'.1 z hzr; omega
        · exact hh

/-- A kept share, and where its numbers lie. -/
abbrev EK := Kp × (Option Addr × Nat × Nat)
def encK (p : EK) : List Value := [.int .i64 p.1.1, .int .i64 p.1.2.1, .slice p.2.1 p.2.2.1 p.2.2.2]
def cfK (p q : EK) : Int := if p.1.1 < q.1.1 then -1 else 1
theorem ltK (p q : EK) : ltOf cfK p q = decide (p.1.1 < q.1.1) := by
  unfold ltOf cfK
  by_cases h : p.1.1 < q.1.1 <;> simp [h]
theorem swoK : SWO (ltOf cfK) where
  irrefl x := by rw [ltK]; simp
  trans x y z h1 h2 := by rw [ltK] at *; simp at *; omega
  ntrans x y z h1 h2 := by rw [ltK] at *; simp at *; omega
theorem encK_len (x : EK) : (encK x).length = 3 := rfl
theorem encK_one (x : EK) : ∀ v ∈ encK x, v.oneCell' = true := by
  intro v hv
  simp [encK] at hv
  rcases hv with rfl | rfl | rfl <;> rfl
theorem enc_list : ∀ (rows : List (List Value)) (l : List Kp), rows.length = l.length → (∀ (i : Nat) (r : List Value) (x : Kp), rows[i]? = some r → l[i]? = some x → ∃ q, r = encK (x, q)) → ∃ es : List EK, es.map (·.1) = l ∧ es.map encK = rows
  | [], [], _, _ => ⟨[], rfl, rfl⟩
  | [], _ :: _, h, _ => by simp at h
  | _ :: _, [], h, _ => by simp at h
  | r :: rows, x :: l, h, hq => by
    obtain ⟨q, hr⟩ := hq 0 r x rfl rfl
    obtain ⟨es, h1, h2⟩ := enc_list rows l (by simpa using h) (fun i r x hr hx => hq (i + 1) r x (by simpa using hr) (by simpa using hx))
    exact ⟨(x, q) :: es, by simp [h1], by simp [h2, hr]⟩

set_option maxRecDepth 100000 in
set_option maxHeartbeats 1000000 in
theorem SortCmp_any (x y : EK) (W : World) : Calls Try.prog 45 #[.agg (encK x).toArray, .agg (encK y).toArray] W fun e w' => e = .returned (.int .i64 (cfK x y)) ∧ ∃ q os', w' = grow (W.drewN q) os' := by
  obtain ⟨⟨xv, xn, xl⟩, xa, xm, xc⟩ := x
  obtain ⟨⟨yv, yn, yl⟩, ya, ym, yc⟩ := y
  have hg : (W.alloc (.cells #[.int .i64 xv, .int .i64 xn, .slice xa xm xc] 44)).alloc (.cells #[.int .i64 yv, .int .i64 yn, .slice ya ym yc] 44) = grow (W.drewN 0) #[.cells #[.int .i64 xv, .int .i64 xn, .slice xa xm xc] 44, .cells #[.int .i64 yv, .int .i64 yn, .slice ya ym yc] 44] := by
    rw [alloc_eq_grow, alloc_eq_grow, grow_grow]; rfl
  have HG := Lib.hid hg
  clear hg
  change Calls Try.prog 45 #[.agg #[.int .i64 xv, .int .i64 xn, .slice xa xm xc], .agg #[.int .i64 yv, .int .i64 yn, .slice ya ym yc]] W _
  by_cases h : xv < yv
  · have HC := Lib.hid (show cfK ((xv, xn, xl), xa, xm, xc) ((yv, yn, yl), ya, ym, yc) = -1 by simp [cfK, h])
    go_enter Try.func45, Try.ntmps45
    go_wp2_with fail
    go_ret
    exact ⟨ret_int HC.out.symm, 0, _, HG.out⟩
  · have HC := Lib.hid (show cfK ((xv, xn, xl), xa, xm, xc) ((yv, yn, yl), ya, ym, yc) = 1 by simp [cfK, h])
    go_enter Try.func45, Try.ntmps45
    go_wp2_with fail
    go_ret
    exact ⟨ret_int HC.out.symm, 0, _, HG.out⟩

theorem grownBy_sortedK {w : World} {g n : Nat} {os : Array Obj} (d : Array EK) : w.grownBy (sortWorldK encK 3 w g 0 n d os) (some g) := by
  unfold sortWorldK putRowK
  refine ⟨rfl, rfl, rfl, by simp, fun k hk hne => ?_⟩
  rw [heap_grow_old _ _ (by simpa using hk)]
  have : g ≠ k := fun e => hne (by rw [e])
  simp [putRow, mapBlock, Sort.ahead, Array.getElem?_modify, this]

theorem SortKepts_any {ρ : Ren} (L : SlLaysF0.n6 Try.prog ρ) (h6 : ρ.f 6 = 44) (h24 : ρ.t 24 = 44) (E : Nat → Prop) (base g cap : Nat) (l : List Kp) (W : World) (ho : OwnRow 3 RKept E W 44 base (.slice (some ⟨g, 0, none⟩) l.length cap) l)
    (hd : ∀ (i j : Nat) (x y : Kp), l[i]? = some x → l[j]? = some y → x.1 = y.1 → i = j) :
    Calls Try.prog 44 #[.slice (some ⟨g, 0, none⟩) l.length cap, .func (.func 45) #[] #[]] W fun e w' => e = .returned (.tuple #[]) ∧
      ∃ l', (∀ w'', Dirty (fun k => E k ∧ k ≠ g) w' w'' → IsKepts w'' (.slice (some ⟨g, 0, none⟩) l.length cap) l') ∧ (∀ x, x ∈ l' ↔ x ∈ l) ∧ l'.Pairwise (fun x y => x.1 < y.1) ∧ W.grownBy w' (some g) := by
  have htop := ho.top
  obtain ⟨_, _, ev, hcap, ⟨_, hcm, _⟩, _⟩ := ho.isRow.opened
  simp only [Value.slice.injEq, true_and] at ev
  obtain ⟨rfl, rfl⟩ := ev
  have hgl : g < W.heap.size := (ho.lt g rfl).2
  obtain ⟨rows, r1, r2, r3, r4⟩ := ho.row
  obtain ⟨es, he1, he2⟩ := enc_list rows l r2 (fun i r x hr hx => by
    obtain ⟨u, rfl, hu, _⟩ := (r4 i r x hr hx).now
    obtain ⟨a, c, rfl, _⟩ := hu.opened
    exact ⟨(a, x.2.2.length, c), rfl⟩)
  have hel : es.length = l.length := by rw [← he1, List.length_map]
  have hrd : ∀ e ∈ es, Framed (fun k => some g = some k ∨ E k) RKept W (encK e) e.1 := fun e he => by
    obtain ⟨i, hi⟩ := List.getElem?_of_mem he
    exact r4 i _ _ (by rw [← he2, List.getElem?_map, hi]; rfl) (by rw [← he1, List.getElem?_map, hi]; rfl)
  have hH : HoldsK encK 3 W g 0 es.toArray := by
    intro t ht
    have ht' : t < es.length * 3 := by simpa using ht
    have hi : t / 3 < es.length := by omega
    have hq : t % 3 < 3 := Nat.mod_lt _ (by omega)
    have hg : es[t / 3]? = some es[t / 3] := List.getElem?_eq_getElem hi
    have hrow : rows[t / 3]? = some (encK es[t / 3]) := by rw [← he2, List.getElem?_map, hg]; rfl
    have hc : (encK es[t / 3])[t % 3]? = some (encK es[t / 3])[t % 3] := List.getElem?_eq_getElem (by rw [encK_len]; exact hq)
    have hcell := r1.cells (g := g) rfl _ _ (flatten_get (fun r hr => (r3 r hr).1) hrow hc)
    rw [add_zero', Nat.div_add_mod' t 3] at hcell
    refine ⟨?_, by rw [Nat.zero_add]; exact ho.free rfl t⟩
    rw [get_flatK encK 3 es.toArray t (by simpa using ht'), Nat.zero_add, hcell]
    simp [hi]
    rw [hc]
    rfl
  have hsz : ∀ w, (Go.sizeOf (ρ.t 24)).run Try.prog w = .ok 3 w := fun w => by
    obtain ⟨i0, hi0, _, hs0, _⟩ := info_parts info_kept
    rw [h24]
    simp [Go.sizeOf, typeInfo, hi0, hs0]
  have hagg : ∀ w, (isAgg (ρ.t 24)).run Try.prog w = .ok true w := fun w => by
    rw [h24]
    exact Try.isAgg44 w
  have hcon := AnyQ.slices_SortFunc L 3 hagg hsz encK encK_len encK_one cfK swoK 45 #[] g 0 cap es.toArray W (fun _ _ => rfl) (fun _ _ _ _ x y => SortCmp_any x y _) hH hgl (by simp; omega)
  rw [h6] at hcon
  simp only [List.size_toArray, hel] at hcon
  refine hcon.mono ?_
  rintro e w' ⟨rfl, d', n, os, ⟨p1, _, p3⟩, hs, rfl⟩
  have hsz' : d'.size = es.length := by simpa using p1
  have hperm : d'.toList.Perm es := by
    have e1 : d'.extract 0 l.length = d' := by rw [← hel, ← hsz']; simp
    have e2 : es.toArray.extract 0 l.length = es.toArray := by rw [← hel]; simp
    rw [e1, e2] at p3
    simpa using p3
  have hl : (d'.toList.map (·.1)).Perm l := by rw [← he1]; exact hperm.map _
  have hH' := holdsK_sortWorldK encK 3 W g 0 n es.toArray d' os hgl hH (by simpa using hsz')
  have hdirty : Dirty (fun k => some g = some k ∨ E k) W (sortWorldK encK 3 W g 0 n d' os) := (Dirty.of_grown (grownBy_sortedK d')).mono fun k _ hk => Or.inl hk
  have hlen : (d'.toList.map (·.1)).length = l.length := hl.length_eq
  refine ⟨rfl, d'.toList.map (·.1), ?_, fun x => hl.mem_iff, ?_, grownBy_sortedK d'⟩
  · intro w'' hd''
    refine ⟨some ⟨g, 0, none⟩, cap, by rw [hlen], by omega, ⟨by omega, by omega, fun e => by cases e⟩, fun i x hx => ⟨g, 0, rfl, ?_⟩⟩
    have hi : i < d'.size := by
      have := (List.getElem?_eq_some_iff.1 hx).1
      simpa using this
    have hx' : x = d'[i].1 := by
      rw [List.getElem?_map, Array.getElem?_toList, Array.getElem?_eq_getElem hi] at hx
      simpa using hx.symm
    have hmem : d'[i] ∈ es := hperm.mem_iff.1 (by simp)
    subst hx'
    refine ⟨encK d'[i], rfl, fun j c hj => ?_, hrd _ hmem _ (hdirty.trans (hd''.mono fun k _ hk => Or.inr hk.1))⟩
    have hj3 : j < 3 := (List.getElem?_eq_some_iff.1 hj).1
    have hc := (hH'.cell (i := i) (c := j) hi hj3).1
    have : d'[i]! = d'[i] := by simp [hi]
    rw [this] at hc
    refine hd''.cell (hc.trans (by simp [hj])) (fun h => h.2 rfl)
  · have hne : (d'.toList.map (·.1)).Pairwise (fun x y => x.1 ≠ y.1) := by
      refine (hl.pairwise_iff (fun h => Ne.symm h)).2 ?_
      rw [List.pairwise_iff_getElem]
      intro i j hi hj hij e
      have := hd i j _ _ (List.getElem?_eq_getElem hi) (List.getElem?_eq_getElem hj) e
      omega
    rw [List.pairwise_iff_getElem] at hne ⊢
    intro i j hi hj hij
    have h1 := hne i j hi hj hij
    have hi' : i < d'.size := by simpa using hi
    have hj' : j < d'.size := by simpa using hj
    have h2 := hs i j (Nat.zero_le _) hij (by omega)
    rw [ltK] at h2
    simp [hi', hj'] at h1 h2 ⊢
    omega

end Go.Proofs.Ytpjlngkndofjfaa

namespace Go.Proofs.Ytpjlngkndofjfaa
def sortKept_ren : Go.Shelf.Ren := ⟨fun | 6 => 44 | 15 => 59 | 14 => 58 | 28 => 73 | 29 => 74 | 20 => 65 | 21 => 66 | 22 => 67 | 23 => 68 | 24 => 69 | 25 => 70 | 26 => 71 | 27 => 72 | 46 => 77 | 47 => 78 | 48 => 79 | 49 => 80 | 50 => 81 | 57 => 83 | n => n, fun | 22 => 35 | 24 => 44 | 25 => 75 | 3 => 3 | 39 => 86 | 0 => 0 | 53 => 99 | 55 => 101 | 4 => 4 | 46 => 92 | 45 => 91 | 50 => 96 | 5 => 5 | 9 => 9 | 66 => 103 | 70 => 107 | 76 => 109 | 77 => 110 | n => n, fun | n => n⟩
theorem sortKept : Go.Proofs.SlLaysF0.n6 Try.prog sortKept_ren := {
  mixed := by kernel_rfl,
  f6 := ⟨Try.f44.name, by decide, Try.func44.trans (congrArg some (by kernel_rfl))⟩,
  f14 := ⟨Try.f58.name, by decide, Try.func58.trans (congrArg some (by kernel_rfl))⟩,
  f15 := Try.func59.trans (congrArg some (by kernel_rfl)),
  f20 := ⟨Try.f65.name, by decide, Try.func65.trans (congrArg some (by kernel_rfl))⟩,
  f21 := ⟨Try.f66.name, by decide, Try.func66.trans (congrArg some (by kernel_rfl))⟩,
  f22 := ⟨Try.f67.name, by decide, Try.func67.trans (congrArg some (by kernel_rfl))⟩,
  f23 := ⟨Try.f68.name, by decide, Try.func68.trans (congrArg some (by kernel_rfl))⟩,
  f24 := ⟨Try.f69.name, by decide, Try.func69.trans (congrArg some (by kernel_rfl))⟩,
  f25 := ⟨Try.f70.name, by decide, Try.func70.trans (congrArg some (by kernel_rfl))⟩,
  f26 := ⟨Try.f71.name, by decide, Try.func71.trans (congrArg some (by kernel_rfl))⟩,
  f27 := ⟨Try.f72.name, by decide, Try.func72.trans (congrArg some (by kernel_rfl))⟩,
  f28 := Try.func73.trans (congrArg some (by kernel_rfl)),
  f29 := Try.func74.trans (congrArg some (by kernel_rfl)),
  f46 := ⟨Try.f77.name, by decide, Try.func77.trans (congrArg some (by kernel_rfl))⟩,
  f47 := Try.func78.trans (congrArg some (by kernel_rfl)),
  f48 := Try.func79.trans (congrArg some (by kernel_rfl)),
  f49 := ⟨Try.f80.name, by decide, Try.func80.trans (congrArg some (by kernel_rfl))⟩,
  f50 := ⟨Try.f81.name, by decide, Try.func81.trans (congrArg some (by kernel_rfl))⟩,
  f57 := ⟨Try.f83.name, by decide, Try.func83.trans (congrArg some (by kernel_rfl))⟩,
  t0 := Try.underlying0,
  a0 := Try.isAgg0,
  z0 := Try.sizeOf0,
  v0 := Try.zeroValue0,
  t3 := Try.underlying3,
  a3 := Try.isAgg3,
  z3 := Try.sizeOf3,
  v3 := Try.zeroValue3,
  t4 := Try.underlying4,
  a4 := Try.isAgg4,
  z4 := Try.sizeOf4,
  v4 := Try.zeroValue4,
  t5 := Try.underlying5,
  a5 := Try.isAgg5,
  z5 := Try.sizeOf5,
  v5 := Try.zeroValue5,
  t9 := Try.underlying9,
  a9 := Try.isAgg9,
  z9 := Try.sizeOf9,
  v9 := Try.zeroValue9,
  t22 := Try.underlying35,
  a22 := Try.isAgg35,
  z22 := Try.sizeOf35,
  v22 := Try.zeroValue35,
  t25 := Try.underlying75,
  a25 := Try.isAgg75,
  z25 := Try.sizeOf75,
  v25 := Try.zeroValue75,
  t39 := Try.underlying86,
  a39 := Try.isAgg86,
  z39 := Try.sizeOf86,
  v39 := Try.zeroValue86,
  t45 := Try.underlying91,
  a45 := Try.isAgg91,
  z45 := Try.sizeOf91,
  v45 := Try.zeroValue91,
  t46 := Try.underlying92,
  a46 := Try.isAgg92,
  z46 := Try.sizeOf92,
  v46 := Try.zeroValue92,
  t50 := Try.underlying96,
  a50 := Try.isAgg96,
  z50 := Try.sizeOf96,
  v50 := Try.zeroValue96,
  t53 := Try.underlying99,
  a53 := Try.isAgg99,
  z53 := Try.sizeOf99,
  v53 := Try.zeroValue99,
  t55 := Try.underlying101,
  a55 := Try.isAgg101,
  z55 := Try.sizeOf101,
  v55 := Try.zeroValue101,
  t66 := Try.underlying103,
  a66 := Try.isAgg103,
  z66 := Try.sizeOf103,
  v66 := Try.zeroValue103,
  t70 := Try.underlying107,
  a70 := Try.isAgg107,
  z70 := Try.sizeOf107,
  v70 := Try.zeroValue107,
  t76 := Try.underlying109,
  a76 := Try.isAgg109,
  z76 := Try.sizeOf109,
  v76 := Try.zeroValue109,
  t77 := Try.underlying110,
  a77 := Try.isAgg110,
  z77 := Try.sizeOf110,
  v77 := Try.zeroValue110
}
end Go.Proofs.Ytpjlngkndofjfaa

namespace Go.Proofs.Ytpjlngkndofjfaa
open Go.Shelf Go.RowKit Go.Sort

theorem SortL_any (E : Nat → Prop) (base g cap : Nat) (l : List Kp) (W : World) (ho : OwnRow 3 RKept E W 44 base (.slice (some ⟨g, 0, none⟩) l.length cap) l)
    (hd : ∀ (i j : Nat) (x y : Kp), l[i]? = some x → l[j]? = some y → x.1 = y.1 → i = j) :
    Calls Try.prog 44 #[.slice (some ⟨g, 0, none⟩) l.length cap, .func (.func 45) #[] #[]] W fun e w' => e = .returned (.tuple #[]) ∧
      ∃ l', (∀ w'', Dirty (fun k => E k ∧ k ≠ g) w' w'' → IsKepts w'' (.slice (some ⟨g, 0, none⟩) l.length cap) l') ∧ (∀ x, x ∈ l' ↔ x ∈ l) ∧ l'.Pairwise (fun x y => x.1 < y.1) ∧ W.grownBy w' (some g) :=
  SortKepts_any sortKept rfl rfl E base g cap l W ho hd

end Go.Proofs.Ytpjlngkndofjfaa
